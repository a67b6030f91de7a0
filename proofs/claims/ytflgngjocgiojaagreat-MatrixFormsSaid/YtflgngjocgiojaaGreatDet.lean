import Derived.Test.YtflgngjocgiojaaGreatMatO
set_option linter.all false
namespace Go.Proofs.YtflgngjocgiojaaGreat
theorem goodQ_iff {p q:Int}:goodQ p q=true↔0<q/\Nat.gcd p.natAbs q.natAbs=1:=by
 unfold goodQ;simp
theorem of_spec (n:Int) {d:Int} (h:d≠0):goodQ (ofN n d) (ofD n d)=true/\ofN n d*d=n*ofD n d/\(ofN n d).natAbs<=n.natAbs/\(ofD n d).natAbs<=d.natAbs:=by
 have hg:0<Nat.gcd n.natAbs d.natAbs:=Nat.gcd_pos_of_pos_right _ aO;obtain ⟨g,hgg⟩:=Zx (Nat.gcd n.natAbs d.natAbs);rw [hgg] at hg;have key:∀ (n' d':Int),n'.natAbs=n.natAbs->d'.natAbs=d.natAbs->0<d'->n'*d=n*d'->goodQ (n' / (g:Int)) (d' / (g:Int))=true/\n' / (g:Int)*d=n*(d' / (g:Int))/\(n' / (g:Int)).natAbs<=n.natAbs/\(d' / (g:Int)).natAbs<=d.natAbs:=fun n' d' h1 h2 h3 h4=>by
  have d1:(g:Int)∣n':=Int.ofNat_dvd_left.2 (by rw [h1,<- hgg]; exact Nat.gcd_dvd_left _ _);have d2:(g:Int)∣d':=Int.ofNat_dvd_left.2 (by rw [h2,<- hgg]; exact Nat.gcd_dvd_right _ _);obtain ⟨a,ha⟩:=d1;obtain ⟨b,hb⟩:=d2;have hg0:(g:Int)≠0:=aO
  rw [ha,hb,Int.mul_ediv_cancel_left _ hg0,Int.mul_ediv_cancel_left _ hg0];have e1:n.natAbs=g*a.natAbs:=by rw [<- h1,ha,Int.natAbs_mul]; rfl
  have e2:d.natAbs=g*b.natAbs:=by rw [<- h2,hb,Int.natAbs_mul]; rfl
  refine ⟨goodQ_iff.2 ⟨?_,?_⟩,?_,?_,?_⟩
  ·rw [hb] at h3;exact Int.pos_of_mul_pos_right h3 aO |> fun h=>h
  ·have h5:=hgg;rw [e1,e2,Nat.gcd_mul_left] at h5;exact Nat.eq_of_mul_eq_mul_left hg aO
  ·rw [ha,hb] at h4;have:(g:Int)*(a*d)=(g:Int)*(n*b):=by grind
   exact Int.eq_of_mul_eq_mul_left hg0 this
  ·rw [e1]; exact Nat.le_mul_of_pos_left _ hg
  ·rw [e2]; exact Nat.le_mul_of_pos_left _ hg
 unfold ofN ofD;rw [hgg]
 by_cases hd:d<0
 ·rw [if_pos hd,if_pos hd];exact key (-n) (-d) (Int.natAbs_neg n) (Int.natAbs_neg d) aO (by grind)
 ·rw [if_neg hd,if_neg hd];exact key n d rfl rfl aO rfl
theorem good_uniq {p q p' q':Int} (h:goodQ p q=true) (h':goodQ p' q'=true) (e:p*q'=p'*q):p=p'/\q=q':=by
 obtain ⟨h1,h2⟩:=goodQ_iff.1 h;obtain ⟨h3,h4⟩:=goodQ_iff.1 h';have en:p.natAbs*q'.natAbs=p'.natAbs*q.natAbs:=by rw [<- Int.natAbs_mul,<- Int.natAbs_mul,e]
 have d1:q.natAbs∣q'.natAbs:=Nat.Coprime.dvd_of_dvd_mul_left (show Nat.Coprime q.natAbs p.natAbs from (Nat.gcd_comm _ _).trans h2) ⟨p'.natAbs,by rw [en,Nat.mul_comm]⟩;have d2:q'.natAbs∣q.natAbs:=Nat.Coprime.dvd_of_dvd_mul_left (show Nat.Coprime q'.natAbs p'.natAbs from (Nat.gcd_comm _ _).trans h4) ⟨p.natAbs,by rw [<- en,Nat.mul_comm]⟩;have eq:q=q':=by have:=Nat.dvd_antisymm d1 d2; omega
 subst eq;exact ⟨Int.eq_of_mul_eq_mul_right aO e,rfl⟩
def toQ (n d:Int):QI:=(ofN n d,ofD n d)
theorem toQ_eq {n d n' d':Int} (h:d≠0) (h':d'≠0) (e:n*d'=n'*d):toQ n d=toQ n' d':=by
 obtain ⟨g1,e1,_⟩:=of_spec n h;obtain ⟨g2,e2,_⟩:=of_spec n' h';have q1:=(goodQ_iff.1 g1).1;have q2:=(goodQ_iff.1 g2).1;have:ofN n d*ofD n' d'=ofN n' d'*ofD n d:=by
  have h3:(d*d')*(ofN n d*ofD n' d')=(d*d')*(ofN n' d'*ofD n d):=by
   grind
  exact Int.eq_of_mul_eq_mul_left (Int.mul_ne_zero h h') h3
 obtain ⟨r1,r2⟩:=good_uniq g1 g2 this;exact Prod.ext r1 r2
theorem toQ_one (z:Int):toQ z 1=(z,1):=Prod.ext (ofN_one z) (ofD_one z)
theorem toQ_sm {n d:Int} (h:d≠0) (hn:Sm n) (hd:Sm d):SmQ (toQ n d):=by
 obtain ⟨g,_,h1,h2⟩:=of_spec n h;exact ⟨g,Nat.lt_of_le_of_lt h1 hn,Nat.lt_of_le_of_lt h2 hd⟩
section
variable {a b c d:Int}
theorem ofD_ne (n:Int) (h:d≠0):ofD n d≠0:=by have:=(goodQ_iff.1 (of_spec n h).1).1; omega
theorem mul_toQ (hb:b≠0) (hd:d≠0):mulQ (toQ a b) (toQ c d)=toQ (a*c) (b*d):=by
 have e1:=(of_spec a hb).2.1;have e2:=(of_spec c hd).2.1;refine toQ_eq (Int.mul_ne_zero (ofD_ne a hb) (ofD_ne c hd)) (Int.mul_ne_zero hb hd) ?_;show ofN a b*ofN c d*(b*d)=a*c*(ofD a b*ofD c d);have:(ofN a b*b)*(ofN c d*d)=(a*ofD a b)*(c*ofD c d):=by rw [e1,e2]
 grind
theorem sub_toQ (hb:b≠0) (hd:d≠0):subQ (toQ a b) (toQ c d)=toQ (a*d - c*b) (b*d):=by
 have e1:=(of_spec a hb).2.1;have e2:=(of_spec c hd).2.1;refine toQ_eq (Int.mul_ne_zero (ofD_ne a hb) (ofD_ne c hd)) (Int.mul_ne_zero hb hd) ?_;show (ofN a b*ofD c d + -ofN c d*ofD a b)*(b*d)=(a*d - c*b)*(ofD a b*ofD c d);grind
theorem add_toQ (hb:b≠0) (hd:d≠0):addQ (toQ a b) (toQ c d)=toQ (a*d+c*b) (b*d):=by
 have e1:=(of_spec a hb).2.1;have e2:=(of_spec c hd).2.1;refine toQ_eq (Int.mul_ne_zero (ofD_ne a hb) (ofD_ne c hd)) (Int.mul_ne_zero hb hd) ?_;show (ofN a b*ofD c d+ofN c d*ofD a b)*(b*d)=(a*d+c*b)*(ofD a b*ofD c d);grind
theorem div_toQ (hb:b≠0) (hc:c≠0):divQ (toQ a b) (c,1)=toQ a (b*c):=by
 have e1:=(of_spec a hb).2.1;refine toQ_eq (Int.mul_ne_zero (ofD_ne a hb) hc) (Int.mul_ne_zero hb hc) ?_;show ofN a b*1*(b*c)=a*(ofD a b*c);grind
end
end Go.Proofs.YtflgngjocgiojaaGreat
namespace Go.Proofs.YtflgngjocgiojaaGreat
open Go.RowKit
set_option maxHeartbeats 8000000
set_option maxRecDepth 100000
def pk3 (C1 b2 C2:Nat):Nat:=C1+18446744073709551616*(C2+18446744073709551616*b2)
def un1 (p:Nat):Nat:=p%18446744073709551616
def un2 (p:Nat):Nat:=p / 18446744073709551616%18446744073709551616
def un3 (p:Nat):Nat:=p / 18446744073709551616 / 18446744073709551616
theorem un_pk {C1 b2 C2:Nat} (h1:C1<18446744073709551616) (h2:C2<18446744073709551616):un1 (pk3 C1 b2 C2)=C1/\un2 (pk3 C1 b2 C2)=C2/\un3 (pk3 C1 b2 C2)=b2:=by
 unfold un1 un2 un3 pk3;refine ⟨aO,aO,aO⟩
def ratCB (T:List Nat) (B:Nat) (z y:Int):EBS T where
 val p:= .tuple #[ratC z y p.1 (un1 p.2) (un3 p.2) (un2 p.2),.bool true]
 R p u:=p.1∉T/\un3 p.2∉T/\NumC u p.1 (un1 p.2) z/\NumC u (un3 p.2) (un2 p.2) y/\B<=un3 p.2/\un3 p.2<u.heap.size
 st _ _ _ h k:=⟨h.1,h.2.1,h.2.2.1.upd h.1 k,h.2.2.2.1.upd h.2.1 k,h.2.2.2.2.1,Zl h.2.2.2.2.2 k.size⟩
theorem ratCB_val {T:List Nat} {B:Nat} {z y:Int} {p:Nat×Nat}:(ratCB T B z y).val p = .tuple #[ratC z y p.1 (un1 p.2) (un3 p.2) (un2 p.2),.bool true]:=rfl
theorem NumC.cap {w:World} {b C:Nat} {z:Int} (h:NumC w b C z):∃ C',C'<18446744073709551616/\slC z b C'=slC z b C/\NumC w b C' z:=by
 by_cases h1:fits z=true/\z≠0
 ·exact ⟨C,by have:=(h h1.1 h1.2).2.1; omega,rfl,h⟩
 ·refine ⟨0,aO,?_,fun a b=>absurd ⟨a,b⟩ h1⟩;unfold slC;rw [if_neg h1,if_neg h1]
theorem NumC.apart {w:World} {b C:Nat} {z:Int} (h:NumC w b C z) (hf:fits z=true) (h0:z≠0) {e:Nat} {cs:Array Value} (ho:Own w e cs) (hn:noU cs):b≠e:=fun he=>by
 subst he;obtain ⟨_,_,h3⟩:=h hf h0;have hp:0<(digs z.natAbs).length:=by
  rcases Nat.eq_zero_or_pos (digs z.natAbs).length with h4 | h4
  ·have:=digs_nil.1 (List.eq_nil_of_length_eq_zero h4);omega
  ·exact h4
 obtain ⟨b',off,e',_,hc⟩:=h3.row hp;cases e';have h4:=hc 0 hp;rw [ho.cell] at h4;exact hn _ _ h4
theorem ref3_Frac {w:World} (n d:Int) (h1:-9223372036854775808<=n) (h2:n<=9223372036854775807) (h3:1<=d) (h4:d<=9223372036854775807) :
 Calls Tryz.prog 40 #[.agg #[.int .i64 n,.int .i64 d]] w (RetY w (ofN n d) (ofD n d)):=by
 obtain ⟨z,hz⟩:=Zx (ofN n d);obtain ⟨y,hy⟩:=Zx (ofD n d);rw [hz,hy];obtain ⟨g1,_,g3,g4⟩:=of_spec n (d:=d) aO;rw [hz] at g1 g3;rw [hy] at g1 g4;have hy0:0<y:=(goodQ_iff.1 g1).1;have HF:Hid (fits z=true/\fits y=true/\y≠0/\fits n=true/\fits d=true):=Zh ⟨fits_small aO,fits_small aO,aO,fits_small aO,fits_small aO⟩;have HE:Hid (ofN n d=z/\ofD n d=y/\easyD n.natAbs/\easyD d.natAbs):=Zh ⟨hz,hy,by unfold easyD; omega,by unfold easyD; omega⟩;have hd1:¬ d<1:=aO
 have HN:=Zh (Zi h1 (Zi h2 (Zi h3 h4)));clear hz hy g1 g3 g4 hy0 h1 h2 h3 h4;have hW:=((Zb w.heap.size w).alloc (Zr _) (.cells #[.int .i64 n,.int .i64 d] 79)).alloc aS (.cells nz2 37);have o1:Own ((w.alloc (.cells #[.int .i64 n,.int .i64 d] 79)).alloc (.cells nz2 37)) w.heap.size #[.int .i64 n,.int .i64 d]:=aOwn;have o2:Own ((w.alloc (.cells #[.int .i64 n,.int .i64 d] 79)).alloc (.cells nz2 37)) (w.heap.size+1) nz2:=aOwn;go_enter Tryz.func40,Tryz.ntmps40;go_wp2;generalize ((w.alloc (.cells #[.int .i64 n,.int .i64 d] 79)).alloc (.cells nz2 37))=W0 at *;have hzW:=hW.size;have o2l:=o2.lt;refine region_gen (T:=[]) [.make 2 [] (numCB [] n),.make 5 [] (numCB [] d),.make 6 [2,5] (ratCB [] W0.heap.size z y),.need 7 [6],.need 9 [],.make 10 [] (ownB [] nz2 (fun p=>.pointer (some ⟨p,0,none⟩)))] 11 0 40 (fun _ _=>True) (fun _ _ _ _ _=>trivial) trivial aK aK (by rfl) ?_;have q_d1:=fun v y=>(o1.later (v:=v) (T:=[]) aS y).cell
 unfold genWalk;refine ⟨_,pz1,?_⟩;refine one_of (by rfl) ⟨fun f=>⟨rfl,fun u hu _=>?_⟩,?_⟩
 ·refine make_call (f:=43) (args:=#[.int .i64 n]) (by (try simp only [LN]); (try simp only [VB1,numCB_val,ratCB_val]); go_simp) ?_;have q:=ref3_whole (w:=u) n HN.out.1 HN.out.2.1;refine q.mono ?_;rintro e wx ⟨⟨b,C,rfl,q1,q2,q3⟩,hbx⟩;exact ⟨(b,C),rfl,q2,q3,hbx,aS,q1⟩
 have q_d1:=fun v y=>(o1.later (v:=v) (T:=[]) aS y).cell
 unfold genWalk;refine ⟨_,pz10,?_⟩;refine one_of (by rfl) ⟨fun f=>⟨rfl,fun u hu _=>?_⟩,?_⟩
 ·refine make_call (f:=43) (args:=#[.int .i64 d]) (by (try simp only [LN]); (try simp only [VB1,numCB_val,ratCB_val]); go_simp) ?_;have q:=ref3_whole (w:=u) d (by have:=HN.out.2.2.1; omega) HN.out.2.2.2;refine q.mono ?_;rintro e wx ⟨⟨b,C,rfl,q1,q2,q3⟩,hbx⟩;exact ⟨(b,C),rfl,q2,q3,hbx,aS,q1⟩
 unfold genWalk;refine ⟨_,pz10,?_⟩;refine one_of (by rfl) ⟨fun f=>⟨rfl,fun u hu hm=>?_⟩,?_⟩
 ·refine make_call (f:=44) (args:=#[numC n (f 2).1 (f 2).2,numC d (f 5).1 (f 5).2]) (by (try simp only [LN]); (try simp only [VB1,numCB_val,ratCB_val]); go_simp) ?_;have m2:NumC u (f 2).1 (f 2).2 n:=(hm 2 aS).2;have m5:NumC u (f 5).1 (f 5).2 d:=(hm 5 aS).2;have q:=ref3_Of (m2.at_ HF.out.2.2.2.1) (m5.at_ HF.out.2.2.2.2) HE.out.2.2.1 HE.out.2.2.2 (by have:=HN.out.2.2.1; omega);rw [HE.out.1,HE.out.2.1] at q;refine q.mono ?_;rintro e wx ⟨⟨b1,C1,b2,C2,rfl,q1,q2,q3,q4,q5,q6⟩,hbx⟩;obtain ⟨D1,k1,k2,k3⟩:=q1.cap;obtain ⟨D2,k4,k5,k6⟩:=q2.cap;obtain ⟨e1,e2,e3⟩:=un_pk (b2:=b2) k1 k4;refine ⟨(b1,pk3 D1 b2 D2),?_,q3,q4,hbx,aS,aS,?_,?_,?_,?_⟩
  ·rw [ratCB_val,ratC,ratC];simp only [e1,e2,e3];rw [k2,k5]
  ·simp only [e1]; exact k3
  ·simp only [e2,e3]; exact k6
  ·simp only [e3]; have:=hu.1; omega
  ·simp only [e3]; exact q6
 unfold genWalk;refine ⟨_,pz10,?_⟩;unfold genWalk;refine ⟨_,pz10,?_⟩;unfold genWalk;refine ⟨_,pz10,?_⟩;refine one_of (by rfl) ⟨fun f=>⟨rfl,fun u hu _=>?_⟩,?_⟩
 ·refine make_own (e:=37) (by (try simp only [LN]); (try simp only [VB1,numCB_val,ratCB_val]); go_simp) aS
 unfold genWalk;refine ⟨_,pz10,?_⟩;intro f u' hup hph hmade hdist;obtain ⟨⟨_,_,oN,oM,loM,hiM⟩,loN,hiN⟩:=hmade 6 aO rfl;obtain ⟨⟨_,o3⟩,lo3,hi3⟩:=hmade 10 aO rfl;have hne1:=hdist 6 10 aO aO rfl rfl aO;replace oN:NumC u' (f 6).1 (un1 (f 6).2) z:=oN;replace oM:NumC u' (un3 (f 6).2) (un2 (f 6).2) y:=oM;replace o3:Own u' (f 10).1 nz2:=o3;have hne2:=oM.apart HF.out.2.1 HF.out.2.2.1 o3 noU_rat;clear hmade hdist hph;simp only [TK,Nat.reduceSub,Nat.reduceAdd]
 (try simp only [LN])
 (try simp only [VB1,numCB_val,ratCB_val,ratC])
 generalize (f 6).1=b1 at *;generalize un1 (f 6).2=C1 at *;generalize un3 (f 6).2=b2 at *;generalize un2 (f 6).2=C2 at *;generalize (f 10).1=b3 at *;generalize numC n (f 2).1 (f 2).2=y2 at *;generalize numC d (f 5).1 (f 5).2=y5 at *;clear f;have hwU:Below w.heap.size w u':=Upd.below hW hup aS;have q4:=o2.upd hup aS;have hkT:=Upd.keeps (Keeps.refl _ _) hup;obtain ⟨A7,n7,c7,hs7⟩:=slC_form z b1 C1;obtain ⟨A8,n8,c8,hs8⟩:=slC_form y b2 C2;rw [hs7,hs8];have HSL:=Zh (Zi hs7 hs8);have o3c:=o3.cell;have o3f:=o3.thaw;have hB2:w.heap.size+1<b3:=aO
 have hB3:w.heap.size+1<b1:=aO
 have hB4:w.heap.size+1<b2:=aO
 clear hs7 hs8 o1 o2 hup hW;refine effc_mem (by rfl) (fun K hK=>?_);go_simp;refine hK _ _ ((((hkT.new lo3 _).new lo3 _).new lo3 _).new lo3 _) (fun u3 hu3=>?_);clear hK K;have hs3:=hu3.size;simp [World.setCell] at hs3;have hw2:=(((((hwU.setCell aT _).setCell aT _).setCell aT _).setCell aT _)).trans (hu3.mono (by simp [World.setCell]; exact hwU.size));have k3:=(((((o3.set 0 (.bool (sgnN z))).set 1 (.slice A7 n7 c7)).set 2 (.bool (sgnN y))).set 3 (.slice A8 n8 c8))).below hu3;have k4:=(((((q4.far aT _).far aT _).far aT _).far aT _)).below hu3;have N1:=Zh (Zi hB3 (Zi (Zl hiN hs3) ((((((oN.far aT _).far aT _).far aT _).far aT _)).below hu3)));have N2:=Zh (Zi hB4 (Zi (Zl hiM hs3) ((((((oM.far aT _).far aT _).far aT _).far aT _)).below hu3)));have hk1:=(((((hkT.new lo3 _).new lo3 _).new lo3 _).new lo3 _)).later hu3;clear o3 o3c o3f q4 oN oM hkT hu3 hwU;refine effc_mem (by rfl) (fun K hK=>?_);go_simp;refine hK _ _ hk1 (fun u4 hu4=>?_);clear hK K;refine effc_nil ?_
 (try simp only [LN])
 have hw3:=hw2.trans (hu4.mono hw2.size);have j3:=k3.below hu4;have j4:=k4.below hu4;have J1:=Zh (Zi N1.out.1 (Zi (Zl N1.out.2.1 hu4.size) (N1.out.2.2.below hu4)));have J2:=Zh (Zi N2.out.1 (Zi (Zl N2.out.2.1 hu4.size) (N2.out.2.2.below hu4)));have j3c:=j3.cell;have j4c:=j4.cell;have j4f:=j4.thaw;have j4z:=j4.lt;clear k3 k4 N1 N2 hu4 hw2 hk1;go_wp2;have hz3:=hw3.size;refine retC (b:=w.heap.size+1) (v:= .agg #[(.bool (sgnN z)),(.slice A7 n7 c7),(.bool (sgnN y)),(.slice A8 n8 c8)]) ((((j4.set 0 (.bool (sgnN z))).set 1 (.slice A7 n7 c7)).set 2 (.bool (sgnN y))).set 3 (.slice A8 n8 c8)) (fun w' hw'=>by simp [results,Tryz.results40,go_sem,hw']) rfl ⟨⟨_,_,_,_,_,_,_,_,rfl,ratX_ref (((((J1.out.2.2.far aT _).far aT _).far aT _).far aT _)) (((((J2.out.2.2.far aT _).far aT _).far aT _).far aT _)) HF.out.1 HF.out.2.1 (by have:=J1.out.2.1; simp [World.setCell]; omega) (by have:=J2.out.2.1; simp [World.setCell]; omega) (by show _<=_; omega) (by show _<=_; omega) HSL.out.1 HSL.out.2⟩,((((hw3.setCell aS _).setCell aS _).setCell aS _).setCell aS _)⟩
theorem law05_half {w:World} (n:Int) (h1:-9223372036854775808<=n) (h2:n<=9223372036854775807):Calls Tryz.prog 33 #[.int .i64 n] w (RetY w (ofN n 2) (ofD n 2)):=by
 obtain ⟨z,hz⟩:=Zx (ofN n 2);obtain ⟨y,hy⟩:=Zx (ofD n 2);rw [hz,hy];have HE:=Zh (Zi hz (Zi hy (Zi h1 h2)));clear hz hy h1 h2;have hW:=(Zb w.heap.size w).alloc (Zr _) (.cells nz2 37);have o2:Own (w.alloc (.cells nz2 37)) w.heap.size nz2:=aOwn;go_enter Tryz.func33,Tryz.ntmps33;go_wp2_with fail;generalize (w.alloc (.cells nz2 37))=W0 at *;have q:=ref3_Frac (w:=W0) n 2 HE.out.2.2.1 HE.out.2.2.2 aO aO;rw [HE.out.1,HE.out.2.1] at q;refine Zd q ?_;clear q;rintro e u1 ⟨⟨s1,A1,n1,c1,s2,A2,n2,c2,rfl,hx⟩,hb⟩;have hw1:=hW.trans (hb.mono hW.size);have p2:=o2.below hb;have p2c:=p2.cell;have p2f:=p2.thaw;have p2z:=p2.lt;have HX:=Zh (Zi o2.lt hx);clear hb hW o2 hx;go_wp2;refine retC (b:=w.heap.size) (v:= .agg #[.bool s1,.slice A1 n1 c1,.bool s2,.slice A2 n2 c2]) ((((p2.set 0 _).set 1 _).set 2 _).set 3 _) (fun w' hw'=>by simp [results,Tryz.results33,go_sem,hw']) rfl ⟨⟨_,_,_,_,_,_,_,_,rfl,HX.out.2.move (by simp [World.setCell]) fun b _ hX=>⟨?_,?_⟩⟩,(((hw1.setCell (Zr _) _).setCell (Zr _) _).setCell (Zr _) _).setCell (Zr _) _⟩
 ·have hX:W0.heap.size<=b:=hX;have h9:b≠w.heap.size:=by have:=HX.out.1; omega
  exact (((Below.heap_setCell _ _ _ b h9).trans (Below.heap_setCell _ _ _ b h9)).trans (Below.heap_setCell _ _ _ b h9)).trans (Below.heap_setCell _ _ _ b h9)
 ·have hX:W0.heap.size<=b:=hX;show w.heap.size<=b;have:=HX.out.1;omega
theorem num_sameR {w:World} {v1 v2:Value} {z:Int} (h1:NumAt w v1 z) (h2:NumAt w v2 z):Calls Tryz.prog 77 #[v1,v2] w fun r w'=>r = .returned (.bool true)/\Below w.heap.size w w':=by
 have q:=num_sameQ h1 h2;rw [decide_eq_true rfl] at q;exact q
def sameA (P Q:Nat->QI):Nat->Bool
 | 0=>true
 | k+1=>sameA P Q k&&(decide ((P k).1=(Q k).1)&&decide ((P k).2=(Q k).2))
theorem sameA_no {P Q:Nat->QI} {k:Nat} (h:(decide ((P k).1=(Q k).1)&&decide ((P k).2=(Q k).2))=false):∀ n,k<n->sameA P Q n=false
 | 0,hn=>absurd hn (Nat.not_lt_zero k)
 | n+1,hn=>by
  rw [sameA]
  by_cases e:k=n
  ·subst e; rw [h,Bool.and_false]
  ·rw [sameA_no h n aO,Bool.false_and]
theorem sameA_eq {P Q:Nat->QI}:∀ n,(∀ k,k<n->P k=Q k)->sameA P Q n=true
 | 0,_=>rfl
 | n+1,h=>by rw [sameA,sameA_eq n (fun k hk=>h k aO),h n aO]; simp
theorem RatAt.keeps {w u:World} {v:Value} {p q:Int} (h:RatAt w v p q) (hk:Keeps [] w u):RatAt u v p q:=by
 obtain ⟨s1,A1,n1,c1,s2,A2,n2,c2,e,h1,h2⟩:=h;exact ⟨s1,A1,n1,c1,s2,A2,n2,c2,e,h1.keeps hk,h2.keeps hk⟩
theorem ref3_SameAll {w:World} {A1 A2:Option Addr} {n:Nat} {P Q:Nat->QI} (c1 c2:Nat) (h1:RatsA w A1 n P) (h2:RatsA w A2 n Q) (hn:n<=1000) :
 Calls Tryz.prog 18 #[.slice A1 n c1,.slice A2 n c2] w fun r w'=>r = .returned (.bool (sameA P Q n))/\Below w.heap.size w w':=by
 obtain ⟨o,ho⟩:=Zx (sameA P Q n);rw [ho];have HO:=Zh ho;have H1:=Zh h1;have H2:=Zh h2;clear ho h1 h2;go_enter Tryz.func18,Tryz.ntmps18;go_wp2;have hw:=Zb w.heap.size w;go_loopw [5] (fun i wr=>∃ k:Nat,k<=n/\i = .int .i64 k/\sameA P Q k=true/\Below w.heap.size w wr) (fun i _=>n - (intOf i).toNat)
 case atStart=>exact ⟨0,aO,rfl,rfl,hw⟩
 case round =>
  clear hw;obtain ⟨k,hk,rfl,hs,hw⟩:=hrel;have HS:=Zh hs;have hz:=hw.size;clear hs
  by_cases hkn:k<n
  ·have hkni:(k:Int)<(n:Int):=aO
   obtain ⟨b,off,hA,_⟩:=H1.out aO;obtain ⟨b2,off2,hA2,_⟩:=H2.out aO;subst hA;subst hA2;obtain ⟨hb,s1,B1,n1,d1,s2,B2,n2,d2,a1,a2,a3,a4,hr⟩:=(H1.out.below hw).at_ hkn;obtain ⟨hb2,s3,B3,n3,d3,s4,B4,n4,d4,a5,a6,a7,a8,hr2⟩:=(H2.out.below hw).at_ hkn;obtain ⟨q,hq⟩:=Zx ((decide ((P k).1=(Q k).1)&&decide ((P k).2=(Q k).2)));have HQ:=Zh hq;have HR:=Zh hr;have HR2:=Zh hr2;clear hq hr hr2;go_wp2;refine region_late 10 [] aK aK (by rfl) ?_;apply Zs;refine ⟨fun v hv hne=>?_,fun u hu=>?_⟩
   ·simp only [TK];have f1:=fun x:Later [] wr v=>(x.cell b (off+k*4) hb aS).trans a1
    have f2:=fun x:Later [] wr v=>(x.cell b (off+k*4+1) hb aS).trans a2
    have f3:=fun x:Later [] wr v=>(x.cell b (off+k*4+2) hb aS).trans a3
    have f4:=fun x:Later [] wr v=>(x.cell b (off+k*4+3) hb aS).trans a4
    have f5:=fun x:Later [] wr v=>(x.cell b2 (off2+k*4) hb2 aS).trans a5
    have f6:=fun x:Later [] wr v=>(x.cell b2 (off2+k*4+1) hb2 aS).trans a6
    have f7:=fun x:Later [] wr v=>(x.cell b2 (off2+k*4+2) hb2 aS).trans a7
    have f8:=fun x:Later [] wr v=>(x.cell b2 (off2+k*4+3) hb2 aS).trans a8
    have L1:=fun x:Later [] wr v=>RatAt.keeps HR.out x.h
    have L2:=fun x:Later [] wr v=>RatAt.keeps HR2.out x.h
    repeat (go_big_quiet_step ((go_at_call 29; with_reducible exact lateB (callv (ref3_Same (L1 _) (L2 _)) (congrArg Value.bool HQ.out)))))
    refine wpQuiet_nil ?_;exact rfl
   simp only [TK];refine late_nil ?_
   (try simp only [LN])
   have hw2:=hw.trans (hu.mono hz);clear a1 a2 a3 a4 a5 a6 a7 a8 hb hb2 hu;cases q
   ·have hof:o=false:=by rw [<- HO.out]; exact sameA_no HQ.out n hkn
    subst hof;go_wp2;go_ret;exact ⟨rfl,hw2⟩
   ·go_wp2;go_roundw
    case rel=>exact ⟨k+1,aO,by go_num,by rw [sameA,HS.out,HQ.out]; rfl,hw2⟩
    case measure=>simp [intOf]; omega
  ·obtain rfl:k=n:=aO
   have hot:o=true:=by rw [<- HO.out]; exact HS.out
   subst hot;go_wp2;go_ret;exact ⟨rfl,hw⟩
theorem NumsX.at_ {X:Nat->Prop} {w:World} {b off n:Nat} {Z:List Int} (h:NumsX X w (some ⟨b,off,none⟩) n Z) {i:Nat} (hi:i<n):b<w.heap.size/\∃ s B m c,w.cell? ⟨b,off+i*2,none⟩=some (.bool s)/\w.cell? ⟨b,off+i*2+1,none⟩=some (.slice B m c)/\NumAt w (.agg #[.bool s,.slice B m c]) (zAt Z i):=by
 obtain ⟨b',off',e,hlt,_,hc⟩:=h.row aO;cases e;obtain ⟨s,B,m,c,e1,e2,_,h1⟩:=hc i hi;exact ⟨hlt,s,B,m,c,e1,e2,h1⟩
theorem law05_nums {w:World} {X:Nat->Prop} {A B:Option Addr} {n:Nat} {Z:List Int} (c c2:Nat) (h:NumsX X w A n Z) (hI:IntsAt w B n Z) (hn:n<=1000) :
 Calls Tryz.prog 32 #[.slice A n c,.slice B n c2] w fun r w'=>r = .returned (.bool true)/\Below w.heap.size w w':=by
 have H1:=Zh h;have H2:=Zh hI;have hni:(n:Int)<=1000:=aO
 have hself:((n:Int) != (n:Int))=false:=aS
 clear h hI;go_enter Tryz.func32,Tryz.ntmps32;go_wp2;have hw:=Zb w.heap.size w;go_loopw [13] (fun i wr=>∃ k:Nat,k<=n/\i = .int .i64 k/\Below w.heap.size w wr) (fun i _=>n - (intOf i).toNat)
 case atStart=>exact ⟨0,aO,rfl,hw⟩
 case round =>
  clear hw;obtain ⟨k,hk,rfl,hw⟩:=hrel;have hz:=hw.size
  by_cases hkn:k<n
  ·have hkni:(k:Int)<(n:Int):=aO
   obtain ⟨b,off,hA,_⟩:=H1.out.row aO;obtain ⟨b2,off2,hA2,_⟩:=H2.out.row aO;subst hA;subst hA2;obtain ⟨hb,s1,B1,n1,d1,a1,a2,hr⟩:=(H1.out.below hw).at_ hkn;obtain ⟨b',off',e',hb2,hc2⟩:=(H2.out.below hw).row aO;cases e';have a3:=hc2 k hkn;have hz3:=H2.out.ok k (by rw [H2.out.len]; exact hkn);have e3:zAt Z k=iAt Z k:=rfl;rw [e3] at hr;obtain ⟨z,hzz⟩:=Zx (iAt Z k);rw [hzz] at hr a3 hz3;have HZ:=Zh (Zi hz3.1 (Zi hz3.2 (show fits z=true from fits_small aO)));have HR:=Zh hr;clear hr hz3 hzz hc2;go_wp2;refine region_gen (T:=[]) [.make 8 [] (numCB [] z),.need 9 [8]] 11 0 40 (fun _ _=>True) (fun _ _ _ _ _=>trivial) trivial aK aK (by rfl) ?_;unfold genWalk;apply Zs;apply Zi
   ·apply Piece.mk
    ·intro f v hv hr hne;simp only [TK,Nat.reduceSub,Nat.reduceAdd];have f1:=fun x:Later [] wr v=>(x.cell b (off+k*2) hb aS).trans a1
     have f2:=fun x:Later [] wr v=>(x.cell b (off+k*2+1) hb aS).trans a2
     have f3:=fun x:Later [] wr v=>(x.cell b2 (off2+k) hb2 aS).trans a3
     exact qz
    ·intro f; kernel_rfl
    ·intro f f' hf; kernel_rfl
   refine one_of (by rfl) ⟨fun f=>⟨rfl,fun u hu _=>?_⟩,?_⟩
   ·refine make_call (f:=78) (args:=#[.int .i64 z]) (by (try simp only [LN]); (try simp only [VB1,numCB_val]); go_simp) ?_;have q:=ref1_Of (w:=u) z HZ.out.1 HZ.out.2.1;refine q.mono ?_;rintro e wx ⟨⟨b,C,rfl,q1,q2,q3⟩,hbx⟩;exact ⟨(b,C),rfl,q2,q3,hbx,aS,q1⟩
   unfold genWalk;refine ⟨_,pz8,?_⟩;unfold genWalk;apply Zs;apply Zi
   ·apply Piece.mk
    ·intro f v hv hr hne;simp only [TK,Nat.reduceSub,Nat.reduceAdd]
     (try simp only [LN])
     (try simp only [VB1,numCB_val])
     have h8:NumC v (f 8).1 (f 8).2 z:=(hr 8 aS).2;have k8:=fun x:Later [] wr v=>(h8.below x.g).at_ HZ.out.2.2
     have L1:=fun x:Later [] wr v=>NumAt.keeps HR.out x.h
     repeat (go_big_quiet_step ((go_at_call 77; with_reducible exact lateB (num_sameR (L1 _) (k8 _)))))
     refine wpQuiet_nil ?_;exact rfl
    ·intro f; kernel_rfl
    ·intro f f' hf; first | (simp; done) | (simp [hf 8 aS])
   intro f u' hup hph hmade hdist;refine effc_nil ?_;simp only [TK,Nat.reduceSub,Nat.reduceAdd]
   (try simp only [LN])
   (try simp only [VB1,numCB_val])
   clear hmade hdist hph;have hw2:Below w.heap.size w u':=Upd.below hw hup aS;generalize numC z (f 8).1 (f 8).2=y8 at *;clear f hup a1 a2 a3 hb hb2;go_wp2;go_roundw
   case rel=>exact ⟨k+1,aO,by go_num,hw2⟩
   case measure=>simp [intOf]; omega
  ·obtain rfl:k=n:=aO
   go_wp2;go_ret;exact ⟨rfl,hw⟩
end Go.Proofs.YtflgngjocgiojaaGreat
namespace Go.Proofs.YtflgngjocgiojaaGreat
def sumF (f:Nat->Int):Nat->Int
 | 0=>0
 | n+1=>sumF f n+f n
theorem sumF_eq {f g:Nat->Int}:∀ {n:Nat},(∀ i,i<n->f i=g i)->sumF f n=sumF g n
 | 0,_=>rfl
 | n+1,h=>by rw [sumF,sumF,sumF_eq (fun i hi=>h i aO),h n aO]
theorem sumF_zero {f:Nat->Int}:∀ {n:Nat},(∀ i,i<n->f i=0)->sumF f n=0
 | 0,_=>rfl
 | n+1,h=>by rw [sumF,sumF_zero (fun i hi=>h i aO),h n aO]; rfl
theorem sumF_add (f g:Nat->Int):∀ n,sumF (fun i=>f i+g i) n=sumF f n+sumF g n
 | 0=>rfl
 | n+1=>by rw [sumF,sumF,sumF,sumF_add f g n]; omega
theorem sumF_mul (c:Int) (f:Nat->Int):∀ n,sumF (fun i=>c*f i) n=c*sumF f n
 | 0=>by simp [sumF]
 | n+1=>by rw [sumF,sumF,sumF_mul c f n,Int.mul_add]
theorem sumF_neg (f:Nat->Int):∀ n,sumF (fun i=>-f i) n=-sumF f n
 | 0=>rfl
 | n+1=>by rw [sumF,sumF,sumF_neg f n]; omega
theorem sumF_swap (f:Nat->Nat->Int) (m:Nat):∀ n,sumF (fun i=>sumF (f i) m) n=sumF (fun k=>sumF (fun i=>f i k) n) m
 | 0=>by rw [sumF]; exact (sumF_zero (fun _ _=>rfl)).symm
 | n+1=>by
  rw [sumF,sumF_swap f m n,<- sumF_add];rfl
def skip (i a:Nat):Nat:=if a<i then a else a+1
theorem sumF_skip (f:Nat->Int):∀ {n i:Nat},i<=n->sumF (fun k=>f (skip i k)) n+f i=sumF f (n+1)
 | 0,i,h=>by
  obtain rfl:i=0:=aO
  simp [sumF]
 | n+1,i,h=>by
  rw [sumF,sumF]
  by_cases e:i=n+1
  ·subst e;rw [show skip (n+1) n=n by unfold skip; rw [if_pos aO]];have:sumF (fun k=>f (skip (n+1) k)) n=sumF f n:=sumF_eq fun k hk=>by unfold skip; rw [if_pos aO]
   rw [this]; rfl
  ·rw [show skip i n=n+1 by unfold skip; rw [if_neg aO]];have:=sumF_skip f (n:=n) (i:=i) aO;omega
def sg1 (k:Nat):Int:=if k%2=0 then 1 else -1
theorem sg1_succ (k:Nat):sg1 (k+1)=-sg1 k:=by
 unfold sg1
 by_cases h:k%2=0
 ·rw [if_pos h,if_neg aO]
 ·rw [if_neg h,if_pos aO]; rfl
theorem sg1_mul (a b:Nat):sg1 a*sg1 b=sg1 (a+b):=by
 unfold sg1
 by_cases h1:a%2=0
 ·by_cases h2:b%2=0
  ·rw [if_pos h1,if_pos h2,if_pos aO]; rfl
  ·rw [if_pos h1,if_neg h2,if_neg aO]; rfl
 ·by_cases h2:b%2=0
  ·rw [if_neg h1,if_pos h2,if_neg aO]; rfl
  ·rw [if_neg h1,if_neg h2,if_pos aO]; rfl
theorem sg1_two (k:Nat):sg1 (k+k)=1:=by unfold sg1; rw [if_pos aO]
theorem sg1_abs (k:Nat):(sg1 k).natAbs=1:=by unfold sg1; split <;> rfl
def det:Nat->(Nat->Nat->Int)->Int
 | 0,_=>1
 | n+1,M=>sumF (fun i=>sg1 (i+n)*M i n*det n (fun a b=>M (skip i a) b)) (n+1)
theorem det_eq:∀ {n:Nat} {M N:Nat->Nat->Int},(∀ a b,a<n->b<n->M a b=N a b)->det n M=det n N
 | 0,_,_,_=>rfl
 | n+1,M,N,h=>by
  rw [det,det];refine sumF_eq fun i hi=>?_
  rw [h i n hi aO,det_eq (N:=fun a b=>N (skip i a) b) fun a b ha hb=>h _ _ (by unfold skip; split <;> omega) aO]
def swp (j:Nat) (M:Nat->Nat->Int):Nat->Nat->Int:=fun a b=>M a (if b=j then j+1 else if b=j+1 then j else b)
def eps (i l:Nat):Int:=if l<i then sg1 (i+l+1) else if i<l then sg1 (i+l) else 0
theorem eps_neg (i l:Nat):eps l i=-eps i l:=by
 unfold eps;rcases Nat.lt_trichotomy i l with h | h | h
 ·rw [if_pos h,if_neg aO,if_pos h,Nat.add_comm l i,sg1_succ]
 ·subst h; rw [if_neg aO,if_neg aO]; rfl
 ·rw [if_neg aO,if_pos h,if_pos h,Nat.add_comm l i,sg1_succ]; omega
def two (i l a:Nat):Nat:=if i<l then skip l (skip i a) else skip i (skip l a)
theorem two_comm (i l a:Nat) (h:i≠l):two i l a=two l i a:=by
 unfold two
 by_cases h1:i<l
 ·rw [if_pos h1,if_neg aO]
 ·rw [if_neg h1,if_pos aO]
theorem two_skip (i k a:Nat):skip i (skip k a)=two i (skip i k) a:=by
 unfold two skip
 repeat' split
 all_goals omega
theorem det_two (n:Nat) (M:Nat->Nat->Int) :
 det (n+2) M=sumF (fun i=>sumF (fun l=>eps i l*M i (n+1)*M l n*det n (fun a b=>M (two i l a) b)) (n+2)) (n+2):=by
 rw [det];refine sumF_eq fun i hi=>?_
 have h0:eps i i*M i (n+1)*M i n*det n (fun a b=>M (two i i a) b)=0:=by
  rw [show eps i i=0 by unfold eps; rw [if_neg aO,if_neg aO]];simp
 have h1:=sumF_skip (fun l=>eps i l*M i (n+1)*M l n*det n (fun a b=>M (two i l a) b)) (n:=n+1) (i:=i) aO;rw [<- h1,h0,Int.add_zero,det,<- sumF_mul];refine sumF_eq fun k hk=>?_
 have h2:det n (fun a b=>(fun a b=>M (skip i a) b) (skip k a) b)=det n (fun a b=>M (two i (skip i k) a) b):=det_eq fun a b _ _=>by rw [<- two_skip]
 rw [h2];have h3:eps i (skip i k)=sg1 (i+(n+1))*sg1 (k+n):=by
  have e:sg1 (i+(n+1))*sg1 (k+n)=sg1 (i+k+1):=by
   rw [sg1_mul];unfold sg1
   by_cases h:(i+k+1)%2=0
   ·rw [if_pos h,if_pos aO]
   ·rw [if_neg h,if_neg aO]
  rw [e];unfold eps skip
  by_cases h:k<i
  ·rw [if_pos h,if_pos h]
  ·rw [if_neg h,if_neg aO,if_pos aO]; rfl
 rw [h3];simp only [Int.mul_assoc,Int.mul_left_comm,Int.mul_comm]
theorem det_swp:∀ {n j:Nat} {M:Nat->Nat->Int},j+1<=n->det (n+1) (swp j M)=-det (n+1) M
 | 0,j,M,h=>aO
 | n+1,j,M,h=>by
  by_cases e:j+1=n+1
  ·obtain rfl:j=n:=aO
   rw [det_two,det_two,<- sumF_neg,sumF_swap];refine sumF_eq fun i hi=>?_
   rw [<- sumF_neg];refine sumF_eq fun l hl=>?_
   by_cases hil:i=l
   ·subst hil;rw [show eps i i=0 by unfold eps; rw [if_neg aO,if_neg aO]];simp
   ·have h1:swp j M l (j+1)=M l j:=by unfold swp; rw [if_neg aO,if_pos rfl]
    have h2:swp j M i j=M i (j+1):=by unfold swp; rw [if_pos rfl]
    have h3:det j (fun a b=>swp j M (two l i a) b)=det j (fun a b=>M (two i l a) b):=det_eq fun a b _ hb=>by
     unfold swp;rw [if_neg aO,if_neg aO,two_comm l i a (fun h=>hil h.symm)]
    rw [h1,h2,h3,eps_neg i l];simp only [Int.neg_mul,Int.mul_neg,Int.mul_assoc,Int.mul_left_comm,Int.mul_comm]
  ·rw [det,det,<- sumF_neg];refine sumF_eq fun i hi=>?_
   have h1:swp j M i (n+1)=M i (n+1):=by unfold swp; rw [if_neg aO,if_neg aO]
   have h2:det (n+1) (fun a b=>swp j M (skip i a) b)=-det (n+1) (fun a b=>M (skip i a) b):=det_swp (n:=n) (j:=j) (M:=fun a b=>M (skip i a) b) aO;rw [h1,h2,Int.mul_neg]
theorem det_same:∀ (d:Nat) {n j:Nat} {M:Nat->Nat->Int},j+1+d=n->(∀ a,M a j=M a n)->det (n+1) M=0
 | 0,n,j,M,h,hc=>by
  subst h;have h1:=det_swp (n:=j+1+0) (j:=j) (M:=M) (Zr _);have h2:det (j+1+0+1) (swp j M)=det (j+1+0+1) M:=det_eq fun a b _ _=>by
   unfold swp
   by_cases e:b=j
   ·subst e; rw [if_pos rfl]; exact (hc a).symm
   ·rw [if_neg e]
    by_cases e2:b=j+1
    ·subst e2; rw [if_pos rfl]; exact hc a
    ·rw [if_neg e2]
  rw [h2] at h1;omega
 | d+1,n,j,M,h,hc=>by
  have h1:=det_swp (n:=n) (j:=j) (M:=M) aO;have h2:=det_same d (n:=n) (j:=j+1) (M:=swp j M) aO (fun a=>by
   unfold swp;rw [if_neg aO,if_pos rfl,if_neg aO,if_neg aO];exact hc a)
  rw [h2] at h1;omega
theorem det_same' {n j:Nat} {M:Nat->Nat->Int} (hj:j<n) (hc:∀ a,M a j=M a n):det (n+1) M=0:=det_same (n - j - 1) aO hc
def fac:Nat->Nat
 | 0=>1
 | n+1=>(n+1)*fac n
theorem sumF_abs {f:Nat->Int} {B:Nat}:∀ {n:Nat},(∀ i,i<n->(f i).natAbs<=B)->(sumF f n).natAbs<=n*B
 | 0,_=>by simp [sumF]
 | n+1,h=>by
  rw [sumF];have h1:=sumF_abs (n:=n) (fun i hi=>h i aO);have h2:=h n aO;have h3:=Int.natAbs_add_le (sumF f n) (f n);rw [Nat.succ_mul];omega
theorem det_abs {B:Nat}:∀ {n:Nat} {M:Nat->Nat->Int},(∀ a b,a<n->b<n->(M a b).natAbs<=B)->(det n M).natAbs<=fac n*B^n
 | 0,_,_=>by simp [det,fac]
 | n+1,M,h=>by
  rw [det];have:=sumF_abs (f:=fun i=>sg1 (i+n)*M i n*det n (fun a b=>M (skip i a) b)) (B:=B*(fac n*B^n)) (n:=n+1) (fun i hi=>by
   rw [Int.natAbs_mul,Int.natAbs_mul,sg1_abs,Nat.one_mul];exact Nat.mul_le_mul (h i n hi aO) (det_abs fun a b ha hb=>h _ _ (by unfold skip; split <;> omega) aO))
  refine Zm this (Nat.le_of_eq ?_);rw [fac,Nat.pow_succ];simp only [Nat.mul_assoc,Nat.mul_left_comm,Nat.mul_comm]
end Go.Proofs.YtflgngjocgiojaaGreat
