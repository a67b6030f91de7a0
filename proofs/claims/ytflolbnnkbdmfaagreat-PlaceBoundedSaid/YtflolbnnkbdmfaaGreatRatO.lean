import Derived.Test.YtflolbnnkbdmfaaGreatPlcO
set_option linter.all false
namespace Go.Proofs.YtflolbnnkbdmfaaGreat
open Go.RowKit
set_option maxHeartbeats 8000000
set_option maxRecDepth 100000
def inI (z:Int):Bool:=decide (-9223372036854775808<=z)&&decide (z<=9223372036854775807)
def intN (z:Int):Int:=if inI z=true then z else 0
theorem num_Int {w:World} {v:Value} {z:Int} (h:NumAt w v z):Calls Tryz.prog 114 #[v] w fun r w'=>r = .returned (.tuple #[.int .i64 (intN z),.bool (inI z)])/\Below w.heap.size w w':=by
 have hraw:=h.raw;obtain ⟨A1,n1,c1,rfl,hc1,hm1,hl1,d1⟩:=h;obtain ⟨s1,hs1⟩:=Zx (decide (z<0));rw [hs1] at hraw ⊢;obtain ⟨a,ha⟩:=Zx (intN z);obtain ⟨b,hb⟩:=Zx (inI z);rw [ha,hb];obtain ⟨m,hm⟩:=Zx (z.natAbs);have HS:=Zh (Zi hs1 (Zi ha (Zi hb hm)));have HRW:=Zh hraw;have D1:=Zh d1;have hlen:=d1.len;have HLEN:=Zh hlen;clear hraw d1 hs1 ha hb hm hlen;have hW:=(Zb w.heap.size w).alloc (Zr _) (.cells #[.bool s1,.slice A1 n1 c1] 40);have o3:Own (w.alloc (.cells #[.bool s1,.slice A1 n1 c1] 40)) w.heap.size #[.bool s1,.slice A1 n1 c1]:=aOwn;go_enter Tryz.func114,Tryz.ntmps114;go_wp2_with fail;generalize (w.alloc (.cells #[.bool s1,.slice A1 n1 c1] 40))=W0 at *;refine Zd (right_ok ⟨HRW.out.1.below hW,HRW.out.2⟩) ?_;rintro e w1 ⟨rfl,hb⟩;have hw:=hW.trans (hb.mono hW.size);have p3:=o3.below hb;have p3c:=p3.cell;clear hb o3 hW
 by_cases h2:2<n1
 ·have h2i:(2:Int)<(n1:Int):=aO
  have hb0:b=false:=by
   rw [<- HS.out.2.2.1];have h3:¬ z.natAbs<4294967296^2:=fun h=>by have:=digs_len.2 h; have:=HLEN.out; omega
   unfold inI
   by_cases h4:-9223372036854775808<=z
   ·rw [decide_eq_false (show ¬ z<=9223372036854775807 by omega),Bool.and_false]
   ·rw [decide_eq_false h4,Bool.false_and]
  have ha0:a=0:=by rw [<- HS.out.2.1]; unfold intN; rw [HS.out.2.2.1,hb0]; rfl
  subst hb0 ha0;go_wp2;go_ret2;exact ⟨rfl,hw⟩
 ·have h3:m<18446744073709551616:=by
   have h3:z.natAbs<4294967296^2:=digs_len.1 (by have:=HLEN.out; omega);have:=HS.out.2.2.2;omega
  have qw:=mag_word c1 (D1.out.below hw) aO hc1 hm1;rw [digs_val,HS.out.2.2.2] at qw;have QW:=Zh qw;clear qw;go_wp2_with fail;refine Zd QW.out ?_;rintro e w2 ⟨rfl,hb⟩;have hw2:=hw.trans (hb.mono hw.size);have p4:=p3.below hb;have p4c:=p4.cell;clear hb hw p3 p3c QW;cases s1
  ·have hz:z=(m:Int):=by have:=of_decide_eq_false HS.out.1; have:=HS.out.2.2.2; omega
   by_cases h4:m<9223372036854775808
   ·have h4i:(m:Int)<9223372036854775808:=aO
    have hcv:IntKind.i64.wrap (m:Int)=(m:Int):=by rw [IntKind.wrap_i64]; omega
    have hb0:b=true:=by
     rw [<- HS.out.2.2.1];unfold inI;rw [decide_eq_true aO,decide_eq_true aO]; rfl
    have ha0:a=(m:Int):=by rw [<- HS.out.2.1]; unfold intN; rw [HS.out.2.2.1,hb0,hz]; rfl
    subst hb0 ha0;clear hz;go_wp2;go_ret2;exact ⟨rfl,hw2⟩
   ·have h4d:decide ((m:Int)<9223372036854775808)=false:=decide_eq_false aO;have hb0:b=false:=by
     rw [<- HS.out.2.2.1];unfold inI;rw [decide_eq_false (show ¬ z<=9223372036854775807 by omega),Bool.and_false]
    have ha0:a=0:=by rw [<- HS.out.2.1]; unfold intN; rw [HS.out.2.2.1,hb0]; rfl
    subst hb0 ha0;clear hz h4 h3;go_wp2;go_ret2;exact ⟨rfl,hw2⟩
  ·have hz:z=-(m:Int)/\0<m:=by have:=of_decide_eq_true HS.out.1; have:=HS.out.2.2.2; omega
   by_cases h4:m<=9223372036854775808
   ·have h4i:(m:Int)<=9223372036854775808:=aO
    obtain ⟨x,hx⟩:=Zx (18446744073709551616 - m);have hcu:IntKind.u64.wrap (-(m:Int))=(x:Int):=by rw [IntKind.wrap_u64]; omega
    have hcv:IntKind.i64.wrap (x:Int)=a:=by
     rw [<- HS.out.2.1];unfold intN inI;rw [decide_eq_true (show -9223372036854775808<=z by omega),decide_eq_true (show z<=9223372036854775807 by omega),IntKind.wrap_i64];simp only [Bool.and_self,if_true];omega
    have hb0:b=true:=by
     rw [<- HS.out.2.2.1];unfold inI;rw [decide_eq_true aO,decide_eq_true aO]; rfl
    subst hb0;clear hz hx;go_wp2;go_ret2;exact ⟨rfl,hw2⟩
   ·have h4d:decide ((m:Int)<=9223372036854775808)=false:=decide_eq_false aO;have hb0:b=false:=by
     rw [<- HS.out.2.2.1];unfold inI;rw [decide_eq_false (show ¬ -9223372036854775808<=z by omega),Bool.false_and]
    have ha0:a=0:=by rw [<- HS.out.2.1]; unfold intN; rw [HS.out.2.2.1,hb0]; rfl
    subst hb0 ha0;clear hz h4 h3;go_wp2;go_ret2;exact ⟨rfl,hw2⟩
theorem abs_div_le (a:Int) {q:Int} (hq:1<=q):(a / q).natAbs<=a.natAbs:=by
 rcases Int.le_total 0 a with h | h
 ·have h1:=Int.ediv_nonneg h (by omega:0<=q);have h2:=Int.ediv_le_self q h;omega
 ·have h1:a / q<=0:=by
   have:=Int.ediv_le_ediv (by omega:0<q) h;simpa using this
  have h2:a<=a / q:=by
   have:=(Int.le_ediv_iff_mul_le (a:=a) (b:=a) (by omega:0<q)).2 (by
    have h3:0<=(-a)*(q - 1):=Int.mul_nonneg aO aO;have e:(-a)*(q - 1)=a - a*q:=by grind
    omega)
   exact this
  omega
theorem ratio_Ceil {w:World} {v1:Value} {p q:Int} (h:RatAt w v1 p q) (hg:goodQ p q=true):Calls Tryz.prog 40 #[v1] w fun r w'=>r = .returned (.tuple #[.int .i64 (intN (-((-p) / q))),.bool (inI (-((-p) / q)))])/\Below w.heap.size w w':=by
 obtain ⟨np,hnp⟩:=Zx (-p);obtain ⟨d,hd⟩:=Zx (np / q);obtain ⟨c,hc⟩:=Zx (-d);rw [hnp,hd,hc];have hq0:0<q:=(goodQ_iff.1 hg).1;have H:=Zh h;obtain ⟨s1,A1,n1,c1,s2,A2,n2,c2,rfl,h1,h2⟩:=h;have f1:fits np=true:=fits_le (by rw [<- hnp,Int.natAbs_neg]; exact Zr _) h1.fits;have f2:fits d=true:=fits_le (by rw [<- hd]; exact abs_div_le np aO) f1;have f3:fits c=true:=fits_le (by rw [<- hc,Int.natAbs_neg]; exact Zr _) f2;have HN:=Zh (Zi hnp (Zi hd hc));have HF:=Zh (Zi f1 (Zi f2 f3));have G1:=Zh h1;have G2:=Zh h2;have HG:=Zh hg;have HQ:RowKit.Hid (q≠0):=Zh aO;clear h1 h2 hg hnp hd hc f1 f2 f3 hq0;have hW:=(Zb w.heap.size w).alloc (Zr _) (.cells #[.bool s1,.slice A1 n1 c1,.bool s2,.slice A2 n2 c2] 42);have o1:Own (w.alloc (.cells #[.bool s1,.slice A1 n1 c1,.bool s2,.slice A2 n2 c2] 42)) w.heap.size #[.bool s1,.slice A1 n1 c1,.bool s2,.slice A2 n2 c2]:=aOwn;go_enter Tryz.func40,Tryz.ntmps40;go_wp2_with fail;generalize (w.alloc (.cells #[.bool s1,.slice A1 n1 c1,.bool s2,.slice A2 n2 c2] 42))=W0 at *;have qq:=ratio_Right (H.out.below hW);rw [HG.out] at qq;refine Zd qq ?_;clear qq;rintro e u1 ⟨rfl,hb⟩;have hw1:=hW.trans (hb.mono hW.size);have o2:=o1.below hb;have K1:=Zh (G1.out.below hw1);have K2:=Zh (G2.out.below hw1);clear hb o1 hW;go_wp2;refine region_gen (T:=[]) [.make 2 [] (valB _ np),.make 5 [2] (valB _ d),.make 6 [5] (valB _ c),.need 7 [6]] 10 0 40 (fun _ _=>True) (fun _ _ _ _ _=>trivial) trivial aK aK (by rfl) ?_;have q_d1:=fun v y=>(o2.later (v:=v) (T:=[]) aS y).cell
 unfold genWalk;refine ⟨_,pz1,?_⟩;refine one_of (by rfl) ⟨fun f=>⟨rfl,fun u hu _=>?_⟩,?_⟩
 ·refine make_call (f:=111) (args:=#[.agg #[.bool s1,.slice A1 n1 c1]]) gA2 ?_;have q:=ratio_minus (w:=u) (NumAt.keeps K1.out hu);rw [HN.out.1] at q;refine q.mono ?_;rintro e wx ⟨⟨b,rfl,q1,q2,q3⟩,hbx⟩;exact ⟨(b,0),rfl,q2,q3,hbx,aS,q1⟩
 have q_d1:=fun v y=>(o2.later (v:=v) (T:=[]) aS y).cell
 unfold genWalk;refine ⟨_,pz3,?_⟩;refine one_of (by rfl) ⟨fun f=>⟨rfl,fun u hu hm=>?_⟩,?_⟩
 ·refine make_call (f:=115) (args:=#[.agg #[.bool (sgnN np),slN np (f 2).1],.agg #[.bool s2,.slice A2 n2 c2]]) gA2 ?_;have e2:NumO u (f 2).1 np:=(show (valB [] np).R (f 2) u from hm 2 aS).2;have g2:=e2.at_ HF.out.1;have q:=ratio_quotient (w:=u) g2 (NumAt.keeps K2.out hu) HQ.out;rw [HN.out.2.1] at q;refine q.mono ?_;rintro e wx ⟨⟨b,rfl,q1,q2,q3⟩,hbx⟩;exact ⟨(b,0),rfl,q2,q3,hbx,aS,q1⟩
 unfold genWalk;refine ⟨_,pz3,?_⟩;refine one_of (by rfl) ⟨fun f=>⟨rfl,fun u hu hm=>?_⟩,?_⟩
 ·refine make_call (f:=111) (args:=#[.agg #[.bool (sgnN d),slN d (f 5).1]]) gA2 ?_;have e5:NumO u (f 5).1 d:=(show (valB [] d).R (f 5) u from hm 5 aS).2;have g5:=e5.at_ HF.out.2.1;have q:=ratio_minus (w:=u) g5;rw [HN.out.2.2] at q;refine q.mono ?_;rintro e wx ⟨⟨b,rfl,q1,q2,q3⟩,hbx⟩;exact ⟨(b,0),rfl,q2,q3,hbx,aS,q1⟩
 unfold genWalk;refine ⟨_,pz3,?_⟩;unfold genWalk;apply Zs;apply Zi
 ·apply Piece.mk
  ·intro f v hv hr hne;simp only [TK,Nat.reduceSub,Nat.reduceAdd]
   (try simp only [LN])
   (try simp only [VB2,numV])
   have e6:∀ x:Later [] u1 v,NumAt x.u (.agg #[.bool (sgnN c),slN c (f 6).1]) c:=fun x=>NumO.at_ (((show (valB [] c).R (f 6) v from hr 6 aS).2).below x.g) HF.out.2.2
   repeat (go_big_quiet_step ((go_at_call 114; with_reducible exact lateB (num_Int (e6 _)))))
   refine wpQuiet_nil ?_;exact rfl
  ·intro f; kernel_rfl
  ·intro f f' hf; first | (simp; done) | (simp [hf 6 aS])
 intro f9 u' hup hph hmade hdist;clear hmade hdist hph;have hBu:Below u1.heap.size u1 u':=Upd.below (Zb _ _) hup (fun b hb=>by cases hb);have hkT:=Upd.keeps (Keeps.refl _ _) hup;simp only [TK,Nat.reduceSub,Nat.reduceAdd]
 (try simp only [LN])
 (try simp only [VB2,numV])
 refine effc_mem (by rfl) (fun K hK=>?_);go_simp;refine hK _ _ hkT (fun uc huc=>?_);clear hK K;refine effc_mem (by rfl) (fun K hK=>?_);go_simp;refine hK _ _ (hkT.later huc) (fun we hwe=>?_);clear hK K;have hw2:=hw1.trans (((hBu.trans (huc.mono hBu.size)).trans (hwe.mono (Zm hBu.size huc.size))).mono hw1.size);clear hBu hup hkT huc hwe;refine effc_nil ?_
 (try simp only [LN])
 go_wp2;go_ret2;exact ⟨rfl,hw2⟩
def ratDen (w:World) (B:Nat):Nat:=match w.cell? ⟨B,3,none⟩ with
 | some v=>slVal w v
 | none=>0
theorem ratDen_of {w:World} {B:Nat} {x y:Value} {s:Bool} {A:Option Addr} {n c:Nat} {z:Int} (h:Own w B #[x,y,.bool s,.slice A n c]) (hN:NumAt w (.agg #[.bool s,.slice A n c]) z):ratDen w B=z.natAbs:=by
 unfold ratDen;rw [h.cell 3];obtain ⟨A',n',c',e,h1,h2,_,h3⟩:=hN;cases e;exact SlD.val ⟨A,n,c,rfl,h1,h2,h3⟩
theorem noU_ratx {s1 s2:Bool} {A1 A2:Option Addr} {n1 c1 n2 c2:Nat}:noU #[.bool s1,.slice A1 n1 c1,.bool s2,.slice A2 n2 c2]:=fun i d h=>by
 match i with
 | 0=>cases h
 | 1=>cases h
 | 2=>cases h
 | 3=>cases h
 | i+4=>simp at h
theorem abs_mod_le {a b:Int} (hb:0<b):(a%b).natAbs<=b.natAbs:=by
 have h1:=Int.emod_nonneg a (by omega:b≠0);have h2:=Int.emod_lt_of_pos a hb;omega
theorem ordI_ne {a b:Int} (h:a≠b):ordI a b≠0:=by
 rcases Int.lt_or_gt_of_ne h with h | h
 ·rw [ordI_lt h]; omega
 ·rw [ordI_gt h]; omega
theorem ratio_Cmp {w:World} {v1 v2:Value} {p q r s:Int} (h1:RatAt w v1 p q) (h2:RatAt w v2 r s) (k1:goodQ p q=true) (k2:goodQ r s=true):Calls Tryz.prog 35 #[v1,v2] w fun e w'=>e = .returned (.int .i64 (ordI (p*s) (r*q)))/\Below w.heap.size w w':=by
 obtain ⟨o,ho⟩:=Zx (ordI (p*s) (r*q));rw [ho];have hq0:0<q:=(goodQ_iff.1 k1).1;have hs0:0<s:=(goodQ_iff.1 k2).1;have H1:=Zh h1;have H2:=Zh h2;obtain ⟨s1,A1,n1,c1,s2,A2,n2,c2,rfl,na,nb⟩:=h1;obtain ⟨t1,E1,m1,d1,t2,E2,m2,d2,rfl,nc,nd⟩:=h2;have HI:=Zh (Zi ho (Zi hq0 hs0));have HK1:=Zh k1;have HK2:=Zh k2;have NA:=Zh na;have NB:=Zh nb;have NC:=Zh nc;have ND:=Zh nd;clear ho hq0 hs0 na nb nc nd k1 k2;have hW:Below w.heap.size w ((w.alloc (.cells #[.bool s1,.slice A1 n1 c1,.bool s2,.slice A2 n2 c2] 42)).alloc (.cells #[.bool t1,.slice E1 m1 d1,.bool t2,.slice E2 m2 d2] 42)):=aBel;have o1:Own ((w.alloc (.cells #[.bool s1,.slice A1 n1 c1,.bool s2,.slice A2 n2 c2] 42)).alloc (.cells #[.bool t1,.slice E1 m1 d1,.bool t2,.slice E2 m2 d2] 42)) w.heap.size #[.bool s1,.slice A1 n1 c1,.bool s2,.slice A2 n2 c2]:=aOwn;have o2:Own ((w.alloc (.cells #[.bool s1,.slice A1 n1 c1,.bool s2,.slice A2 n2 c2] 42)).alloc (.cells #[.bool t1,.slice E1 m1 d1,.bool t2,.slice E2 m2 d2] 42)) (w.heap.size+1) #[.bool t1,.slice E1 m1 d1,.bool t2,.slice E2 m2 d2]:=aOwn;go_enter Tryz.func35,Tryz.ntmps35;go_wp2;generalize ((w.alloc (.cells #[.bool s1,.slice A1 n1 c1,.bool s2,.slice A2 n2 c2] 42)).alloc (.cells #[.bool t1,.slice E1 m1 d1,.bool t2,.slice E2 m2 d2] 42))=W0 at *;go_step3;have o1c:=o1.cell;go_wp2_with fail;clear o1c;have qq:=ratio_Right (H1.out.below hW);rw [HK1.out] at qq;refine Zd qq ?_;clear qq;rintro e u1 ⟨rfl,hb⟩;have hw1:=hW.trans (hb.mono hW.size);replace o1:=o1.below hb;replace o2:=o2.below hb;have o2c:=o2.cell;clear hb hW;go_wp2_with fail;have qq:=ratio_Right (H2.out.below hw1);rw [HK2.out] at qq;refine Zd qq ?_;clear qq;rintro e u2 ⟨rfl,hb⟩;have hw2:=hw1.trans (hb.mono hw1.size);replace o1:=o1.below hb;replace o2:=o2.below hb;have O1:=Zh o1;have O2:=Zh o2;clear hb hw1 o2c o1 o2;obtain ⟨B1,hB1⟩:=Zx (w.heap.size);rw [hB1] at O1 O2 ⊢;have HB1:=Zh hB1;clear hB1;go_wp2;go_step3;go_wp2;go_loopw [6] (fun sg wr=>∃ (a b c d σ:Int) (s1:Bool) (A1:Option Addr) (n1 c1:Nat) (s2:Bool) (A2:Option Addr) (n2 c2:Nat) (t1:Bool) (E1:Option Addr) (m1 d1:Nat) (t2:Bool) (E2:Option Addr) (m2 d2:Nat),sg = .int .i64 σ/\(σ=1\/σ=-1)/\0<b/\0<d/\σ*ordI (a*d) (c*b)=o/\Below w.heap.size w wr/\Own wr B1 #[.bool s1,.slice A1 n1 c1,.bool s2,.slice A2 n2 c2]/\Own wr (B1+1) #[.bool t1,.slice E1 m1 d1,.bool t2,.slice E2 m2 d2]/\NumAt wr (.agg #[.bool s1,.slice A1 n1 c1]) a/\NumAt wr (.agg #[.bool s2,.slice A2 n2 c2]) b/\NumAt wr (.agg #[.bool t1,.slice E1 m1 d1]) c/\NumAt wr (.agg #[.bool t2,.slice E2 m2 d2]) d) (fun _ wr=>ratDen wr B1)
 case atStart=>exact ⟨p,q,r,s,1,s1,A1,n1,c1,s2,A2,n2,c2,t1,E1,m1,d1,t2,E2,m2,d2,rfl,.inl rfl,HI.out.2.1,HI.out.2.2,by rw [Int.one_mul]; exact HI.out.1,hw2,O1.out,O2.out,NA.out.below hw2,NB.out.below hw2,NC.out.below hw2,ND.out.below hw2⟩
 case round =>
  clear hw2 O1 O2 NA NB NC ND HK1 HK2 H1 H2 HI;obtain ⟨a,b,c,d,σ,s1,A1,n1,c1,s2,A2,n2,c2,t1,E1,m1,d1,t2,E2,m2,d2,rfl,hσ,hb0,hd0,ho,hw,o1,o2,na,nb,nc,nd⟩:=hrel;obtain ⟨P,hP⟩:=Zx (a / b);obtain ⟨R,hR⟩:=Zx (a%b);obtain ⟨Q,hQ⟩:=Zx (c / d);obtain ⟨S,hS⟩:=Zx (c%d);have fP:fits P=true:=fits_le (by rw [<- hP]; exact abs_div_le a aO) na.fits;have fR:fits R=true:=fits_le (by rw [<- hR]; exact abs_mod_le hb0) nb.fits;have fQ:fits Q=true:=fits_le (by rw [<- hQ]; exact abs_div_le c aO) nc.fits;have fS:fits S=true:=fits_le (by rw [<- hS]; exact abs_mod_le hd0) nd.fits;have q1:=num_Div na nb aO;rw [hP,hR] at q1;have HM0:=Zh (ratDen_of o1 nb);have Q1:=Zh q1;have HV:=Zh (Zi hP (Zi hR (Zi hQ hS)));have HF:=Zh (Zi fP (Zi fR (Zi fQ fS)));have HB:=Zh (Zi hb0 hd0);have HO:=Zh ho;have HS:=Zh hσ;have NB:=Zh nb;have NC:=Zh nc;have ND:=Zh nd;clear q1 hP hR hQ hS fP fR fQ fS hb0 hd0 ho hσ na nb nc nd;have o1c:=o1.cell;go_wp2_with fail;refine Zd Q1.out ?_;rintro e w1 ⟨⟨x1,x2,rfl,n1',n2',l1,l2,l3,l4⟩,hb⟩;have g1:=n1'.at_ HF.out.1;have g2:=n2'.at_ HF.out.2.1;unfold numV at g1 g2 ⊢;obtain ⟨A3,n3,c3,hs3⟩:=slN_form P x1;obtain ⟨A4,n4,c4,hs4⟩:=slN_form R x2;rw [hs3] at g1 ⊢;rw [hs4] at g2 ⊢;obtain ⟨s3,hs5⟩:=Zx (sgnN P);obtain ⟨s4,hs6⟩:=Zx (sgnN R);rw [hs5] at g1 ⊢;rw [hs6] at g2 ⊢;have hw1:=hw.trans (hb.mono hw.size);have p1:=o1.below hb;have p2:=o2.below hb;have hB13:=p2.lt;have NB1:=Zh (NB.out.below hb);have NC1:=Zh (NC.out.below hb);have ND1:=Zh (ND.out.below hb);clear n1' n2' l1 l2 l3 l4 hs3 hs4 hs5 hs6 hb Q1 NB NC ND o1c o1 o2 hw;have pa:Own ((w1.alloc (.cells #[.bool s3,.slice A3 n3 c3] 40)).alloc (.cells #[.bool s4,.slice A4 n4 c4] 40)) (B1+1) #[.bool t1,.slice E1 m1 d1,.bool t2,.slice E2 m2 d2]:=(p2.alloc _).alloc _;have pac:=pa.cell;go_wp2_with fail;clear pac pa;have hA:Below w1.heap.size w1 ((w1.alloc (.cells #[.bool s3,.slice A3 n3 c3] 40)).alloc (.cells #[.bool s4,.slice A4 n4 c4] 40)):=aBel;have hw3:Below w.heap.size w ((w1.alloc (.cells #[.bool s3,.slice A3 n3 c3] 40)).alloc (.cells #[.bool s4,.slice A4 n4 c4] 40)):=hw1.trans (hA.mono hw1.size);have o3:Own ((w1.alloc (.cells #[.bool s3,.slice A3 n3 c3] 40)).alloc (.cells #[.bool s4,.slice A4 n4 c4] 40)) w1.heap.size #[.bool s3,.slice A3 n3 c3]:=aOwn;have o4:Own ((w1.alloc (.cells #[.bool s3,.slice A3 n3 c3] 40)).alloc (.cells #[.bool s4,.slice A4 n4 c4] 40)) (w1.heap.size+1) #[.bool s4,.slice A4 n4 c4]:=aOwn;have r1:=p1.below hA;have r2:=p2.below hA;have G1:=Zh (g1.below hA);have G2:=Zh (g2.below hA);have NB2:=Zh (NB1.out.below hA);have NC2:=Zh (NC1.out.below hA);have ND2:=Zh (ND1.out.below hA);clear hA g1 g2 NB1 NC1 ND1 p1 p2 hw1;generalize ((w1.alloc (.cells #[.bool s3,.slice A3 n3 c3] 40)).alloc (.cells #[.bool s4,.slice A4 n4 c4] 40))=W1 at *;obtain ⟨B3,hB3⟩:=Zx (w1.heap.size);rw [hB3] at o3 o4 hB13 ⊢;clear hB3;have q2:=num_Div NC2.out ND2.out (by have:=HB.out.2; omega);rw [HV.out.2.2.1,HV.out.2.2.2] at q2;refine Zd q2 ?_;clear q2;rintro e w2 ⟨⟨x1,x2,rfl,n1',n2',l1,l2,l3,l4⟩,hb⟩;have g1:=n1'.at_ HF.out.2.2.1;have g2:=n2'.at_ HF.out.2.2.2;unfold numV at g1 g2 ⊢;obtain ⟨A5,n5,c5,hs3⟩:=slN_form Q x1;obtain ⟨A6,n6,c6,hs4⟩:=slN_form S x2;rw [hs3] at g1 ⊢;rw [hs4] at g2 ⊢;obtain ⟨s5,hs5⟩:=Zx (sgnN Q);obtain ⟨s6,hs6⟩:=Zx (sgnN S);rw [hs5] at g1 ⊢;rw [hs6] at g2 ⊢;have hw2:=hw3.trans (hb.mono hw3.size);replace r1:=r1.below hb;replace r2:=r2.below hb;have hB15:=r2.lt;replace o3:=o3.below hb;replace o4:=o4.below hb;have G1:=Zh (G1.out.below hb);have G2:=Zh (G2.out.below hb);have NB3:=Zh (NB2.out.below hb);have ND3:=Zh (ND2.out.below hb);clear n1' n2' l1 l2 l3 l4 hs3 hs4 hs5 hs6 hb NB2 NC2 ND2 hw3;have oa:Own ((w2.alloc (.cells #[.bool s5,.slice A5 n5 c5] 40)).alloc (.cells #[.bool s6,.slice A6 n6 c6] 40)) B3 #[.bool s3,.slice A3 n3 c3]:=(o3.alloc _).alloc _;have oac:=oa.cell;go_wp2_with fail;clear oac oa;have hA:Below w2.heap.size w2 ((w2.alloc (.cells #[.bool s5,.slice A5 n5 c5] 40)).alloc (.cells #[.bool s6,.slice A6 n6 c6] 40)):=aBel;have hw3:Below w.heap.size w ((w2.alloc (.cells #[.bool s5,.slice A5 n5 c5] 40)).alloc (.cells #[.bool s6,.slice A6 n6 c6] 40)):=hw2.trans (hA.mono hw2.size);have o6:Own ((w2.alloc (.cells #[.bool s5,.slice A5 n5 c5] 40)).alloc (.cells #[.bool s6,.slice A6 n6 c6] 40)) (w2.heap.size+1) #[.bool s6,.slice A6 n6 c6]:=aOwn;replace r1:=r1.below hA;replace r2:=r2.below hA;clear o3;replace o4:=o4.below hA;have G1:=Zh (G1.out.below hA);have G2:=Zh (G2.out.below hA);have G3:=Zh (g1.below hA);have G4:=Zh (g2.below hA);have NB4:=Zh (NB3.out.below hA);have ND4:=Zh (ND3.out.below hA);clear hA g1 g2 NB3 ND3 hw2;generalize ((w2.alloc (.cells #[.bool s5,.slice A5 n5 c5] 40)).alloc (.cells #[.bool s6,.slice A6 n6 c6] 40))=W2 at *;obtain ⟨B5,hB5⟩:=Zx (w2.heap.size);rw [hB5] at o6 hB15 ⊢;clear hB5;obtain ⟨k,hk⟩:=Zx (ordI P Q);have q3:=num_Cmp G1.out G3.out;rw [hk] at q3;refine Zd q3 ?_;clear q3;rintro e w4 ⟨rfl,hb⟩;have hw4:=hw3.trans (hb.mono hw3.size);replace r1:=r1.below hb;replace r2:=r2.below hb;replace o4:=o4.below hb;replace o6:=o6.below hb;have H2:=Zh (G2.out.below hb);have H4:=Zh (G4.out.below hb);have NB5:=Zh (NB4.out.below hb);have ND5:=Zh (ND4.out.below hb);clear hb G1 G2 G3 G4 NB4 ND4 hw3;have HK:=Zh hk;have hkr:=ordI_range P Q;rw [hk] at hkr;clear hk
  by_cases hk0:k=0
  ·subst hk0;have hPQ:a / b=c / d:=by
    rw [HV.out.1,HV.out.2.2.1];exact Classical.byContradiction fun h=>ordI_ne h HK.out
   have HPQ:=Zh hPQ;clear hPQ HK hkr;obtain ⟨kr,hkr⟩:=Zx (ordI R 0);have HR:=Zh hkr
   by_cases hR0:R=0
   ·have hkr0:kr=0:=by rw [<- hkr,hR0,ordI_eq]
    subst hkr0;have HZ:RowKit.Hid (R=0\/S=0):=Zh (.inl hR0);clear hkr hR0;go_wp2;refine region_late 10 [] aK aK (by rfl) ?_;apply Zs;refine ⟨fun v hv hne=>?_,fun u hu=>?_⟩
    ·simp only [TK];have d4:=fun y=>(o4.later (v:=v) (T:=[]) aS y).cell
     have L1:=fun x:Later [] w4 v=>NumAt.keeps H2.out x.h
     repeat (go_big_quiet_step (first | (go_at_call 108; with_reducible exact lateB ratio_zero) | (go_at_call 107; with_reducible exact lateB (cmp_zero HR.out (L1 _)))))
     refine wpQuiet_nil ?_;exact rfl
    simp only [TK];refine late_mem (fun K hK=>?_);go_simp;refine hK _ _ (Keeps.of_below hu) (fun u2 hu2=>?_);clear hK K;have hbb:=hu.trans (hu2.mono hu.size);have hw5:=hw4.trans (hbb.mono hw4.size);replace o4:=o4.below hbb;replace o6:=o6.below hbb;have H2:=Zh (H2.out.below hbb);have H4:=Zh (H4.out.below hbb);clear hu hu2 hbb NB5 ND5 hw4;refine late_nil ?_
    (try simp only [LN])
    have o4c:=o4.cell;have o6c:=o6.cell;obtain ⟨k2,hk2⟩:=Zx (ordI R S);have hk2r:=ordI_range R S;rw [hk2] at hk2r;have hfin:σ*k2=o:=by rw [<- HO.out,cmp_end HB.out.1 HB.out.2 HPQ.out (by rw [HV.out.2.1,HV.out.2.2.2]; exact HZ.out),HV.out.2.1,HV.out.2.2.2,hk2]
    have HFI:=Zh hfin;have q5:=num_Cmp H2.out H4.out;rw [hk2] at q5;have Q5:=Zh q5;clear hfin hk2 q5;go_wp2_with fail;refine Zd Q5.out ?_;rintro e w6 ⟨rfl,hb⟩;have hw6:=hw5.trans (hb.mono hw5.size);clear hb hw5 Q5 o4c o6c;rcases HS.out with rfl | rfl
    ·go_wp2;rw [Exit.noGoto_ret];go_ret;exact ⟨ret_int (by have:=HFI.out; first | omega | (unfold wrap64; omega)),hw6⟩
    ·go_wp2;rw [Exit.noGoto_ret];go_ret;exact ⟨ret_int (by have:=HFI.out; first | omega | (unfold wrap64; omega)),hw6⟩
   ·have hkr0:(kr==0)=false:=by rw [<- hkr]; simpa using ordI_ne hR0
    have HRN:=Zh hR0;obtain ⟨ks,hks⟩:=Zx (ordI S 0);have HSS:=Zh hks
    by_cases hS0:S=0
    ·have hks0:ks=0:=by rw [<- hks,hS0,ordI_eq]
     subst hks0;have HZ:RowKit.Hid (R=0\/S=0):=Zh (.inr hS0);clear hkr hR0 hks hS0;go_wp2;refine region_late 10 [] aK aK (by rfl) ?_;apply Zs;refine ⟨fun v hv hne=>?_,fun u hu=>?_⟩
     ·simp only [TK];have d4:=fun y=>(o4.later (v:=v) (T:=[]) aS y).cell
      have d6:=fun y=>(o6.later (v:=v) (T:=[]) aS y).cell
      have L1:=fun x:Later [] w4 v=>NumAt.keeps H2.out x.h
      have L2:=fun x:Later [] w4 v=>NumAt.keeps H4.out x.h
      repeat (go_big_quiet_step (first | (go_at_call 108; with_reducible exact lateB ratio_zero) | (go_at_call 107; with_reducible exact lateB (cmp_zero HR.out (L1 _))) | (go_at_call 107; with_reducible exact lateB (cmp_zero HSS.out (L2 _)))))
      refine wpQuiet_nil ?_;exact rfl
     simp only [TK];refine late_mem (fun K hK=>?_);go_simp;refine hK _ _ (Keeps.of_below hu) (fun u2 hu2=>?_);clear hK K;have hbb:=hu.trans (hu2.mono hu.size);have hw5:=hw4.trans (hbb.mono hw4.size);replace o4:=o4.below hbb;replace o6:=o6.below hbb;have H2:=Zh (H2.out.below hbb);have H4:=Zh (H4.out.below hbb);clear hu hu2 hbb NB5 ND5 hw4;refine late_nil ?_
     (try simp only [LN])
     have o4c:=o4.cell;have o6c:=o6.cell;obtain ⟨k2,hk2⟩:=Zx (ordI R S);have hk2r:=ordI_range R S;rw [hk2] at hk2r;have hfin:σ*k2=o:=by rw [<- HO.out,cmp_end HB.out.1 HB.out.2 HPQ.out (by rw [HV.out.2.1,HV.out.2.2.2]; exact HZ.out),HV.out.2.1,HV.out.2.2.2,hk2]
     have HFI:=Zh hfin;have q5:=num_Cmp H2.out H4.out;rw [hk2] at q5;have Q5:=Zh q5;clear hfin hk2 q5;go_wp2_with fail;refine Zd Q5.out ?_;rintro e w6 ⟨rfl,hb⟩;have hw6:=hw5.trans (hb.mono hw5.size);clear hb hw5 Q5 o4c o6c;rcases HS.out with rfl | rfl
     ·go_wp2;rw [Exit.noGoto_ret];go_ret;exact ⟨ret_int (by have:=HFI.out; first | omega | (unfold wrap64; omega)),hw6⟩
     ·go_wp2;rw [Exit.noGoto_ret];go_ret;exact ⟨ret_int (by have:=HFI.out; first | omega | (unfold wrap64; omega)),hw6⟩
    ·have hks0:(ks==0)=false:=by rw [<- hks]; simpa using ordI_ne hS0
     have HSN:=Zh hS0;clear hkr hR0 hks hS0;go_wp2;refine region_late 10 [] aK aK (by rfl) ?_;apply Zs;refine ⟨fun v hv hne=>?_,fun u hu=>?_⟩
     ·simp only [TK];have d4:=fun y=>(o4.later (v:=v) (T:=[]) aS y).cell
      have d6:=fun y=>(o6.later (v:=v) (T:=[]) aS y).cell
      have L1:=fun x:Later [] w4 v=>NumAt.keeps H2.out x.h
      have L2:=fun x:Later [] w4 v=>NumAt.keeps H4.out x.h
      repeat (go_big_quiet_step (first | (go_at_call 108; with_reducible exact lateB ratio_zero) | (go_at_call 107; with_reducible exact lateB (cmp_zero HR.out (L1 _))) | (go_at_call 107; with_reducible exact lateB (cmp_zero HSS.out (L2 _)))))
      refine wpQuiet_nil ?_;exact rfl
     simp only [TK];refine late_mem (fun K hK=>?_);go_simp;refine hK _ _ (Keeps.of_below hu) (fun u2 hu2=>?_);clear hK K;have hbb:=hu.trans (hu2.mono hu.size);have hw5:=hw4.trans (hbb.mono hw4.size);replace r1:=r1.below hbb;replace r2:=r2.below hbb;replace o4:=o4.below hbb;replace o6:=o6.below hbb;have H2:=Zh (H2.out.below hbb);have H4:=Zh (H4.out.below hbb);have NB6:=Zh (NB5.out.below hbb);have ND6:=Zh (ND5.out.below hbb);clear hu hu2 hbb NB5 ND5 hw4;refine late_nil ?_
     (try simp only [LN])
     have r1c:=r1.cell;have r1f:=r1.thaw;have r2c:=r2.cell;have r2f:=r2.thaw;have o4c:=o4.cell;have o6c:=o6.cell;obtain ⟨σ',hσ'⟩:=Zx (-σ);have hσb:-1<=σ/\σ<=1:=by rcases HS.out with h | h <;> omega
     have f2:Own ((((u2.setCell ⟨B1,0,none⟩ (.bool s2)).setCell ⟨B1,1,none⟩ (.slice A2 n2 c2)).setCell ⟨B1,2,none⟩ (.bool s4)).setCell ⟨B1,3,none⟩ (.slice A4 n4 c4)) (B1+1) #[.bool t1,.slice E1 m1 d1,.bool t2,.slice E2 m2 d2]:=((((r2.far aS _).far aS _).far aS _).far aS _);have f2c:=f2.cell;have f2f:=f2.thaw;have f6:Own ((((u2.setCell ⟨B1,0,none⟩ (.bool s2)).setCell ⟨B1,1,none⟩ (.slice A2 n2 c2)).setCell ⟨B1,2,none⟩ (.bool s4)).setCell ⟨B1,3,none⟩ (.slice A4 n4 c4)) (B5+1) #[.bool s6,.slice A6 n6 c6]:=((((o6.far aT _).far aT _).far aT _).far aT _);have f6c:=f6.cell;have f6f:=f6.thaw;go_wp2;go_region;have hbw:w.heap.size<=B1:=by have:=HB1.out; omega
     have z1:Own ((((((((u2.setCell ⟨B1,0,none⟩ (.bool s2)).setCell ⟨B1,1,none⟩ (.slice A2 n2 c2)).setCell ⟨B1,2,none⟩ (.bool s4)).setCell ⟨B1,3,none⟩ (.slice A4 n4 c4)).setCell ⟨B1+1,0,none⟩ (.bool t2)).setCell ⟨B1+1,1,none⟩ (.slice E2 m2 d2)).setCell ⟨B1+1,2,none⟩ (.bool s6)).setCell ⟨B1+1,3,none⟩ (.slice A6 n6 c6)) B1 #[.bool s2,.slice A2 n2 c2,.bool s4,.slice A4 n4 c4]:=((((((((r1.set 0 _).set 1 _).set 2 _).set 3 _).far aS _).far aS _).far aS _).far aS _);have z2:Own ((((((((u2.setCell ⟨B1,0,none⟩ (.bool s2)).setCell ⟨B1,1,none⟩ (.slice A2 n2 c2)).setCell ⟨B1,2,none⟩ (.bool s4)).setCell ⟨B1,3,none⟩ (.slice A4 n4 c4)).setCell ⟨B1+1,0,none⟩ (.bool t2)).setCell ⟨B1+1,1,none⟩ (.slice E2 m2 d2)).setCell ⟨B1+1,2,none⟩ (.bool s6)).setCell ⟨B1+1,3,none⟩ (.slice A6 n6 c6)) (B1+1) #[.bool t2,.slice E2 m2 d2,.bool s6,.slice A6 n6 c6]:=((((((((r2.far aS _).far aS _).far aS _).far aS _).set 0 _).set 1 _).set 2 _).set 3 _);have hwf:Below w.heap.size w ((((((((u2.setCell ⟨B1,0,none⟩ (.bool s2)).setCell ⟨B1,1,none⟩ (.slice A2 n2 c2)).setCell ⟨B1,2,none⟩ (.bool s4)).setCell ⟨B1,3,none⟩ (.slice A4 n4 c4)).setCell ⟨B1+1,0,none⟩ (.bool t2)).setCell ⟨B1+1,1,none⟩ (.slice E2 m2 d2)).setCell ⟨B1+1,2,none⟩ (.bool s6)).setCell ⟨B1+1,3,none⟩ (.slice A6 n6 c6)):=((((((((hw5.setCell aT _).setCell aT _).setCell aT _).setCell aT _).setCell aT _).setCell aT _).setCell aT _).setCell aT _);have MU:∀ {v:Value} {z:Int},NumAt u2 v z->NumAt ((((((((u2.setCell ⟨B1,0,none⟩ (.bool s2)).setCell ⟨B1,1,none⟩ (.slice A2 n2 c2)).setCell ⟨B1,2,none⟩ (.bool s4)).setCell ⟨B1,3,none⟩ (.slice A4 n4 c4)).setCell ⟨B1+1,0,none⟩ (.bool t2)).setCell ⟨B1+1,1,none⟩ (.slice E2 m2 d2)).setCell ⟨B1+1,2,none⟩ (.bool s6)).setCell ⟨B1+1,3,none⟩ (.slice A6 n6 c6)) v z:=fun h=>NumAt.keepU h (((((((((Keeps.refl [B1,B1+1] u2).set aS _).set aS _).set aS _).set aS _).set aS _).set aS _).set aS _).set aS _) (fun b hb=>by simp at hb; rcases hb with rfl | rfl; exact ⟨_,r1,noU_ratx⟩; exact ⟨_,r2,noU_ratx⟩)
     have N1:=Zh (MU NB6.out);have N2:=Zh (MU H2.out);have N3:=Zh (MU ND6.out);have N4:=Zh (MU H4.out);have Z1:=Zh z1;have Z2:=Zh z2;have HWF:=Zh hwf;clear MU z1 z2 hwf r1c r1f r2c r2f o4c o6c f2 f2c f2f f6 f6c f6f;have HSG:=Zh hσ';clear hσ';have hR1:0<R:=by have:=Int.emod_nonneg a (show b≠0 by have:=HB.out.1; omega); rw [HV.out.2.1] at this; have:=HRN.out; omega
     have hRb:R<b:=by have:=Int.emod_lt_of_pos a HB.out.1; rw [HV.out.2.1] at this; exact this
     have hS1:0<S:=by have:=Int.emod_nonneg c (show d≠0 by have:=HB.out.2; omega); rw [HV.out.2.2.2] at this; have:=HSN.out; omega
     have hoo:σ'*ordI (b*S) (d*R)=o:=by
      rw [<- HO.out,cmp_next HB.out.1 HB.out.2 HPQ.out,HV.out.2.1,HV.out.2.2.2,<- HSG.out,Int.neg_mul,Int.mul_neg]
     have hden:ratDen (((((((((u2.setCell ⟨B1,0,none⟩ (.bool s2)).setCell ⟨B1,1,none⟩ (.slice A2 n2 c2)).setCell ⟨B1,2,none⟩ (.bool s4)).setCell ⟨B1,3,none⟩ (.slice A4 n4 c4)).setCell ⟨B1+1,0,none⟩ (.bool t2)).setCell ⟨B1+1,1,none⟩ (.slice E2 m2 d2)).setCell ⟨B1+1,2,none⟩ (.bool s6)).setCell ⟨B1+1,3,none⟩ (.slice A6 n6 c6)).drew) B1=R.natAbs:=ratDen_of (Z1.out.below (Zb _ _).drew) (N2.out.below (Zb _ _).drew);have HOO:=Zh hoo;have HDEN:=Zh hden;clear hoo hden;go_wp2;go_roundw
     case rel=>exact ⟨b,R,d,S,σ',s2,A2,n2,c2,s4,A4,n4,c4,t2,E2,m2,d2,s6,A6,n6,c6,by rfl,by rcases HS.out with h | h <;> have:=HSG.out <;> omega,hR1,hS1,HOO.out,HWF.out.drew,Z1.out.below (Zb _ _).drew,Z2.out.below (Zb _ _).drew,N1.out.below (Zb _ _).drew,N2.out.below (Zb _ _).drew,N3.out.below (Zb _ _).drew,N4.out.below (Zb _ _).drew⟩
     case measure=>rw [HDEN.out,HM0.out]; omega
  ·have hk1:(k==0)=false:=by simpa using hk0
   have hPQ:a / b≠c / d:=by
    rw [HV.out.1,HV.out.2.2.1];intro h;rw [h,ordI_eq] at HK;exact hk0 HK.out.symm
   have hR0:σ*k=o:=by rw [<- HO.out,cmp_whole HB.out.1 HB.out.2 hPQ,HV.out.1,HV.out.2.2.1,HK.out]
   have HR0:=Zh hR0;clear hPQ hR0 HK;rcases HS.out with rfl | rfl
   ·go_wp2;rw [Exit.noGoto_ret];go_ret;exact ⟨ret_int (by have:=HR0.out; first | omega | (unfold wrap64; omega)),hw4⟩
   ·go_wp2;rw [Exit.noGoto_ret];go_ret;exact ⟨ret_int (by have:=HR0.out; first | omega | (unfold wrap64; omega)),hw4⟩
end Go.Proofs.YtflolbnnkbdmfaaGreat
