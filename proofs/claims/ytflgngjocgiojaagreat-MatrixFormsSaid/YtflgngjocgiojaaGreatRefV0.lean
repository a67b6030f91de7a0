import Derived.Test.YtflgngjocgiojaaGreatMfA
import Derived.Deep.Matrix
set_option linter.all false
namespace Go.Proofs.YtflgngjocgiojaaGreat
open Go.ChangeShapes Go.WideShapes Go.ChangeAt Go.RowKit
theorem ints_open {W:World} {a:Option Addr} {len cap:Nat} {zs:List Int}
 (h:(a=none/\len=0/\cap=0/\zs=[])\/∃ x,a=some x/\len<=cap/\cap<=maxLen/\zs.length=cap/\(∀ i,i<zs.length->W.cell? (x.add i)=some (.int .i64 (zs.getD i 0)))/\∀ n∈zs,(Lit.int .i64 n).wf=true)
 : IntsAt W a len (zs.take len)/\len<=cap/\cap<=9223372036854775807:=by
 obtain ⟨h1,h2⟩:=sliceI_of h;refine ⟨h1.ints fun i hi=>?_,h2⟩;rcases h with ⟨_,_,_,rfl⟩ | ⟨x,_,_,_,_,_,hw⟩
 ·simp at hi
 ·have hi':i<zs.length:=by rw [List.length_take] at hi; omega
  have e:iAt (zs.take len) i=zs[i]:=by
   unfold iAt;rw [Ze,List.getElem?_take,if_pos (by rw [List.length_take] at hi; omega),List.getElem?_eq_getElem hi'];rfl
  rw [e];exact i64_wf (hw _ (List.getElem_mem hi'))
theorem rows_open {W:World} {base:Nat} {a:Addr} {len cap:Nat} {A:Nat->Option Addr} {L C:Nat->Nat} {Z:Nat->List Int} (hl:len<=cap)
 (h:∀ r,r<cap->W.cell? (a.add r)=some (.slice (A r) (L r) (C r))/\L r<=C r/\C r<=maxLen/\(Z r).length=C r/\(∀ n∈Z r,(Lit.int .i64 n).wf=true)/\(A r=none->C r=0)/\∀ a',A r=some a'->base<=a'.block/\∀ c,c<C r->W.cell? (a'.add c)=some (.int .i64 ((Z r).getD c 0))) :
 RowsAt W (some a) len ((List.range len).map fun r=>(Z r).take (L r)):=by
 refine ⟨aS,fun h0=>?_⟩;obtain ⟨b,off,spot⟩:=a;have q0:=(h 0 aO).1;have hs:spot=none:=by simpa [Addr.add] using World.cell?_spot q0
 subst hs;refine ⟨b,off,rfl,?_,fun i hi=>?_⟩
 ·simp [Addr.add] at q0;rcases Nat.lt_or_ge b W.heap.size with h | h
  ·exact h
  ·simp [World.cell?,Array.getElem?_eq_none h] at q0
 ·obtain ⟨q1,q2,q3,q4,q5,q6,q7⟩:=h i aO;have e1:(⟨b,off,none⟩:Addr).add i=⟨b,off+i,none⟩:=by unfold Addr.add; split <;> simp_all
  rw [e1] at q1;have e2:rAt ((List.range len).map fun r=>(Z r).take (L r)) i=(Z i).take (L i):=by
   unfold rAt;rw [Ze,List.getElem?_map,List.getElem?_range hi];rfl
  rw [e2];unfold maxLen at q3;refine ⟨A i,L i,C i,q1,q2,aO,?_⟩;refine (ints_open (cap:=C i) ?_).1;rcases hA:A i with _ | x
  ·have hc:=q6 hA;exact .inl ⟨rfl,aO,hc,List.eq_nil_of_length_eq_zero aO⟩
  ·exact .inr ⟨x,rfl,q2,by unfold maxLen; omega,q4,fun j hj=>(q7 x hA).2 j aO,q5⟩
end Go.Proofs.YtflgngjocgiojaaGreat
namespace Go.Proofs.YtflgngjocgiojaaGreat
open Go.RowKit
def numTB (T:List Nat) (z:Int):EBS T where
 val p:= .tuple #[numC z p.1 p.2,.bool true]
 R p u:=p.1∉T/\NumC u p.1 p.2 z
 st _ _ _ h k:=⟨h.1,h.2.upd h.1 k⟩
theorem numTB_val {T:List Nat} {z:Int} {p:Nat×Nat}:(numTB T z).val p = .tuple #[numC z p.1 p.2,.bool true]:=rfl
def divTB (T:List Nat) (z:Int):EBS T where
 val p:= .tuple #[numC z p.1 p.2,zeroN,.bool true]
 R p u:=p.1∉T/\NumC u p.1 p.2 z
 st _ _ _ h k:=⟨h.1,h.2.upd h.1 k⟩
theorem divTB_val {T:List Nat} {z:Int} {p:Nat×Nat}:(divTB T z).val p = .tuple #[numC z p.1 p.2,zeroN,.bool true]:=rfl
theorem gcd_dvd {zb zd zg:Int} (h:((Nat.gcd zb.natAbs zd.natAbs:Nat):Int)=zg):zg∣zd:=by
 rw [<- h];exact Int.ofNat_dvd_left.2 (Nat.gcd_dvd_right _ _)
def NumE (base:Nat) (z:Int) (e:Ending) (w':World):Prop:=∃ s B m d,e = .returned (.agg #[.bool s,.slice B m d])/\NumAt w' (.agg #[.bool s,.slice B m d]) z/\∀ b off,B=some ⟨b,off,none⟩->base<=b/\b<w'.heap.size
def BoxX (R:Nat) (w:World) (X:Nat) (z:Int):Prop:=∃ s B m d,Own w X #[.bool s,.slice B m d]/\(∀ x off,B=some ⟨x,off,none⟩->R<x/\x<w.heap.size/\x≠X)/\NumAt w (.agg #[.bool s,.slice B m d]) z
set_option maxRecDepth 100000 in
set_option maxHeartbeats 8000000 in
theorem ref5_multiple {w:World} {A:Option Addr} {n:Nat} {Q:Nat->QI} (c:Nat) (h:RatsA w A n Q) (hn:n<=900) (hq:WholeQ Q n) :
 Calls Tryz.prog 81 #[.slice A n c] w fun e w'=>NumE w.heap.size (byW Q n) e w'/\Below w.heap.size w w':=by
 have H:=Zh h;have HQ:=Zh hq;have hni:(n:Int)<=900:=aO
 clear h hq;have hW:=(Zb w.heap.size w).alloc (Zr _) (.cells #[.bool false,.slice none 0 0] 35);have o2:Own (w.alloc (.cells #[.bool false,.slice none 0 0] 35)) w.heap.size #[.bool false,.slice none 0 0]:=Own.new rfl;go_enter Tryz.func81,Tryz.ntmps81;go_wp2_with fail;generalize (w.alloc (.cells #[.bool false,.slice none 0 0] 35))=W0 at *;have q:=ref1_Of (w:=W0) 1 aO aO;refine Zd q ?_;clear q;rintro e u1 ⟨⟨b1,C1,rfl,q1,q2,q3⟩,hb1⟩;obtain ⟨A1,n1,c1,hs7⟩:=slC_form 1 b1 C1;have N1:=q1.at2 (fits_small aO) hs7;simp only [numC];rw [hs7];have oo:=o2.below hb1;have l2:=o2.lt;have hz1:=hb1.size;have hwz:=hW.size;have hal:=(Zb u1.heap.size u1).alloc (Zr _) (.cells #[.bool (sgnN 1),.slice A1 n1 c1] 35);have hbox:BoxX w.heap.size (u1.alloc (.cells #[.bool (sgnN 1),.slice A1 n1 c1] 35)) u1.heap.size (byW Q 0):=⟨_,_,_,_,Own.new rfl,fun x off e=>by
  rw [e] at hs7;have h8:=slC_addr hs7;cases h8;exact ⟨aO,aT,aO⟩,N1.below hal⟩
 have hW1:Below w.heap.size w (u1.alloc (.cells #[.bool (sgnN 1),.slice A1 n1 c1] 35)):=(hW.trans (hb1.mono hwz)).alloc aO _;have oR:=oo.below hal;have hsz:(u1.alloc (.cells #[.bool (sgnN 1),.slice A1 n1 c1] 35)).heap.size=u1.heap.size+1:=aS
 clear q1 q2 q3 hs7 N1 oo hal hb1 o2 hW;go_wp2;generalize (u1.alloc (.cells #[.bool (sgnN 1),.slice A1 n1 c1] 35))=W1 at *;obtain ⟨X,hX⟩:=Zx (u1.heap.size);rw [hX] at hbox hsz ⊢;have hXw:w.heap.size<X:=aO
 clear hX hz1 l2 hwz;have HBX:=Zh hbox;have HOR:=Zh oR;have HW1:=Zh hW1;clear hbox oR hW1;go_loopw [4] (fun i wr=>∃ k:Nat,k<=n/\i = .int .i64 k/\Below w.heap.size w wr/\X<wr.heap.size/\Own wr w.heap.size #[.bool false,.slice none 0 0]/\BoxX w.heap.size wr X (byW Q k)) (fun i _=>n - (intOf i).toNat)
 case atStart=>exact ⟨0,aO,rfl,HW1.out,aO,HOR.out,HBX.out⟩
 case round =>
  clear HBX HOR HW1 hsz;obtain ⟨k,hk,rfl,hbw,hXl,hoR,hbx⟩:=hrel;have HW1:=Zh hbw;obtain ⟨sb,Ab,nb,cb,ob,hob,Nb⟩:=hbx;have HNb:=Zh (Zi Nb hob);have hwz:=hbw.size;clear hbw Nb hob
  by_cases hlt:k<n
  ·have hlti:(k:Int)<(n:Int):=aO
   obtain ⟨b,off,rfl,hbb,hcell⟩:=(H.out.below HW1.out) aO;obtain ⟨s1,A1,n1,c1,s2,A2,n2,c2,e1,e2,e3,e4,NA,ND⟩:=hcell k hlt;have HND:=Zh ND;have hsm:=HQ.out.sm k hlt;have hby:=HQ.out.by_ k aO;have hby2:=HQ.out.by_ (k+1) aO;have hbw:byW Q (k+1)=byW Q k*((Q k).2 / ((Nat.gcd (byW Q k).natAbs (Q k).2.natAbs:Nat):Int)):=rfl;obtain ⟨zb,hzb⟩:=Zx (byW Q k);obtain ⟨zd,hzd⟩:=Zx ((Q k).2);rw [hzb] at HNb hby hbw;rw [hzd] at HND hbw;have hd0:zd≠0:=by rw [<- hzd]; exact good_ne hsm.1
   have hsd:Sm zd:=by rw [<- hzd]; exact hsm.2.2
   obtain ⟨zg,hzg⟩:∃ z:Int,((Nat.gcd zb.natAbs zd.natAbs:Nat):Int)=z:=⟨_,rfl⟩;have hg0:0<zg:=by
    rw [<- hzg];have:0<Nat.gcd zb.natAbs zd.natAbs:=Nat.gcd_pos_of_pos_right _ aO;omega
   have hgd:=gcd_dvd hzg;have hsg:Sm zg:=sm_le hsd (by rw [<- hzg]; exact Nat.le_of_dvd aO (Nat.gcd_dvd_right _ _));rw [hzg] at hbw;obtain ⟨zq,hzq⟩:=Zx (zd / zg);rw [hzq] at hbw;have hsq:Sm zq:=by rw [<- hzq]; exact sm_div hsd aO
   obtain ⟨zn,hzn⟩:=Zx (zb*zq);rw [hzn] at hbw;rw [hbw] at hby2;have HP:=Zh (Zi hzg (Zi hzq (Zi hzn (Zi hg0 (Zi hgd (Zi hby2 hbw))))));have HFg:=Zh hsg.fits;have HFq:=Zh hsq.fits;have HFn:=Zh hby2.fits;have obl:=ob.lt;clear hcell NA ND hsm hby hby2 hbw hzb hzd hd0 hsd hzg hg0 hgd hsg hzq hsq hzn e1 e2;go_wp2;refine region_gen (T:=[]) [.make 6 [] (numTB [] zg),.need 7 [6],.need 9 [],.make 10 [] (ownB [] #[.bool false,.slice none 0 0] (fun p=>.pointer (some ⟨p,0,none⟩)))] 11 0 40 (fun _ _=>True) (fun _ _ _ _ _=>trivial) trivial aK aK (by rfl) ?_;unfold genWalk;apply Zs;apply Zi
   ·apply Piece.mk
    ·intro f v hv hr hne;simp only [List.take_succ_cons,List.take_zero,List.drop_succ_cons,List.drop_zero,Nat.reduceSub,Nat.reduceAdd];have d0:=fun y=>(ob.later (v:=v) (T:=[]) aS y).cell
     have d3:=later_cell (T:=[]) (w:=wr) (v:=v) hbb aS e3;have d4:=later_cell (T:=[]) (w:=wr) (v:=v) hbb aS e4
     repeat (go_big_quiet_step (fail))
     refine wpQuiet_nil ?_;exact rfl
    ·intro f; kernel_rfl
    ·intro f f' hf; kernel_rfl
   simp only [List.take_succ_cons,List.take_zero,List.drop_succ_cons,List.drop_zero,Nat.reduceSub,Nat.reduceAdd,oneOp];refine ⟨fun f=>⟨rfl,fun u hu _=>?_⟩,?_⟩
   ·refine make_call (f:=90) (args:=#[.agg #[.bool sb,.slice Ab nb cb],.agg #[.bool s2,.slice A2 n2 c2]]) (by (try simp only [LN]); (try simp only [newB_val,numB_val,ownB_val,numTB_val,divTB_val]); go_simp) ?_;have q:=ref1_GcdG (w:=u) (HNb.out.1.keeps hu) (HND.out.keeps hu) (HNb.out.1.easy) (HND.out.easy);rw [HP.out.1] at q;refine q.mono ?_;rintro e wx ⟨⟨b,C,rfl,q1,q2,q3⟩,hbx⟩;exact ⟨(b,C),by rw [HFg.out]; rfl,q2,q3,hbx,aS,q1⟩
   unfold genWalk;apply Zs;apply Zi
   ·apply Piece.mk
    ·intro f v hv hr hne;simp only [List.take_succ_cons,List.take_zero,List.drop_succ_cons,List.drop_zero,Nat.reduceSub,Nat.reduceAdd]
     (try simp only [LN])
     (try simp only [newB_val,numB_val,ownB_val,numTB_val,divTB_val])
     repeat (go_big_quiet_step (fail))
     refine wpQuiet_nil ?_;exact rfl
    ·intro f; kernel_rfl
    ·intro f f' hf; simp
   unfold genWalk;apply Zs;apply Zi
   ·apply Piece.mk
    ·intro f v hv hr hne;simp only [List.take_succ_cons,List.take_zero,List.drop_succ_cons,List.drop_zero,Nat.reduceSub,Nat.reduceAdd]
     (try simp only [LN])
     (try simp only [newB_val,numB_val,ownB_val,numTB_val,divTB_val])
     repeat (go_big_quiet_step (fail))
     refine wpQuiet_nil ?_;exact rfl
    ·intro f; kernel_rfl
    ·intro f f' hf; first | (simp; done) | (simp [hf 6 aS])
   unfold genWalk;apply Zs;apply Zi
   ·apply Piece.mk
    ·intro f v hv hr hne;simp only [List.take_succ_cons,List.take_zero,List.drop_succ_cons,List.drop_zero,Nat.reduceSub,Nat.reduceAdd]
     (try simp only [LN])
     (try simp only [newB_val,numB_val,ownB_val,numTB_val,divTB_val])
     repeat (go_big_quiet_step (fail))
     refine wpQuiet_nil ?_;exact rfl
    ·intro f; kernel_rfl
    ·intro f f' hf; simp
   simp only [List.take_succ_cons,List.take_zero,List.drop_succ_cons,List.drop_zero,Nat.reduceSub,Nat.reduceAdd,oneOp];refine ⟨fun f=>⟨rfl,fun u hu _=>?_⟩,?_⟩
   ·refine make_own (e:=35) (by (try simp only [LN]); (try simp only [newB_val,numB_val,ownB_val,numTB_val,divTB_val]); go_simp) aS
   unfold genWalk;apply Zs;apply Zi
   ·apply Piece.mk
    ·intro f v hv hr hne;simp only [List.take_succ_cons,List.take_zero,List.drop_succ_cons,List.drop_zero,Nat.reduceSub,Nat.reduceAdd]
     (try simp only [LN])
     (try simp only [newB_val,numB_val,ownB_val,numTB_val,divTB_val])
     repeat (go_big_quiet_step (fail))
     refine wpQuiet_nil ?_;exact rfl
    ·intro f; kernel_rfl
    ·intro f f' hf; simp
   intro f u' hup hph hmade hdist;obtain ⟨⟨_,oN⟩,loN,hiN⟩:=hmade 6 aO rfl;obtain ⟨⟨_,o3⟩,lo3,hi3⟩:=hmade 10 aO rfl;have hne1:=hdist 6 10 aO aO rfl rfl aO;replace oN:NumC u' (f 6).1 (f 6).2 zg:=oN;replace o3:Own u' (f 10).1 #[.bool false,.slice none 0 0]:=o3;clear hmade hdist hph;simp only [List.take_succ_cons,List.take_zero,List.drop_succ_cons,List.drop_zero,Nat.reduceSub,Nat.reduceAdd]
   (try simp only [LN])
   (try simp only [newB_val,numB_val,ownB_val,numTB_val,divTB_val,numC,zeroN])
   generalize (f 6).1=b1 at *;generalize (f 6).2=C1 at *;generalize (f 10).1=bg at *;clear f;have hwU:Below wr.heap.size wr u':=Upd.below (Zb _ _) hup aS;have hkT:=Upd.keeps (Keeps.refl _ _) hup;obtain ⟨Ag1,ng1,cg1,hs7⟩:=slC_form zg b1 C1;rw [hs7];have HSL:=Zh hs7;have o3c:=o3.cell;have o3f:=o3.thaw;clear hs7 hup;refine effc_mem (by rfl) (fun K hK=>?_);go_simp;refine hK _ _ ((hkT.new (p:=⟨bg,0,none⟩) lo3 (.bool (sgnN zg))).new (p:=⟨bg,1,none⟩) lo3 (.slice Ag1 ng1 cg1)) (fun u3 hu3=>?_);clear hK K;have hs3:=hu3.size;simp [World.setCell] at hs3;have hw2:=(((hwU.setCell (p:=⟨bg,0,none⟩) lo3 (.bool (sgnN zg))).setCell (p:=⟨bg,1,none⟩) lo3 (.slice Ag1 ng1 cg1))).trans (hu3.mono (by simp [World.setCell]; exact hwU.size));have k3:=(((o3.set 0 (.bool (sgnN zg))).set 1 (.slice Ag1 ng1 cg1))).below hu3;have N1:=((((oN.far (p:=⟨bg,0,none⟩) (by first | assumption | (simp; omega)) (.bool (sgnN zg))).far (p:=⟨bg,1,none⟩) (by first | assumption | (simp; omega)) (.slice Ag1 ng1 cg1))).below hu3);have hk1:=(((hkT.new (p:=⟨bg,0,none⟩) lo3 (.bool (sgnN zg))).new (p:=⟨bg,1,none⟩) lo3 (.slice Ag1 ng1 cg1))).later hu3;clear o3 o3c o3f oN hkT hu3 hwU;refine effc_mem (by rfl) (fun K hK=>?_);go_simp;refine hK _ _ hk1 (fun ug hu4=>?_);clear hK K;refine effc_nil ?_
   (try simp only [LN])
   have HBg:=hw2.trans (hu4.mono hw2.size);have OBg:=k3.below hu4;have hsz4:=hu4.size;have NXg:Hid (NumAt ug (.agg #[.bool (sgnN zg),.slice Ag1 ng1 cg1]) zg/\∀ b off,Ag1=some ⟨b,off,none⟩->wr.heap.size<=b/\b<ug.heap.size/\b≠bg):=Zh ⟨(N1.below hu4).at2 HFg.out HSL.out,fun b off e=>by
    have h9:=HSL.out;rw [e] at h9;have h8:=slC_addr h9;cases h8;exact ⟨aO,aO,hne1⟩⟩
   have LBg:=lo3;clear k3 N1 hu4 hw2 hk1 HSL hne1 hs3 hsz4 loN hiN lo3 hi3;have hzg:=HBg.size;have ob2:=ob.below HBg;have e3g:=(Zc (w:=wr) (a:=⟨b,off+k*4+2,none⟩) (HBg.block b hbb)).trans e3;have e4g:=(Zc (w:=wr) (a:=⟨b,off+k*4+3,none⟩) (HBg.block b hbb)).trans e4;have hbbg:b<ug.heap.size:=aO
   have HNDg:=Zh (HND.out.below HBg);have HNbg:=Zh (HNb.out.1.below HBg);have HWg:=Zh (HW1.out.trans (HBg.mono hwz));have hoRg:=hoR.below HBg;have obg:=OBg;have obgl:=OBg.lt;have hXg:X<ug.heap.size:=aO
   have hgX:bg≠X:=aO
   clear e3 e4 HND HBg hoR ob OBg;go_wp2;refine region_gen (T:=[]) [.make 6 [] (divTB [] zq),.need 7 [6],.need 9 [],.make 11 [] (ownB [] #[.bool false,.slice none 0 0] (fun p=>.pointer (some ⟨p,0,none⟩))),.make 12 [] (ownB [] #[.bool false,.slice none 0 0] (fun p=>.pointer (some ⟨p,0,none⟩)))] 13 0 40 (fun _ _=>True) (fun _ _ _ _ _=>trivial) trivial aK aK (by rfl) ?_;unfold genWalk;apply Zs;apply Zi
   ·apply Piece.mk
    ·intro f v hv hr hne;simp only [List.take_succ_cons,List.take_zero,List.drop_succ_cons,List.drop_zero,Nat.reduceSub,Nat.reduceAdd];have d0:=fun y=>(obg.later (v:=v) (T:=[]) aS y).cell
     have d3:=later_cell (T:=[]) (w:=ug) (v:=v) hbbg aS e3g;have d4:=later_cell (T:=[]) (w:=ug) (v:=v) hbbg aS e4g
     repeat (go_big_quiet_step (fail))
     refine wpQuiet_nil ?_;exact rfl
    ·intro f; kernel_rfl
    ·intro f f' hf; kernel_rfl
   simp only [List.take_succ_cons,List.take_zero,List.drop_succ_cons,List.drop_zero,Nat.reduceSub,Nat.reduceAdd,oneOp];refine ⟨fun f=>⟨rfl,fun u hu _=>?_⟩,?_⟩
   ·refine make_call (f:=82) (args:=#[.agg #[.bool s2,.slice A2 n2 c2],.agg #[.bool (sgnN zg),.slice Ag1 ng1 cg1]]) (by (try simp only [LN]); (try simp only [newB_val,numB_val,ownB_val,numTB_val,divTB_val]); go_simp) ?_;have q:=ref1_DivG (w:=u) (HNDg.out.keeps hu) (NXg.out.1.keeps hu) (HNDg.out.easy) (NXg.out.1.easy) HP.out.2.2.2.1 HP.out.2.2.2.2.1;rw [HP.out.2.1] at q;refine q.mono ?_;rintro e wx ⟨⟨b,C,rfl,q1,q2,q3⟩,hbx⟩;exact ⟨(b,C),by rfl,q2,q3,hbx,aS,q1⟩
   unfold genWalk;apply Zs;apply Zi
   ·apply Piece.mk
    ·intro f v hv hr hne;simp only [List.take_succ_cons,List.take_zero,List.drop_succ_cons,List.drop_zero,Nat.reduceSub,Nat.reduceAdd]
     (try simp only [LN])
     (try simp only [newB_val,numB_val,ownB_val,numTB_val,divTB_val])
     repeat (go_big_quiet_step (fail))
     refine wpQuiet_nil ?_;exact rfl
    ·intro f; kernel_rfl
    ·intro f f' hf; simp
   unfold genWalk;apply Zs;apply Zi
   ·apply Piece.mk
    ·intro f v hv hr hne;simp only [List.take_succ_cons,List.take_zero,List.drop_succ_cons,List.drop_zero,Nat.reduceSub,Nat.reduceAdd]
     (try simp only [LN])
     (try simp only [newB_val,numB_val,ownB_val,numTB_val,divTB_val])
     repeat (go_big_quiet_step (fail))
     refine wpQuiet_nil ?_;exact rfl
    ·intro f; kernel_rfl
    ·intro f f' hf; first | (simp; done) | (simp [hf 6 aS])
   unfold genWalk;apply Zs;apply Zi
   ·apply Piece.mk
    ·intro f v hv hr hne;simp only [List.take_succ_cons,List.take_zero,List.drop_succ_cons,List.drop_zero,Nat.reduceSub,Nat.reduceAdd]
     (try simp only [LN])
     (try simp only [newB_val,numB_val,ownB_val,numTB_val,divTB_val])
     repeat (go_big_quiet_step (fail))
     refine wpQuiet_nil ?_;exact rfl
    ·intro f; kernel_rfl
    ·intro f f' hf; simp
   simp only [List.take_succ_cons,List.take_zero,List.drop_succ_cons,List.drop_zero,Nat.reduceSub,Nat.reduceAdd,oneOp];refine ⟨fun f=>⟨rfl,fun u hu _=>?_⟩,?_⟩
   ·refine make_own (e:=35) (by (try simp only [LN]); (try simp only [newB_val,numB_val,ownB_val,numTB_val,divTB_val]); go_simp) aS
   unfold genWalk;apply Zs;apply Zi
   ·apply Piece.mk
    ·intro f v hv hr hne;simp only [List.take_succ_cons,List.take_zero,List.drop_succ_cons,List.drop_zero,Nat.reduceSub,Nat.reduceAdd]
     (try simp only [LN])
     (try simp only [newB_val,numB_val,ownB_val,numTB_val,divTB_val])
     repeat (go_big_quiet_step (fail))
     refine wpQuiet_nil ?_;exact rfl
    ·intro f; kernel_rfl
    ·intro f f' hf; simp
   simp only [List.take_succ_cons,List.take_zero,List.drop_succ_cons,List.drop_zero,Nat.reduceSub,Nat.reduceAdd,oneOp];refine ⟨fun f=>⟨rfl,fun u hu _=>?_⟩,?_⟩
   ·refine make_own (e:=35) (by (try simp only [LN]); (try simp only [newB_val,numB_val,ownB_val,numTB_val,divTB_val]); go_simp) aS
   unfold genWalk;apply Zs;apply Zi
   ·apply Piece.mk
    ·intro f v hv hr hne;simp only [List.take_succ_cons,List.take_zero,List.drop_succ_cons,List.drop_zero,Nat.reduceSub,Nat.reduceAdd]
     (try simp only [LN])
     (try simp only [newB_val,numB_val,ownB_val,numTB_val,divTB_val])
     repeat (go_big_quiet_step (fail))
     refine wpQuiet_nil ?_;exact rfl
    ·intro f; kernel_rfl
    ·intro f f' hf; simp
   intro f u' hup hph hmade hdist;obtain ⟨⟨_,oN⟩,loN,hiN⟩:=hmade 6 aO rfl;obtain ⟨⟨_,o3⟩,lo3,hi3⟩:=hmade 11 aO rfl;have hne1:=hdist 6 11 aO aO rfl rfl aO;replace oN:NumC u' (f 6).1 (f 6).2 zq:=oN;replace o3:Own u' (f 11).1 #[.bool false,.slice none 0 0]:=o3;obtain ⟨⟨_,o4⟩,lo4,hi4⟩:=hmade 12 aO rfl;replace o4:Own u' (f 12).1 #[.bool false,.slice none 0 0]:=o4;have hne2:=hdist 6 12 aO aO rfl rfl aO;have hne3:=hdist 11 12 aO aO rfl rfl aO;clear hmade hdist hph;simp only [List.take_succ_cons,List.take_zero,List.drop_succ_cons,List.drop_zero,Nat.reduceSub,Nat.reduceAdd]
   (try simp only [LN])
   (try simp only [newB_val,numB_val,ownB_val,numTB_val,divTB_val,numC,zeroN])
   generalize (f 6).1=b1 at *;generalize (f 6).2=C1 at *;generalize (f 11).1=bq at *;generalize (f 12).1=bzq at *;clear f;have hwU:Below ug.heap.size ug u':=Upd.below (Zb _ _) hup aS;have hkT:=Upd.keeps (Keeps.refl _ _) hup;obtain ⟨Aq1,nq1,cq1,hs7⟩:=slC_form zq b1 C1;rw [hs7];have HSL:=Zh hs7;have o3c:=o3.cell;have o3f:=o3.thaw;have o4c:=o4.cell;have o4f:=o4.thaw;clear hs7 hup;refine effc_mem (by rfl) (fun K hK=>?_);go_simp;refine hK _ _ ((hkT.new (p:=⟨bq,0,none⟩) lo3 (.bool (sgnN zq))).new (p:=⟨bq,1,none⟩) lo3 (.slice Aq1 nq1 cq1)) (fun u3 hu3=>?_);clear hK K;have hs3:=hu3.size;simp [World.setCell] at hs3;have hw2:=(((hwU.setCell (p:=⟨bq,0,none⟩) lo3 (.bool (sgnN zq))).setCell (p:=⟨bq,1,none⟩) lo3 (.slice Aq1 nq1 cq1))).trans (hu3.mono (by simp [World.setCell]; exact hwU.size));have k3:=(((o3.set 0 (.bool (sgnN zq))).set 1 (.slice Aq1 nq1 cq1))).below hu3;have N1:=((((oN.far (p:=⟨bq,0,none⟩) (by first | assumption | (simp; omega)) (.bool (sgnN zq))).far (p:=⟨bq,1,none⟩) (by first | assumption | (simp; omega)) (.slice Aq1 nq1 cq1))).below hu3);have hk1:=(((hkT.new (p:=⟨bq,0,none⟩) lo3 (.bool (sgnN zq))).new (p:=⟨bq,1,none⟩) lo3 (.slice Aq1 nq1 cq1))).later hu3;have k4:=(((o4.far (p:=⟨bq,0,none⟩) (by first | assumption | (simp; omega)) (.bool (sgnN zq))).far (p:=⟨bq,1,none⟩) (by first | assumption | (simp; omega)) (.slice Aq1 nq1 cq1))).below hu3;clear o3 o3c o3f oN hkT hu3 hwU;have k4c:=k4.cell;have k4f:=k4.thaw;clear o4 o4c o4f;refine effc_mem (by rfl) (fun K hK=>?_);go_simp;refine hK _ _ ((hk1.new (p:=⟨bzq,0,none⟩) lo4 (.bool false)).new (p:=⟨bzq,1,none⟩) lo4 (.slice none 0 0)) (fun u3b hu3=>?_);clear hK K;have hs3b:=hu3.size;simp [World.setCell] at hs3b;replace hw2:=(((hw2.setCell (p:=⟨bzq,0,none⟩) lo4 (.bool false)).setCell (p:=⟨bzq,1,none⟩) lo4 (.slice none 0 0))).trans (hu3.mono (by simp [World.setCell]; exact hw2.size));replace k3:=(((k3.far (p:=⟨bzq,0,none⟩) (by first | assumption | (simp; omega)) (.bool false)).far (p:=⟨bzq,1,none⟩) (by first | assumption | (simp; omega)) (.slice none 0 0))).below hu3;replace N1:=((((N1.far (p:=⟨bzq,0,none⟩) (by first | assumption | (simp; omega)) (.bool false)).far (p:=⟨bzq,1,none⟩) (by first | assumption | (simp; omega)) (.slice none 0 0))).below hu3);replace hk1:=(((hk1.new (p:=⟨bzq,0,none⟩) lo4 (.bool false)).new (p:=⟨bzq,1,none⟩) lo4 (.slice none 0 0))).later hu3;clear k4 k4c k4f hu3;refine effc_mem (by rfl) (fun K hK=>?_);go_simp;refine hK _ _ hk1 (fun uq hu4=>?_);clear hK K;refine effc_nil ?_
   (try simp only [LN])
   have HBq:=hw2.trans (hu4.mono hw2.size);have OBq:=k3.below hu4;have hsz4:=hu4.size;have NXq:Hid (NumAt uq (.agg #[.bool (sgnN zq),.slice Aq1 nq1 cq1]) zq/\∀ b off,Aq1=some ⟨b,off,none⟩->ug.heap.size<=b/\b<uq.heap.size/\b≠bq):=Zh ⟨(N1.below hu4).at2 HFq.out HSL.out,fun b off e=>by
    have h9:=HSL.out;rw [e] at h9;have h8:=slC_addr h9;cases h8;exact ⟨aO,aO,hne1⟩⟩
   have LBq:=lo3;clear k3 N1 hu4 hw2 hk1 HSL hne1 hs3 hsz4 loN hiN lo3 hi3 hne2 hne3 lo4 hi4 hs3b;have hzq:=HBq.size;have ob3:=ob2.below HBq;have HNbq:=Zh (HNbg.out.below HBq);have HWq:=Zh (HWg.out.trans (HBq.mono aO));have hoRq:=hoRg.below HBq;have hXq:X<uq.heap.size:=aO
   have hXw2:w.heap.size<=uq.heap.size:=aO
   have ob3c:=ob3.cell;have obqc:=OBq.cell;clear e3g e4g HNDg HBq hoRg ob2 HNbg HWg obg NXg;go_wp2_with fail;have q:=ref1_Mul HNbq.out NXq.out.1;unfold RetM at q;rw [HP.out.2.2.1] at q;simp only [HFn.out] at q;refine Zd q ?_;clear q;rintro e u9 ⟨⟨b7,C7,rfl,q1,q2,q3⟩,hb9⟩;obtain ⟨A7,n7,c7,hs7⟩:=slC_form zn b7 C7;simp only [numC];rw [hs7];have M7:=Zh (q1.at2 HFn.out hs7);have hA7:Hid (∀ x off,A7=some ⟨x,off,none⟩->uq.heap.size<=x/\x<u9.heap.size):=Zh (fun x off e=>by
    rw [e] at hs7;have h8:=slC_addr hs7;cases h8;exact ⟨q2,q3⟩)
   have ob4:=ob3.below hb9;have ob4c:=ob4.cell;have ob4f:=ob4.thaw;have HW9:=Zh (HWq.out.trans (hb9.mono hXw2));have hoR9:=hoRq.below hb9;have hz9:=hb9.size;clear ob3 ob3c obqc q1 q2 q3 hs7 hb9 hoRq;go_wp2;have hsz9:((u9.setCell ⟨X,0,none⟩ (.bool (sgnN zn))).setCell ⟨X,1,none⟩ (.slice A7 n7 c7)).heap.size=u9.heap.size:=by simp [World.setCell]
   have HBN:Hid (BoxX w.heap.size ((u9.setCell ⟨X,0,none⟩ (.bool (sgnN zn))).setCell ⟨X,1,none⟩ (.slice A7 n7 c7)) X zn):=Zh ⟨_,_,_,_,((ob4.set 0 _).set 1 _).eq rfl,fun x off e=>by
    have h:=hA7.out x off e;exact ⟨aO,aO,aO⟩,M7.out.same (by rw [hsz9]; exact Zr _) fun x off e=>by
    have h:=hA7.out x off e;exact (Below.heap_setCell _ _ _ x (by show x≠X; omega)).trans (Below.heap_setCell _ _ _ x (by show x≠X; omega))⟩
   have hoRN:=(hoR9.far (p:=⟨X,0,none⟩) aT (.bool (sgnN zn))).far (p:=⟨X,1,none⟩) aT (.slice A7 n7 c7);go_roundw
   case rel=>exact ⟨k+1,aO,by go_num,(HW9.out.setCell (p:=⟨X,0,none⟩) aT _).setCell (p:=⟨X,1,none⟩) aT _,aO,hoRN,by rw [HP.out.2.2.2.2.2.2]; exact HBN.out⟩
   case measure=>simp [intOf]; omega
  ·obtain rfl:k=n:=aO
   have hlti:¬ (k:Int)<(k:Int):=aO
   have obc:=ob.cell;have hoRc:=hoR.cell;have hoRf:=hoR.thaw;have hRl:=hoR.lt;go_wp2;refine retC (b:=w.heap.size) (v:= .agg #[.bool sb,.slice Ab nb cb]) ((hoR.set 0 _).set 1 _) (fun w' hw'=>by simp [results,Tryz.results81,go_sem,hw']) rfl ⟨⟨_,_,_,_,rfl,HNb.out.1.same (by simp [World.setCell]) fun x off e=>(Below.heap_setCell _ _ _ x (by have:=HNb.out.2 x off e; show x≠w.heap.size; omega)).trans (Below.heap_setCell _ _ _ x (by have:=HNb.out.2 x off e; show x≠w.heap.size; omega)),fun x off e=>by have:=HNb.out.2 x off e; simp [World.setCell]; omega⟩,(HW1.out.setCell (p:=⟨w.heap.size,0,none⟩) aS _).setCell (p:=⟨w.heap.size,1,none⟩) aS _⟩
def RatsP (W:World) (b:Nat) (x:Nat->QI) (k n:Nat):Prop:=∃ cs,OwnT W b cs 37/\cs.size=n*4/\∀ i,i<k->∃ s1 A1 n1 c1 s2 A2 n2 c2,cs[i*4]?=some (.bool s1)/\cs[i*4+1]?=some (.slice A1 n1 c1)/\cs[i*4+2]?=some (.bool s2)/\cs[i*4+3]?=some (.slice A2 n2 c2)/\RatX (fun y=>y≠b) W s1 A1 n1 c1 s2 A2 n2 c2 (x i).1 (x i).2
theorem RatsP.below {W W':World} {b:Nat} {x:Nat->QI} {k n:Nat} (h:RatsP W b x k n) (hb:Below W.heap.size W W'):RatsP W' b x k n:=by
 obtain ⟨cs,ho,hz,hc⟩:=h;refine ⟨cs,ho.below hb,hz,fun i hi=>?_⟩;obtain ⟨s1,A1,n1,c1,s2,A2,n2,c2,e1,e2,e3,e4,hr⟩:=hc i hi;exact ⟨s1,A1,n1,c1,s2,A2,n2,c2,e1,e2,e3,e4,hr.below hb⟩
theorem RatsP.lt {W:World} {b:Nat} {x:Nat->QI} {k n:Nat} (h:RatsP W b x k n):b<W.heap.size:=by
 obtain ⟨cs,ho,_⟩:=h;exact ho.own.lt
theorem RatsP.thaw {W:World} {b:Nat} {x:Nat->QI} {k n:Nat} (h:RatsP W b x k n):∀ i,W.frozen? ⟨b,i,none⟩=false:=by
 obtain ⟨cs,ho,_⟩:=h;exact ho.own.thaw
theorem RatsP.cells {W:World} {b:Nat} {x:Nat->QI} {k n j:Nat} (h:RatsP W b x k n) (hj:j<n):∃ v0 v1 v2 v3,W.cell? ⟨b,j*4,none⟩=some v0/\W.cell? ⟨b,j*4+1,none⟩=some v1/\W.cell? ⟨b,j*4+2,none⟩=some v2/\W.cell? ⟨b,j*4+3,none⟩=some v3:=by
 obtain ⟨cs,ho,hz,_⟩:=h;have g0:∀ m,j*4+m<cs.size->W.cell? ⟨b,j*4+m,none⟩=some cs[j*4+m]!:=fun m hm=>by
  rw [ho.own.cell,Array.getElem?_eq_getElem hm,getElem!_pos cs _ hm]
 exact ⟨_,_,_,_,g0 0 aO,g0 1 aO,g0 2 aO,g0 3 aO⟩
theorem RatsP.set {W:World} {b:Nat} {x y:Nat->QI} {k k' j n:Nat} (h:RatsP W b x k n) (hj:j<n) {s1 s2:Bool} {A1 A2:Option Addr} {n1 c1 n2 c2:Nat} (hr:RatX (fun y=>y≠b) W s1 A1 n1 c1 s2 A2 n2 c2 (y j).1 (y j).2) (hy:∀ i,i<k'->i≠j->i<k/\y i=x i) :
 RatsP ((((W.setCell ⟨b,j*4,none⟩ (.bool s1)).setCell ⟨b,j*4+1,none⟩ (.slice A1 n1 c1)).setCell ⟨b,j*4+2,none⟩ (.bool s2)).setCell ⟨b,j*4+3,none⟩ (.slice A2 n2 c2)) b y k' n:=by
 obtain ⟨cs,ho,hz,hc⟩:=h;obtain ⟨cs',ho',hz',hn,hold⟩:=put4_own ho (j*4) (.bool s1) (.slice A1 n1 c1) (.bool s2) (.slice A2 n2 c2);have hmv:∀ {t1 B1 m1 d1 t2 B2 m2 d2 p q},RatX (fun y=>y≠b) W t1 B1 m1 d1 t2 B2 m2 d2 p q->RatX (fun y=>y≠b) (put4 W b (j*4) (.bool s1) (.slice A1 n1 c1) (.bool s2) (.slice A2 n2 c2)) t1 B1 m1 d1 t2 B2 m2 d2 p q:=
  fun h=>h.move (by rw [put4_size]; exact Zr _) fun y _ hX=>⟨put4_block _ _ _ _ _ _ _ y hX,hX⟩
 refine ⟨cs',ho',by rw [hz',hz],fun i h2=>?_⟩
 by_cases e:i=j
 ·subst e;obtain ⟨g1,g2,g3,g4⟩:=hn aO;exact ⟨s1,A1,n1,c1,s2,A2,n2,c2,g1,g2,g3,g4,hmv hr⟩
 ·obtain ⟨h3,h4⟩:=hy i h2 e;obtain ⟨t1,B1,m1,d1,t2,B2,m2,d2,e1,e2,e3,e4,h5⟩:=hc i h3;rw [h4];exact ⟨t1,B1,m1,d1,t2,B2,m2,d2,(hold _ aO).trans e1,(hold _ aO).trans e2,(hold _ aO).trans e3,(hold _ aO).trans e4,hmv h5⟩
theorem RatsP.congr {W:World} {b:Nat} {x y:Nat->QI} {k n:Nat} (h:RatsP W b x k n) (e:∀ i,i<k->y i=x i):RatsP W b y k n:=by
 obtain ⟨cs,ho,hz,hc⟩:=h;exact ⟨cs,ho,hz,fun i hi=>by rw [e i hi]; exact hc i hi⟩
theorem RatsP.toA {W:World} {b:Nat} {x:Nat->QI} {n:Nat} (h:RatsP W b x n n):RatsA W (some ⟨b,0,none⟩) n x:=fun _=>by
 obtain ⟨cs,ho,hz,hc⟩:=h;refine ⟨b,0,rfl,ho.own.lt,fun i hi=>?_⟩;obtain ⟨s1,A1,n1,c1,s2,A2,n2,c2,e1,e2,e3,e4,hr⟩:=hc i hi;exact ⟨s1,A1,n1,c1,s2,A2,n2,c2,by rw [Nat.zero_add,ho.own.cell]; exact e1,by rw [Nat.zero_add,ho.own.cell]; exact e2,by rw [Nat.zero_add,ho.own.cell]; exact e3,by rw [Nat.zero_add,ho.own.cell]; exact e4,hr.2.2.1,hr.2.2.2⟩
theorem MatR.put4 {X:Nat->Prop} {w:World} {g n wd b o:Nat} {Q:MQ} (h:MatR X w g n wd Q) (hg:g≠b) (hX:∀ y,X y->y≠b) (v1 v2 v3 v4:Value):MatR X ((((w.setCell ⟨b,o,none⟩ v1).setCell ⟨b,o+1,none⟩ v2).setCell ⟨b,o+2,none⟩ v3).setCell ⟨b,o+3,none⟩ v4) g n wd Q:=
 h.move (put4_block w b o v1 v2 v3 v4 g hg) (by simp [World.setCell]) fun y _ hy=>⟨put4_block w b o v1 v2 v3 v4 y (hX y hy),hy⟩
def GrowN (base:Nat) (w:World) (v:Value) (Z:List Int):Prop:=∃ xs,w.ownsRow base 35 2 v Z.length xs/\RowC (fun b=>base<=b/\some b≠v.ownBlock) w xs Z
theorem GrowN.start (base:Nat) (w:World):GrowN base w (.slice none 0 0) []:=⟨[],⟨rfl,.inl ⟨rfl,rfl⟩⟩,trivial⟩
theorem GrowN.below {base:Nat} {w w':World} {v:Value} {Z:List Int} (h:GrowN base w v Z) (hb:Below w.heap.size w w'):GrowN base w' v Z:=by
 obtain ⟨xs,h1,h2⟩:=h;exact ⟨xs,ownsRow_stay h1 hb,h2.below hb⟩
theorem GrowN.lt {base:Nat} {w:World} {v:Value} {Z:List Int} (h:GrowN base w v Z):∀ b,v.ownBlock=some b->b<w.heap.size:=by
 obtain ⟨xs,h1,_⟩:=h;exact fun b hb=>ownBlock_lt h1 hb
theorem GrowN.next {base g cg n:Nat} {U w':World} {v:Value} {xs:List Value} {Z:List Int} {z:Int} {s:Bool} {A:Option Addr} {m c:Nat} (hn:Z.length=n) (hc:RowC (fun b=>base<=b/\some b≠v.ownBlock) U xs Z) (hA:∀ b off,A=some ⟨b,off,none⟩->b<U.heap.size/\base<=b/\some b≠v.ownBlock) (hz:NumAt U (.agg #[.bool s,.slice A m c]) z)
 (ho:w'.ownsRow base 35 2 (.slice (some ⟨g,0,none⟩) (n+1) cg) (n+1) (xs++[.bool s,.slice A m c])) (hg:U.grownBy w' v.ownBlock) (hat:v.ownBlock=some g\/U.heap.size<=g):GrowN base w' (.slice (some ⟨g,0,none⟩) (n+1) cg) (Z++[z]):=by
 subst hn;refine ⟨_,by rw [List.length_append]; exact ho,(RowC.snoc ⟨A,m,c,rfl,hA⟩ hz hc).move hg.size fun b hb hX=>⟨hg.block b hb hX.2,hX.1,fun e=>?_⟩⟩;have e2:some b=some g:=e;cases e2;rcases hat with h | h
 ·exact hX.2 h.symm
 ·omega
theorem GrowN.row {base:Nat} {w:World} {v:Value} {Z:List Int} (h:GrowN base w v Z):RowV (fun b=>base<=b) v Z w:=by
 obtain ⟨xs,h1,h2⟩:=h;exact row_of rfl h1 (h2.move (Zr _) fun b _ hX=>⟨rfl,hX.1⟩) fun b hb _=>hb
theorem RowV.imp {X Y:Nat->Prop} {v:Value} {Z:List Int} {w:World} (h:RowV X v Z w) (hk:∀ b,X b->Y b):RowV Y v Z w:=by
 obtain ⟨A,c,e,h1,h2,h3,h4⟩:=h;exact ⟨A,c,e,h1,h2,h3,h4.imp fun b _ hX=>hk b hX⟩
theorem wholeZ_snoc (Q:Nat->QI) (n k:Nat):wholeZ Q n (k+1)=wholeZ Q n k++[(Q k).1*(byW Q n / (Q k).2)]:=rfl
theorem byW_two {Q:Nat->QI} {k:Nat} (h:0<(Q k).2):(Q k).2∣byW Q (k+1)/\byW Q k∣byW Q (k+1):=by
 rw [byW];obtain ⟨g,hg⟩:=Zx (Nat.gcd (byW Q k).natAbs (Q k).2.natAbs);rw [hg];have hg0:0<g:=by rw [<- hg]; exact Nat.gcd_pos_of_pos_right _ aO
 obtain ⟨a,ha⟩:(g:Int)∣byW Q k:=Int.ofNat_dvd_left.2 (by rw [<- hg]; exact Nat.gcd_dvd_left _ _);obtain ⟨d,hd⟩:(g:Int)∣(Q k).2:=Int.ofNat_dvd_left.2 (by rw [<- hg]; exact Nat.gcd_dvd_right _ _);refine ⟨⟨a,?_⟩,Int.dvd_mul_right _ _⟩;rw [ha,hd,Int.mul_ediv_cancel_left _ aO];grind
theorem byW_den {Q:Nat->QI} {n:Nat} (h:∀ i,i<n->0<(Q i).2) {k:Nat} (hk:k<n):∀ d,k+1+d<=n->(Q k).2∣byW Q (k+1+d)
 | 0,_=>(byW_two (h k hk)).1
 | d+1,hd=>Int.dvd_trans (byW_den h hk d aO) (byW_two (h (k+1+d) aO)).2
theorem byW_all {Q:Nat->QI} {n:Nat} (h:∀ i,i<n->0<(Q i).2) {k:Nat} (hk:k<n):(Q k).2∣byW Q n:=by
 have:=byW_den h hk (n - (k+1)) aO;rw [show k+1+(n - (k+1))=n by omega] at this;exact this
theorem good_pos2 {a:QI} (h:SmQ a):0<a.2:=goodQ_pos h.1
end Go.Proofs.YtflgngjocgiojaaGreat
