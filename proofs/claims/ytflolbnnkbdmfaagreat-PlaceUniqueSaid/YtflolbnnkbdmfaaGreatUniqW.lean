import Derived.Test.YtflolbnnkbdmfaaGreatRow20
set_option linter.all false
namespace Go.Proofs.YtflolbnnkbdmfaaGreat
open Go.RowKit
theorem sign_zero {w:World} {v:Value} (h:RatAt w v 0 1):Calls Tryz.prog 37 #[v] w fun r w'=>r = .returned (.int .i64 0)/\Below w.heap.size w w':=by
 have q:=ratio_Sign h (good_one 0);rw [ordI_eq] at q;exact q
def someZ (Z:List Int):Nat->Bool
 | 0=>false
 | j+1=>someZ Z j || decide (iAt Z j≠0)
theorem someZ_true {Z:List Int}:∀ {n i:Nat},i<n->iAt Z i≠0->someZ Z n=true
 | n+1,i,h,h0=>by
  unfold someZ
  by_cases e:i=n
  ·subst e; rw [decide_eq_true h0,Bool.or_true]
  ·rw [someZ_true (n:=n) aO h0,Bool.true_or]
theorem someZ_step {Z:List Int} {j:Nat} {z:Int} (h:someZ Z j=false) (hz:iAt Z j=z):someZ Z (j+1)=(ordI z 0 != 0):=by
 unfold someZ;rw [h,hz,Bool.false_or];rcases Int.lt_trichotomy z 0 with h1 | h1 | h1
 ·rw [ordI_lt h1,decide_eq_true aO]; rfl
 ·subst h1; rw [ordI_eq]; rfl
 ·rw [ordI_gt h1,decide_eq_true aO]; rfl
def VQ (B:Nat) (w:World) (v:Value) (i:Nat) (Q:Nat->QI):Prop:=∃ xs,w.ownsRow B 42 4 v i xs/\RatC (fun b=>some b≠v.ownBlock) w xs i Q
theorem VQ.nil (B:Nat) (w:World) (Q:Nat->QI):VQ B w (.slice none 0 0) 0 Q:=⟨[],⟨rfl,.inl ⟨rfl,rfl⟩⟩,⟨rfl,fun i hi=>absurd hi (Nat.not_lt_zero i)⟩⟩
theorem VQ.below {B:Nat} {w w':World} {v:Value} {i:Nat} {Q:Nat->QI} (h:VQ B w v i Q) (hb:Below w.heap.size w w'):VQ B w' v i Q:=by
 obtain ⟨xs,h1,h2⟩:=h;exact ⟨xs,ownsRow_stay h1 hb,h2.move hb.size fun b hlt hX=>⟨hb.block b hlt,hX⟩⟩
theorem VQ.own {B:Nat} {w:World} {v:Value} {i:Nat} {Q:Nat->QI} (h:VQ B w v i Q) {b:Nat} (hb:v.ownBlock=some b):B<=b/\b<w.heap.size:=by
 obtain ⟨xs,h1,_⟩:=h;exact ⟨ownBlock_ge h1 hb,ownBlock_lt h1 hb⟩
theorem VQ.grow {base i gg cg:Nat} {wr w7:World} {v:Value} {xs:List Value} {Q:Nat->QI} {s1 s2:Bool} {A1 A2:Option Addr} {n1 c1 n2 c2:Nat} (hrc:RatC (fun b=>some b≠v.ownBlock) wr xs i Q) (hx:RatX (fun b=>some b≠v.ownBlock) wr s1 A1 n1 c1 s2 A2 n2 c2 (Q i).1 (Q i).2)
 (hs:wr.heap.size<=w7.heap.size) (hk:∀ b,b<wr.heap.size->some b≠v.ownBlock->w7.heap[b]?=wr.heap[b]?) (hat:v.ownBlock=some gg\/wr.heap.size<=gg)
 (ho7:w7.ownsRow base 42 4 (.slice (some ⟨gg,0,none⟩) (i+1) cg) (i+1) (xs++[.bool s1,.slice A1 n1 c1,.bool s2,.slice A2 n2 c2])):VQ base w7 (.slice (some ⟨gg,0,none⟩) (i+1) cg) (i+1) Q:=by
 refine ⟨_,ho7,(hrc.snoc hx).move hs fun b hlt hb=>⟨hk b hlt hb,fun e=>?_⟩⟩;have e:b=gg:=Option.some.inj e;subst e;rcases hat with h | h
 ·exact hb h.symm
 ·omega
theorem rowsG_one (w:World):RowsG w.heap.size ((w.alloc (.cells #[.int .i64 0,.int .i64 0,.int .i64 0,.int .i64 0,.int .i64 0,.int .i64 0] 3)).alloc (.cells #[.slice (some ⟨w.heap.size,0,none⟩) 6 6] 22)) (.slice (some ⟨w.heap.size+1,0,none⟩) 1 1) [zero6]:=by
 have h1:=World.ownsRow_lit (base:=w.heap.size) (e:=22) (size:=1) (w.alloc (.cells #[.int .i64 0,.int .i64 0,.int .i64 0,.int .i64 0,.int .i64 0,.int .i64 0] 3)) #[.slice (some ⟨w.heap.size,0,none⟩) 6 6] 1 aS (by unfold maxLen; omega) rfl;have ho:Own ((w.alloc (.cells #[.int .i64 0,.int .i64 0,.int .i64 0,.int .i64 0,.int .i64 0,.int .i64 0] 3)).alloc (.cells #[.slice (some ⟨w.heap.size,0,none⟩) 6 6] 22)) w.heap.size #[.int .i64 0,.int .i64 0,.int .i64 0,.int .i64 0,.int .i64 0,.int .i64 0]:=(Own.new rfl).alloc _;have hi:IntsAt ((w.alloc (.cells #[.int .i64 0,.int .i64 0,.int .i64 0,.int .i64 0,.int .i64 0,.int .i64 0] 3)).alloc (.cells #[.slice (some ⟨w.heap.size,0,none⟩) 6 6] 22)) (some ⟨w.heap.size,0,none⟩) 6 zero6:=Own.ints ho rfl zero6_I;refine ⟨_,by simpa using h1,?_⟩;exact (RowsW.nil _ _).snoc (Zr _) aO (fun b off e=>by cases e; exact ⟨aT,by simp [Value.ownBlock]⟩) hi
set_option maxRecDepth 100000 in
set_option maxHeartbeats 40000000 in
theorem law20_unique {w:World} {A:Option Addr} {n:Nat} {l:List Int} (cap:Nat) {q00 q01 q02 q10 q11 q12:Int} (hl:SliceI w A n l) (hI0:I64 q02) (hI1:I64 q12) :
 Calls Tryz.prog 9 #[.agg #[.slice A n cap,.int .i64 q00,.int .i64 q01,.int .i64 q02,.int .i64 q10,.int .i64 q11,.int .i64 q12]] w fun e w'=>e = .returned (.bool true)/\Below w.heap.size w w':=by
 obtain ⟨i1,hi1,hy0,hy1,hy2'⟩:=info_parts infoIs;obtain ⟨i2,hi2,hv0,hv1,hv2⟩:=info_parts infoRat;have HI0:=Zh hI0;have HI1:=Zh hI1;have HS:=Zh hl;clear hI0 hI1 hl;go_enter Tryz.func9,Tryz.ntmps9;go_wp2_with fail;refine Zd (law20_sanity _) ?_;rintro e w1 ⟨rfl,hbx⟩;have o1:Own w1 (w.heap.size) #[.slice A n cap,.int .i64 q00,.int .i64 q01,.int .i64 q02,.int .i64 q10,.int .i64 q11,.int .i64 q12]:=Own.below aOwn hbx;have o1c:=o1.cell;have o1f:=o1.thaw;have o1z:=o1.lt;have hw:Below w.heap.size w w1:=Below.hop aBel hbx;have hz:=hw.size;clear hbx;go_wp2_with fail;refine Zd (law20_all cap (HS.out.below hw) HI0.out HI1.out) ?_;rintro e w2 ⟨⟨bA,rfl,hbA1,hbA2,hAL⟩,hbx⟩;have HAL:=Zh hAL;clear hAL HS HI0 HI1;replace o1:Own w2 (w.heap.size) #[.slice A n cap,.int .i64 q00,.int .i64 q01,.int .i64 q02,.int .i64 q10,.int .i64 q11,.int .i64 q12]:=o1.below hbx;replace o1c:=o1.cell;replace o1f:=o1.thaw;replace o1z:=o1.lt;replace hw:Below w.heap.size w w2:=Below.hop hw hbx;replace hz:=hw.size;clear hbx;clear o1c o1f o1z o1;go_wp2;go_loopw [26] (fun i wr=>∃ k:Nat,k<=4/\i = .int .i64 k/\Below w2.heap.size w2 wr) (fun i _=>4 - (intOf i).toNat)
 case atStart=>exact ⟨0,aO,rfl,Zb _ _⟩
 case round =>
  obtain ⟨k,hk,rfl,hb8⟩:=hrel;have hz8:=hb8.size;replace hw:=hw.trans (hb8.mono hw.size)
  by_cases hk4:k<4
  ·have hki:(k:Int)<4:=aO
   obtain ⟨A',n',c',L,e29,hLA,hn'⟩:=(HAL.out.below hbA2 hb8) k hk4;have HLL:=Zh hLA;obtain ⟨eF,heF⟩:=Zx (locF L);obtain ⟨eC,heC⟩:=Zx (locC L);have HFC:=Zh (Zi heF heC);clear hLA heF heC;have hLn:=HLL.out.len;go_wp2_with fail;refine Zd (plc_Free c' HLL.out aO) ?_;rintro e w3 ⟨⟨v,rfl,hfv⟩,hbx⟩;rw [HFC.out.1];have HFV:=Zh hfv;clear hfv e29;replace hw:Below w.heap.size w w3:=Below.hop hw hbx;replace hz:=hw.size;replace HLL:=Zh (HLL.out.below hbx);replace hb8:=hb8.trans (hbx.mono hb8.size);clear hbx;go_wp2_with fail;refine Zd (callv (plc_Check c' HLL.out aO) (congrArg (Value.int IntKind.i64) HFC.out.2)) ?_;rintro e w4 ⟨rfl,hbx⟩;replace HFV:=Zh (freeV_below HFV.out hbx);replace hw:Below w.heap.size w w4:=Below.hop hw hbx;replace hz:=hw.size;replace HLL:=Zh (HLL.out.below hbx);replace hb8:=hb8.trans (hbx.mono hb8.size);clear hbx
   by_cases h0:eF=0
   ·subst h0;rcases HFV.out with ⟨hno,rfl⟩ | ⟨hl0,hk6,Z,hZ,hrow⟩
    ·have hn6:n'=6:=by
      rcases Nat.decEq n' 6 with h | h
      ·exact absurd ⟨HFC.out.1,(locC_few HFC.out.1 aO).2⟩ hno
      ·exact h
     subst hn6;have hc0:eC=0:=by rw [<- HFC.out.2]; exact (locC_six HFC.out.1 hLn).2 (fun h=>hno ⟨HFC.out.1,h⟩)
     subst hc0;clear hno HFV;go_wp2;go_roundw
     case rel=>exact ⟨k+1,aO,by go_num,hb8⟩
     case measure=>simp [intOf]; omega
    ·have hZl:Z.length=6:=hZ.len.trans (cols_locZ L);obtain ⟨Az,cz,rfl,hAz,hcz1,hcz2,hNZ⟩:=hrow;rw [hZl] at hNZ hAz hcz1 ⊢;obtain ⟨bz,rfl⟩:=hAz aO;have HNZ:=Zh hNZ;have HKZ:=Zh (Zi hZ (Zi hl0 hk6));have hle:L.length<=6/\locE L=0:=locF_ok hl0;have HLE:=Zh hle;have hn6':n'<=6:=aO
     clear hNZ hZ HFV hle;have hZp:someZ Z 6=true:=someZ_true (i:=kernF (locZ L)) hk6 (by have:=HKZ.out.1.pos; omega);have HZP:=Zh hZp;clear hZp hl0 hk6
     by_cases hn6:n'=6
     ·skip;have hnb:((n':Int)==6)=true:=beq_iff_eq.2 aO;have hnb2:((n':Int) != 6)=false:=by rw [show (n':Int)=6 by omega]; rfl
      have hc0:eC≠0:=fun h=>by
       have h2:=HKZ.out.2.2;exact (locC_six HFC.out.1 (hLn.trans hn6)).1 (HFC.out.2.trans h) h2
      have hcb:(eC==0)=false:=beq_false_of_ne hc0;clear hc0 hn6;go_wp2;go_loopw [9,10,80] (fun mv sv i wr=>∃ j:Nat,j<=6/\i = .int .i64 j/\sv = .bool (someZ Z j)/\Below w4.heap.size w4 wr/\VQ w4.heap.size wr mv j (fun k=>(iAt Z k,1))) (fun _ _ i _=>6 - (intOf i).toNat)
      case atStart=>exact ⟨0,aO,rfl,rfl,Zb _ _,VQ.nil _ _ _⟩
      case round =>
       obtain ⟨j,hj,rfl,rfl,hb9,hVQ⟩:=hrel;have HVQ:=Zh hVQ;have hz9:=hb9.size;clear hVQ
       by_cases hj6:j<6
       ·have hji:(j:Int)<6:=aO
        obtain ⟨hbz,s,B,m,cc,e1,e2,hNj⟩:=(HNZ.out.below hb9).at_ hj6;simp only [Nat.zero_add] at e1 e2;obtain ⟨zj,hzj⟩:=Zx (iAt Z j);rw [show zAt Z j=zj from hzj] at hNj;have HZJ:=Zh hzj;have HNj:=Zh hNj;clear hNj hzj;obtain ⟨sb,hsb⟩:=Zx (someZ Z j);rw [hsb];have HSB:=Zh hsb;clear hsb;go_upto_region 18 with fail
        have hA:Below wr.heap.size wr (wr.alloc (.cells #[.bool s,.slice B m cc] 40)):=(Zb _ _).alloc (Zr _) _;have o12:Own (wr.alloc (.cells #[.bool s,.slice B m cc] 40)) wr.heap.size #[.bool s,.slice B m cc]:=Own.new rfl;have HN9:=Zh (HNj.out.below hA);have HV9:=Zh (HVQ.out.below hA);have hb10:=hb9.trans (hA.mono hb9.size);generalize (wr.alloc (.cells #[.bool s,.slice B m cc] 40))=W9 at *;clear hA HNj HVQ e1 e2 hbz hb9;have HFp:=Zh (Zi (NumAt.fits HN9.out) (Zi fits1 (show (1:Int)≠0 by omega)));refine region_gen (T:=[]) [.make 1 [] (numCB [] 1),.make 2 [1] (ratB [] W9.heap.size zj 1),.need 3 [2],.need 5 [],.make 6 [] (ownB [] #[.bool false,.slice none 0 0,.bool false,.slice none 0 0] (fun p=>.pointer (some ⟨p,0,none⟩)))] 7 0 40 (fun _ _=>True) (fun _ _ _ _ _=>trivial) trivial aK aK (by rfl) ?_;unfold genWalk;apply Zs;apply Zi
        ·apply Piece.mk
         ·intro f v hv hr hne;simp only [List.take_succ_cons,List.take_zero,List.drop_succ_cons,List.drop_zero,Nat.reduceSub,Nat.reduceAdd];have d12:=fun y=>(o12.later (v:=v) (T:=[]) aS y).cell
          repeat (go_big_quiet_step (fail))
          refine wpQuiet_nil ?_;exact rfl
         ·intro f; kernel_rfl
         ·intro f f' hf; kernel_rfl
        simp only [List.take_succ_cons,List.take_zero,List.drop_succ_cons,List.drop_zero,Nat.reduceSub,Nat.reduceAdd,oneOp];refine ⟨fun f=>⟨rfl,fun u hu _=>?_⟩,?_⟩
        ·refine make_call (f:=47) (args:=#[.int .i64 1]) (by (try simp only [LN]); (try simp only [newB_val,numB_val,ownB_val,valB_val,ratB_val,ratVB_val,numCB_val,numV,ratV]); go_simp) ?_;have q:=ref1_Of (w:=u) 1 aO aO;refine q.mono ?_;rintro e wx ⟨⟨b1,C1,rfl,q1,q2,q3⟩,hbx⟩;exact ⟨(b1,C1),rfl,q2,q3,hbx,aS,q1⟩
        unfold genWalk;apply Zs;apply Zi
        ·apply Piece.mk
         ·intro f v hv hr hne;simp only [List.take_succ_cons,List.take_zero,List.drop_succ_cons,List.drop_zero,Nat.reduceSub,Nat.reduceAdd]
          (try simp only [LN])
          (try simp only [newB_val,numB_val,ownB_val,valB_val,ratB_val,ratVB_val,numCB_val,numV,ratV])
          have d12:=fun y=>(o12.later (v:=v) (T:=[]) aS y).cell
          repeat (go_big_quiet_step (fail))
          refine wpQuiet_nil ?_;exact rfl
         ·intro f; kernel_rfl
         ·intro f f' hf; simp
        simp only [List.take_succ_cons,List.take_zero,List.drop_succ_cons,List.drop_zero,Nat.reduceSub,Nat.reduceAdd,oneOp];refine ⟨fun f=>⟨rfl,fun u hu hm=>?_⟩,?_⟩
        ·refine make_call (f:=46) (args:=#[.agg #[.bool s,.slice B m cc],numC 1 (f 1).1 (f 1).2]) (by (try simp only [LN]); (try simp only [newB_val,numB_val,ownB_val,valB_val,ratB_val,ratVB_val,numCB_val,numV,ratV]); go_simp) ?_;have m1:NumC u (f 1).1 (f 1).2 1:=(hm 1 aS).2;have q:=ratio_Of_pos (w:=u) (HN9.out.keeps hu) (m1.at_ fits1) aO;rw [ofN_one,ofD_one] at q;refine q.mono ?_;rintro e wx ⟨⟨b1,b2,rfl,q1,q2,q3,q4,q5,q6⟩,hbx⟩;exact ⟨(b1,b2),rfl,q3,q4,hbx,aS,aS,q1,q2,Zm hu.1 q5,q6⟩
        unfold genWalk;apply Zs;apply Zi
        ·apply Piece.mk
         ·intro f v hv hr hne;simp only [List.take_succ_cons,List.take_zero,List.drop_succ_cons,List.drop_zero,Nat.reduceSub,Nat.reduceAdd]
          (try simp only [LN])
          (try simp only [newB_val,numB_val,ownB_val,valB_val,ratB_val,ratVB_val,numCB_val,numV,ratV])
          repeat (go_big_quiet_step (fail))
          refine wpQuiet_nil ?_;exact rfl
         ·intro f; kernel_rfl
         ·intro f f' hf; simp
        unfold genWalk;apply Zs;apply Zi
        ·apply Piece.mk
         ·intro f v hv hr hne;simp only [List.take_succ_cons,List.take_zero,List.drop_succ_cons,List.drop_zero,Nat.reduceSub,Nat.reduceAdd]
          (try simp only [LN])
          (try simp only [newB_val,numB_val,ownB_val,valB_val,ratB_val,ratVB_val,numCB_val,numV,ratV])
          repeat (go_big_quiet_step (fail))
          refine wpQuiet_nil ?_;exact rfl
         ·intro f; kernel_rfl
         ·intro f f' hf; first | (simp; done) | (simp [hf 2 aS])
        unfold genWalk;apply Zs;apply Zi
        ·apply Piece.mk
         ·intro f v hv hr hne;simp only [List.take_succ_cons,List.take_zero,List.drop_succ_cons,List.drop_zero,Nat.reduceSub,Nat.reduceAdd]
          (try simp only [LN])
          (try simp only [newB_val,numB_val,ownB_val,valB_val,ratB_val,ratVB_val,numCB_val,numV,ratV])
          repeat (go_big_quiet_step (fail))
          refine wpQuiet_nil ?_;exact rfl
         ·intro f; kernel_rfl
         ·intro f f' hf; simp
        simp only [List.take_succ_cons,List.take_zero,List.drop_succ_cons,List.drop_zero,Nat.reduceSub,Nat.reduceAdd,oneOp];refine ⟨fun f=>⟨rfl,fun u hu _=>?_⟩,?_⟩
        ·refine make_own (e:=42) (by (try simp only [LN]); (try simp only [newB_val,numB_val,ownB_val,valB_val,ratB_val,ratVB_val,numCB_val,numV,ratV]); go_simp) aS
        unfold genWalk;apply Zs;apply Zi
        ·apply Piece.mk
         ·intro f v hv hr hne;simp only [List.take_succ_cons,List.take_zero,List.drop_succ_cons,List.drop_zero,Nat.reduceSub,Nat.reduceAdd]
          (try simp only [LN])
          (try simp only [newB_val,numB_val,ownB_val,valB_val,ratB_val,ratVB_val,numCB_val,numV,ratV])
          repeat (go_big_quiet_step (fail))
          refine wpQuiet_nil ?_;exact rfl
         ·intro f; kernel_rfl
         ·intro f f' hf; simp
        intro f u' hup hph hmade hdist;obtain ⟨⟨-,-,oN,oM,loM,hiM⟩,loN,hiN⟩:=hmade 2 aO rfl;obtain ⟨⟨-,qO⟩,loO,hiO⟩:=hmade 6 aO rfl;have e5:=hdist 2 6 aO aO rfl rfl aO;replace oN:NumO u' (f 2).1 zj:=oN;replace oM:NumO u' (f 2).2 1:=oM;replace hiM:(f 2).2<u'.heap.size:=hiM;replace loM:W9.heap.size<=(f 2).2:=loM;replace qO:Own u' (f 6).1 #[.bool false,.slice none 0 0,.bool false,.slice none 0 0]:=qO;clear hmade hdist hph;simp only [List.take_succ_cons,List.take_zero,List.drop_succ_cons,List.drop_zero,Nat.reduceSub,Nat.reduceAdd]
        (try simp only [LN])
        (try simp only [newB_val,numB_val,ownB_val,valB_val,ratB_val,ratVB_val,numCB_val,numV,ratV])
        generalize (f 2).1=b1 at *;generalize (f 2).2=b2 at *;generalize (f 6).1=bp at *;generalize (f 1).1=bp1 at *;generalize (f 1).2=bq1 at *;clear f;have e6:b2≠bp:=digs_ne (oM HFp.out.2.1 HFp.out.2.2) qO HFp.out.2.2;have f1:=HFp.out.1;have f2:=HFp.out.2.1;obtain ⟨Ap1,np1,cp1,hs1⟩:=slN_form zj b1;obtain ⟨Ap2,np2,cp2,hs2⟩:=slN_form 1 b2;rw [hs1,hs2];have HSL:=Zh (Zi hs1 hs2);clear hs1 hs2;have hwu:Below W9.heap.size W9 u':=Upd.below (Zb _ _) hup aS;have hkT:=Upd.keeps (Keeps.refl _ _) hup;have qOc:=qO.cell;have qOf:=qO.thaw;clear hup;refine effc_mem (by rfl) (fun K hK=>?_);go_simp;refine hK _ _ (((((hkT.new (p:=⟨bp,0,none⟩) loO (.bool (sgnN zj))).new (p:=⟨bp,1,none⟩) loO (.slice Ap1 np1 cp1)).new (p:=⟨bp,2,none⟩) loO (.bool (sgnN 1))).new (p:=⟨bp,3,none⟩) loO (.slice Ap2 np2 cp2))) (fun u3 hu3=>?_);clear hK K;have hs3:=hu3.size;simp [World.setCell] at hs3;have hwu1:=(((((hwu.setCell (p:=⟨bp,0,none⟩) loO (.bool (sgnN zj))).setCell (p:=⟨bp,1,none⟩) loO (.slice Ap1 np1 cp1)).setCell (p:=⟨bp,2,none⟩) loO (.bool (sgnN 1))).setCell (p:=⟨bp,3,none⟩) loO (.slice Ap2 np2 cp2))).trans (hu3.mono (by simp [World.setCell]; exact hwu.size));have r12:=((((qO.set 0 (.bool (sgnN zj))).set 1 (.slice Ap1 np1 cp1)).set 2 (.bool (sgnN 1))).set 3 (.slice Ap2 np2 cp2)).below hu3;have oN1:=NumO.below (((((oN.far (p:=⟨bp,0,none⟩) e5 (.bool (sgnN zj))).far (p:=⟨bp,1,none⟩) e5 (.slice Ap1 np1 cp1)).far (p:=⟨bp,2,none⟩) e5 (.bool (sgnN 1))).far (p:=⟨bp,3,none⟩) e5 (.slice Ap2 np2 cp2))) hu3;have oM1:=NumO.below (((((oM.far (p:=⟨bp,0,none⟩) e6 (.bool (sgnN zj))).far (p:=⟨bp,1,none⟩) e6 (.slice Ap1 np1 cp1)).far (p:=⟨bp,2,none⟩) e6 (.bool (sgnN 1))).far (p:=⟨bp,3,none⟩) e6 (.slice Ap2 np2 cp2))) hu3;have hk1:=(((((hkT.new (p:=⟨bp,0,none⟩) loO (.bool (sgnN zj))).new (p:=⟨bp,1,none⟩) loO (.slice Ap1 np1 cp1)).new (p:=⟨bp,2,none⟩) loO (.bool (sgnN 1))).new (p:=⟨bp,3,none⟩) loO (.slice Ap2 np2 cp2))).later hu3;clear qO qOc qOf oN oM hkT hu3 hwu;refine effc_mem (by rfl) (fun K hK=>?_);go_simp;refine hK _ _ hk1 (fun up hu4=>?_);clear hK K;have r13:=r12.below hu4;have oN2:=oN1.below hu4;have oM2:=oM1.below hu4;have HBp:=hwu1.trans (hu4.mono hwu1.size);have hs4:=hu4.size;have BXp:Hid (Own up bp #[.bool (sgnN zj),.slice Ap1 np1 cp1,.bool (sgnN 1),.slice Ap2 np2 cp2]/\RatX (fun x=>x≠bp) up (sgnN zj) Ap1 np1 cp1 (sgnN 1) Ap2 np2 cp2 zj 1):=Zh ⟨r13,ratX_of oN2 oM2 f1 f2 aO aO e5 e6 HSL.out.1 HSL.out.2⟩;have LBp:=loO;have NSp:Hid ((slN zj b1 = .slice Ap1 np1 cp1/\slN 1 b2 = .slice Ap2 np2 cp2)/\(NumO up b1 zj/\NumO up b2 1)/\(W9.heap.size<=b1/\b1<up.heap.size)/\W9.heap.size<=b2/\b2<up.heap.size):=Zh ⟨HSL.out,⟨oN2,oM2⟩,⟨loN,aO⟩,loM,aO⟩;clear hwu1 hk1 hu4 loM r12 r13 oN1 oM1 oN2 oM2 e5 e6 hs3 hs4 HSL loN hiN loO hiO hiM f1 f2;refine effc_nil ?_
        (try simp only [LN])
        have hb11:=hb10.trans (HBp.mono hb10.size);have hrx:RatX (fun b=>W9.heap.size<=b) up (sgnN zj) Ap1 np1 cp1 (sgnN 1) Ap2 np2 cp2 zj 1:=ratX_of NSp.out.2.1.1 NSp.out.2.1.2 HFp.out.1 fits1 NSp.out.2.2.1.2 NSp.out.2.2.2.2 NSp.out.2.2.1.1 NSp.out.2.2.2.1 NSp.out.1.1 NSp.out.1.2;have HRX:=Zh hrx;have obp:=BXp.out.1;obtain ⟨xs,ho,hrc⟩:=HV9.out.below HBp;have hvo:∀ b,_=some b->b<W9.heap.size:=fun b hb=>(HV9.out.own hb).2
        have HVO:=Zh hvo;have HO:=Zh ho;have HRC:=Zh hrc;have hpW:W9.heap.size<=bp:=LBp;have hbU:=HBp.size;clear hrx ho hrc hvo HV9 HN9 o12 HBp BXp NSp LBp;have obpc:=obp.cell;have obpf:=obp.thaw;have hz10:=hb10.size;clear hb10;go_wp2_with (at_builtin; refine wpList_append_lies _ rfl _ _ _ (by rfl) w4.heap.size 42 i2 (.agg #[.bool false,.slice none 0 0,.bool false,.slice none 0 0]) 4 64 Tryz.underlying83 hi2 hv0 hv1 hv2 rfl aO _ j xs (by rfl) (HO.out.alloc _) ⟨up.heap.size,0,none⟩ 1 1 [.bool (sgnN zj),.slice Ap1 np1 cp1,.bool (sgnN 1),.slice Ap2 np2 cp2] (by rfl) rfl ?c1 ?c2 aO ?c3 ?c4 ?c5 (up.heap.size+1) aS ?_)
        case c1=>exact World.news_of_block (heap_alloc_new up _)
        case c2=>intro y hy; simp at hy; rcases hy with rfl | rfl | rfl | rfl <;> rfl
        case c3=>unfold maxLen; omega
        case c4=>omega
        case c5=>simp; omega
        intro gE cE w6 ho6 hg6 hat6 hlt6;have hal:Below up.heap.size up (up.alloc (.cells #[.bool (sgnN zj),.slice Ap1 np1 cp1,.bool (sgnN 1),.slice Ap2 np2 cp2] 42)):=(Zb _ _).alloc (Zr _) _;have hs6:=hg6.size;simp at hs6;have hbl:∀ b,b<up.heap.size->(_:Option Nat)≠some b->w6.heap[b]?=up.heap[b]?:=fun b hb hne=>(hg6.block b aT (fun e=>hne e.symm)).trans (hal.block b hb)
        have hv6:=VQ.grow HRC.out (show RatX (fun b=>some b≠_) up _ _ _ _ _ _ _ _ (iAt Z j) 1 by rw [HZJ.out]; exact HRX.out.move (Zr _) fun b _ hX=>⟨rfl,fun e=>by have:=HVO.out b e.symm; have hX:W9.heap.size<=b:=hX; omega⟩) aO (fun b hb hne=>hbl b hb (fun e=>hne e.symm)) (hat6.imp id (fun h=>aO)) ho6;have HV6:=Zh hv6;have ob6:=obp.of_block (hbl bp obp.lt (fun e=>by have:=HVO.out bp e; omega));have HR6:=Zh (RatX.at_ (HRX.out.move (Y:=fun _=>True) aO fun b hb hX=>⟨hbl b hb (fun e=>by have:=HVO.out b e; have hX:W9.heap.size<=b:=hX; omega),trivial⟩));have hb12:Below w4.heap.size w4 w6:=Below.grown (hb11.trans (hal.mono hb11.size)) hg6 (by simp; have:=hb11.size; omega) (fun b hb=>ownBlock_ge HO.out hb);have ob6c:=ob6.cell;have ob6f:=ob6.thaw;clear ho6 hg6 hat6 hlt6 hal hbl hv6 obp obpc obpf hb11 HO HRC HRX HVO hs6 hbU hpW;go_upto_region 22 with fail
        cases sb
        ·go_wp2_with fail;refine Zd (callv (ratio_Sign HR6.out (good_one zj)) (congrArg (Value.int IntKind.i64) (rfl:ordI zj 0=ordI zj 0))) ?_;rintro e w7 ⟨rfl,hbx⟩;have hb13:=hb12.trans (hbx.mono hb12.size);have HV7:=Zh (HV6.out.below hbx);have hsg:=someZ_step HSB.out HZJ.out;have HSG:=Zh hsg;clear hsg hb12 HV6 HR6 ob6 ob6c ob6f hbx;go_wp2;go_roundw
         case rel=>exact ⟨j+1,aO,by go_num,congrArg Value.bool HSG.out.symm,hb13,HV7.out⟩
         case measure=>simp [intOf]; omega
        ·have hsg:someZ Z (j+1)=true:=by unfold someZ; rw [HSB.out]; rfl
         have HSG:=Zh hsg;clear hsg HR6 ob6 ob6c ob6f;go_wp2;go_roundw
         case rel=>exact ⟨j+1,aO,by go_num,congrArg Value.bool HSG.out.symm,hb12,HV6.out⟩
         case measure=>simp [intOf]; omega
       ·obtain rfl:j=6:=aO
        rw [HZP.out];obtain ⟨xs,ho,hrc⟩:=HVQ.out;obtain ⟨Am,cm,rfl,hra⟩:=ratsA_of ho hrc;have HRA:=Zh hra;clear ho hrc hra HVQ;have hbx:=hb9;clear hb9;replace hw:Below w.heap.size w wr:=Below.hop hw hbx;replace hz:=hw.size;replace HLL:=Zh (HLL.out.below hbx);replace HNZ:=Zh (HNZ.out.below hbx);replace hb8:=hb8.trans (hbx.mono hb8.size);clear hbx;have hmk:∀ w,(Instr.makeSlice 22 (.int .i64 6) (.int .i64 6)).run Tryz.prog w = .ok (.slice (some ⟨w.heap.size,0,none⟩) 6 6) (w.alloc (.cells #[.int .i64 0,.int .i64 0,.int .i64 0,.int .i64 0,.int .i64 0,.int .i64 0] 3)):=fun w=>aK
        go_upto_region 25 with fail
        clear hmk;generalize ((6:Nat):Int)=K6;have hb5:Below wr.heap.size wr ((wr.alloc (.cells #[.int .i64 0,.int .i64 0,.int .i64 0,.int .i64 0,.int .i64 0,.int .i64 0] 3)).alloc (.cells #[.slice (some ⟨wr.heap.size,0,none⟩) 6 6] 22)):=aBel;have hrg:RowsG wr.heap.size ((wr.alloc (.cells #[.int .i64 0,.int .i64 0,.int .i64 0,.int .i64 0,.int .i64 0,.int .i64 0] 3)).alloc (.cells #[.slice (some ⟨wr.heap.size,0,none⟩) 6 6] 22)) (.slice (some ⟨wr.heap.size+1,0,none⟩) 1 1) [zero6]:=rowsG_one wr;have HRG:=Zh hrg;clear hrg;generalize ((wr.alloc (.cells #[.int .i64 0,.int .i64 0,.int .i64 0,.int .i64 0,.int .i64 0,.int .i64 0] 3)).alloc (.cells #[.slice (some ⟨wr.heap.size,0,none⟩) 6 6] 22))=W5 at *;have HRF:=Zh (fun W (h:Below wr.heap.size W5 W)=>HRA.out.below (hb5.trans h));have HLF:=Zh (fun W (h:Below wr.heap.size W5 W)=>HLL.out.below (hb5.trans h));have HWF:=Zh (fun W (h:Below wr.heap.size W5 W)=>Zi (hb8.trans ((hb5.trans h).mono hb8.size)) (hw.trans ((hb5.trans h).mono hw.size)));have hbBz:wr.heap.size<=W5.heap.size:=hb5.size;clear HRA HLL hb5 hb8 hw;obtain ⟨base,hbase⟩:=Zx (wr.heap.size);rw [hbase] at HRG HRF HLF HWF hbBz ⊢;clear hbase;go_wp2;go_loopw [15,107] (fun rv i wz=>∃ q:Nat,q<=n'/\i = .int .i64 q/\Below base W5 wz/\RowsG base wz rv (locY (L.take q))) (fun _ i _=>n' - (intOf i).toNat)
        case atStart=>exact ⟨0,aO,rfl,Zb _ _,HRG.out⟩
        case round =>
         obtain ⟨q,hq,rfl,hb9,hrg⟩:=hrel;have HRQ:=Zh hrg;have hz9:=hb9.size;clear hrg
         by_cases hqn:q<n'
         ·have hqi:(q:Int)<(n':Int):=aO
          obtain ⟨bl,off,rfl,hblt,hcs⟩:=(HLF.out wr hb9).row aO;obtain ⟨ll,hll⟩:=Zx (lAt L q);have hc:=hcs q hqn;rw [hll] at hc;obtain ⟨e0,e1,e2,e3,e4,e5,e6,e7⟩:=hc;have HLQ:=Zh hll;have hIl:=(HLF.out wr hb9).ok q hqn;rw [hll] at hIl;have HIL:=Zh hIl;clear hcs hll hIl;obtain ⟨⟨px,py,pz⟩,⟨nx,ny,nz⟩,lo,hi'⟩:=ll;have hbBr:base<=wr.heap.size:=Zm hbBz hz9;go_upto_region 28 with fail
          have hA:Below wr.heap.size wr (wr.alloc (.cells #[.int .i64 px,.int .i64 py,.int .i64 pz,.int .i64 nx,.int .i64 ny,.int .i64 nz,.int .i64 lo,.int .i64 hi'] 69)):=(Zb _ _).alloc (Zr _) _;have o17:Own (wr.alloc (.cells #[.int .i64 px,.int .i64 py,.int .i64 pz,.int .i64 nx,.int .i64 ny,.int .i64 nz,.int .i64 lo,.int .i64 hi'] 69)) wr.heap.size #[.int .i64 px,.int .i64 py,.int .i64 pz,.int .i64 nx,.int .i64 ny,.int .i64 nz,.int .i64 lo,.int .i64 hi']:=Own.new rfl;have HR9:=Zh (HRQ.out.below hA);have hsA:(wr.alloc (.cells #[.int .i64 px,.int .i64 py,.int .i64 pz,.int .i64 nx,.int .i64 ny,.int .i64 nz,.int .i64 lo,.int .i64 hi'] 69)).heap.size=wr.heap.size+1:=aS
          generalize (wr.alloc (.cells #[.int .i64 px,.int .i64 py,.int .i64 pz,.int .i64 nx,.int .i64 ny,.int .i64 nz,.int .i64 lo,.int .i64 hi'] 69))=W9 at *;have o17c:=o17.cell;have o17f:=o17.thaw;clear e0 e1 e2 e3 e4 e5 e6 e7 hblt;go_wp2_with fail;refine Zd (law20_row _) ?_;rintro e w7 ⟨⟨b7,rfl,h71,h72,ho7⟩,hbx⟩;have HO7:=Zh ho7;obtain ⟨xs,ho,hrw⟩:=HR9.out.below hbx;have hyl:(locY (L.take q)).length=q+1:=by rw [locY_len,List.length_take]; omega
          rw [hyl] at ho;have HO:=Zh ho;have HRW:=Zh hrw;have hz7:=hbx.size;have hvo:∀ b,_=some b->b<W9.heap.size:=fun b hb=>ownBlock_lt (show World.ownsRow W9 base _ 1 _ _ _ from HR9.out.choose_spec.1) hb
          have HVO:=Zh hvo;have hB7:=hA.trans (hbx.mono hA.size);clear ho ho7 hrw hvo o17 o17c o17f HR9 hbx hA;go_wp2_with (at_builtin; refine wpList_append_lies _ rfl _ _ _ (by rfl) base 22 i1 (.slice none 0 0) 1 24 Tryz.underlying47 hi1 hy0 hy1 hy2' rfl aO _ (q+1) xs (by rfl) (HO.out.alloc _) ⟨w7.heap.size,0,none⟩ 1 1 [.slice (some ⟨b7,0,none⟩) 6 6] (by rfl) rfl ?c1 ?c2 aO ?c3 ?c4 ?c5 (w7.heap.size+1) aS ?_)
          case c1=>exact World.news_of_block (heap_alloc_new w7 _)
          case c2=>intro y hy; simp at hy; subst hy; rfl
          case c3=>unfold maxLen; omega
          case c4=>omega
          case c5=>simp; omega
          intro gE cE w8 ho8 hg8 hat8 hlt8;have hal:Below w7.heap.size w7 (w7.alloc (.cells #[.slice (some ⟨b7,0,none⟩) 6 6] 22)):=(Zb _ _).alloc (Zr _) _;have hs8:=hg8.size;simp at hs8;have hbl:∀ b,b<w7.heap.size->some b≠(_:Option Nat)->w8.heap[b]?=w7.heap[b]?:=fun b hb hne=>(hg8.block b aT hne).trans (hal.block b hb)
          have hr8:=RowsW.grow (A4:=some ⟨b7,0,none⟩) (j:=6) (c4:=6) (Z:=locR ⟨⟨px,py,pz⟩,⟨nx,ny,nz⟩,lo,hi'⟩) HRW.out hyl (Zr _) aO (fun b off e=>by cases e; exact ⟨h72,fun e=>by have:=HVO.out b7 e.symm; omega⟩) (Own.ints HO7.out rfl (locR_I HIL.out)) aO hbl (hat8.imp id (fun h=>aO)) ho8;have hyy:locY (L.take q)++[locR ⟨⟨px,py,pz⟩,⟨nx,ny,nz⟩,lo,hi'⟩]=locY (L.take (q+1)):=by unfold locY; rw [locM_take L aO,HLQ.out]; rfl
          rw [hyy] at hr8;have HR8:=Zh hr8;have hb10:Below base W5 w8:=hb9.trans (Below.grown ((hB7.trans (hal.mono hB7.size)).mono hbBr) hg8 aT (fun b hb=>ownBlock_ge HO.out hb));clear hr8 hyy hbl hal ho8 hg8 hat8 hlt8 HO HRW HVO HO7 hB7;go_wp2;go_roundw
          case rel=>exact ⟨q+1,aO,by go_num,hb10,HR8.out⟩
          case measure=>simp [intOf]; omega
         ·obtain rfl:q=n':=aO
          have hrq:=HRQ.out;rw [List.take_of_length_le aO] at hrq;obtain ⟨gR,cR,rfl,hc1,hc2,hro⟩:=hrq.rows (n:=q+1) (by rw [locY_len]; omega) aO;have HRO:=Zh hro;have hra:=HRF.out wr hb9;have HRA:=Zh hra;have hbw:=HWF.out wr hb9;obtain ⟨hb8,hw⟩:=hbw;have htm:=locY_times HLE.out.2 HLE.out.1 HKZ.out.1;have HTM:=Zh htm;clear hrq hro hra htm HRQ HRF HLF HWF hb9;go_wp2_with fail;refine Zd (matrix_Times_ok cR cm HRO.out HRA.out (cols_locY L) (check_locY HLE.out.2 HLE.out.1) HTM.out.1) ?_;rintro e w8 ⟨⟨kt,rfl,hkt,hty⟩,hbx⟩;have HTY:=Zh (hty.rats.congr (y:=fun _=>(0,1)) (fun k hk=>(HTM.out.2 k (by rw [locY_len]; omega)).symm));replace hb8:=hb8.trans (hbx.mono hb8.size);replace hw:=hw.trans (hbx.mono hw.size);clear hty hbx HRO HRA HTM;have hrrb:(((q+1:Nat):Int) != ((q+1:Nat):Int))=false:=aS
          go_wp2;go_loopw [19,125] (fun fv i wr=>∃ j:Nat,j<=q+1/\i = .int .i64 j/\fv = .bool true/\Below w8.heap.size w8 wr) (fun _ i _=>q+1 - (intOf i).toNat)
          case atStart=>exact ⟨0,aO,rfl,rfl,Zb _ _⟩
          case round =>
           obtain ⟨j,hj,rfl,rfl,hk9⟩:=hrel;have hz9:=hk9.size
           by_cases hjr:j<q+1
           ·have hjri:(j:Int)<(q:Int)+1:=aO
            obtain ⟨hb1,s1,E1,m1,d1,s2,E2,m2,d2,x1,x2,x3,x4,hr1'⟩:=(HTY.out.below hk9).at_ hjr;simp only at hr1';simp only [Nat.zero_add] at x1 x2 x3 x4;have hal:Below wr.heap.size wr (wr.alloc (.cells #[.bool s1,.slice E1 m1 d1,.bool s2,.slice E2 m2 d2] 42)):=(Zb _ _).alloc (Zr _) _;have oq:Own (wr.alloc (.cells #[.bool s1,.slice E1 m1 d1,.bool s2,.slice E2 m2 d2] 42)) wr.heap.size #[.bool s1,.slice E1 m1 d1,.bool s2,.slice E2 m2 d2]:=Own.new rfl;have HRQ2:=Zh (hr1'.below hal);have hka:=hk9.trans (hal.mono hz9);clear hr1' hal;go_upto_region 34 with fail
            generalize (wr.alloc (.cells #[.bool s1,.slice E1 m1 d1,.bool s2,.slice E2 m2 d2] 42))=wb at *;generalize wr.heap.size=bq at *;clear x1 x2 x3 x4 hb1 hk9;have oqc:=oq.cell;have oqf:=oq.thaw;go_wp2_with fail;refine Zd (sign_zero HRQ2.out) ?_;rintro e wc ⟨rfl,hb⟩;have hkc:=hka.trans (hb.mono hka.size);clear hb hka HRQ2 oq oqc oqf;go_wp2;go_roundw
            case rel=>exact ⟨j+1,aO,by go_num,rfl,hkc⟩
            case measure=>simp [intOf]; omega
           ·obtain rfl:j=q+1:=aO
            replace hb8:=hb8.trans (hk9.mono hb8.size);clear HTY;go_wp2;go_roundw
            case rel=>exact ⟨k+1,aO,by go_num,hb8⟩
            case measure=>simp [intOf]; omega
     ·have hc2:eC=2:=by rw [<- HFC.out.2]; exact (locC_few HFC.out.1 aO).1
      subst hc2;have hnb:((n':Int)==6)=false:=beq_false_of_ne aO;have hnb2:((n':Int) != 6)=true:=bne_iff_ne.2 aO;go_wp2;go_loopw [9,10,80] (fun mv sv i wr=>∃ j:Nat,j<=6/\i = .int .i64 j/\sv = .bool (someZ Z j)/\Below w4.heap.size w4 wr/\VQ w4.heap.size wr mv j (fun k=>(iAt Z k,1))) (fun _ _ i _=>6 - (intOf i).toNat)
      case atStart=>exact ⟨0,aO,rfl,rfl,Zb _ _,VQ.nil _ _ _⟩
      case round =>
       obtain ⟨j,hj,rfl,rfl,hb9,hVQ⟩:=hrel;have HVQ:=Zh hVQ;have hz9:=hb9.size;clear hVQ
       by_cases hj6:j<6
       ·have hji:(j:Int)<6:=aO
        obtain ⟨hbz,s,B,m,cc,e1,e2,hNj⟩:=(HNZ.out.below hb9).at_ hj6;simp only [Nat.zero_add] at e1 e2;obtain ⟨zj,hzj⟩:=Zx (iAt Z j);rw [show zAt Z j=zj from hzj] at hNj;have HZJ:=Zh hzj;have HNj:=Zh hNj;clear hNj hzj;obtain ⟨sb,hsb⟩:=Zx (someZ Z j);rw [hsb];have HSB:=Zh hsb;clear hsb;go_upto_region 18 with fail
        have hA:Below wr.heap.size wr (wr.alloc (.cells #[.bool s,.slice B m cc] 40)):=(Zb _ _).alloc (Zr _) _;have o12:Own (wr.alloc (.cells #[.bool s,.slice B m cc] 40)) wr.heap.size #[.bool s,.slice B m cc]:=Own.new rfl;have HN9:=Zh (HNj.out.below hA);have HV9:=Zh (HVQ.out.below hA);have hb10:=hb9.trans (hA.mono hb9.size);generalize (wr.alloc (.cells #[.bool s,.slice B m cc] 40))=W9 at *;clear hA HNj HVQ e1 e2 hbz hb9;have HFp:=Zh (Zi (NumAt.fits HN9.out) (Zi fits1 (show (1:Int)≠0 by omega)));refine region_gen (T:=[]) [.make 1 [] (numCB [] 1),.make 2 [1] (ratB [] W9.heap.size zj 1),.need 3 [2],.need 5 [],.make 6 [] (ownB [] #[.bool false,.slice none 0 0,.bool false,.slice none 0 0] (fun p=>.pointer (some ⟨p,0,none⟩)))] 7 0 40 (fun _ _=>True) (fun _ _ _ _ _=>trivial) trivial aK aK (by rfl) ?_;unfold genWalk;apply Zs;apply Zi
        ·apply Piece.mk
         ·intro f v hv hr hne;simp only [List.take_succ_cons,List.take_zero,List.drop_succ_cons,List.drop_zero,Nat.reduceSub,Nat.reduceAdd];have d12:=fun y=>(o12.later (v:=v) (T:=[]) aS y).cell
          repeat (go_big_quiet_step (fail))
          refine wpQuiet_nil ?_;exact rfl
         ·intro f; kernel_rfl
         ·intro f f' hf; kernel_rfl
        simp only [List.take_succ_cons,List.take_zero,List.drop_succ_cons,List.drop_zero,Nat.reduceSub,Nat.reduceAdd,oneOp];refine ⟨fun f=>⟨rfl,fun u hu _=>?_⟩,?_⟩
        ·refine make_call (f:=47) (args:=#[.int .i64 1]) (by (try simp only [LN]); (try simp only [newB_val,numB_val,ownB_val,valB_val,ratB_val,ratVB_val,numCB_val,numV,ratV]); go_simp) ?_;have q:=ref1_Of (w:=u) 1 aO aO;refine q.mono ?_;rintro e wx ⟨⟨b1,C1,rfl,q1,q2,q3⟩,hbx⟩;exact ⟨(b1,C1),rfl,q2,q3,hbx,aS,q1⟩
        unfold genWalk;apply Zs;apply Zi
        ·apply Piece.mk
         ·intro f v hv hr hne;simp only [List.take_succ_cons,List.take_zero,List.drop_succ_cons,List.drop_zero,Nat.reduceSub,Nat.reduceAdd]
          (try simp only [LN])
          (try simp only [newB_val,numB_val,ownB_val,valB_val,ratB_val,ratVB_val,numCB_val,numV,ratV])
          have d12:=fun y=>(o12.later (v:=v) (T:=[]) aS y).cell
          repeat (go_big_quiet_step (fail))
          refine wpQuiet_nil ?_;exact rfl
         ·intro f; kernel_rfl
         ·intro f f' hf; simp
        simp only [List.take_succ_cons,List.take_zero,List.drop_succ_cons,List.drop_zero,Nat.reduceSub,Nat.reduceAdd,oneOp];refine ⟨fun f=>⟨rfl,fun u hu hm=>?_⟩,?_⟩
        ·refine make_call (f:=46) (args:=#[.agg #[.bool s,.slice B m cc],numC 1 (f 1).1 (f 1).2]) (by (try simp only [LN]); (try simp only [newB_val,numB_val,ownB_val,valB_val,ratB_val,ratVB_val,numCB_val,numV,ratV]); go_simp) ?_;have m1:NumC u (f 1).1 (f 1).2 1:=(hm 1 aS).2;have q:=ratio_Of_pos (w:=u) (HN9.out.keeps hu) (m1.at_ fits1) aO;rw [ofN_one,ofD_one] at q;refine q.mono ?_;rintro e wx ⟨⟨b1,b2,rfl,q1,q2,q3,q4,q5,q6⟩,hbx⟩;exact ⟨(b1,b2),rfl,q3,q4,hbx,aS,aS,q1,q2,Zm hu.1 q5,q6⟩
        unfold genWalk;apply Zs;apply Zi
        ·apply Piece.mk
         ·intro f v hv hr hne;simp only [List.take_succ_cons,List.take_zero,List.drop_succ_cons,List.drop_zero,Nat.reduceSub,Nat.reduceAdd]
          (try simp only [LN])
          (try simp only [newB_val,numB_val,ownB_val,valB_val,ratB_val,ratVB_val,numCB_val,numV,ratV])
          repeat (go_big_quiet_step (fail))
          refine wpQuiet_nil ?_;exact rfl
         ·intro f; kernel_rfl
         ·intro f f' hf; simp
        unfold genWalk;apply Zs;apply Zi
        ·apply Piece.mk
         ·intro f v hv hr hne;simp only [List.take_succ_cons,List.take_zero,List.drop_succ_cons,List.drop_zero,Nat.reduceSub,Nat.reduceAdd]
          (try simp only [LN])
          (try simp only [newB_val,numB_val,ownB_val,valB_val,ratB_val,ratVB_val,numCB_val,numV,ratV])
          repeat (go_big_quiet_step (fail))
          refine wpQuiet_nil ?_;exact rfl
         ·intro f; kernel_rfl
         ·intro f f' hf; first | (simp; done) | (simp [hf 2 aS])
        unfold genWalk;apply Zs;apply Zi
        ·apply Piece.mk
         ·intro f v hv hr hne;simp only [List.take_succ_cons,List.take_zero,List.drop_succ_cons,List.drop_zero,Nat.reduceSub,Nat.reduceAdd]
          (try simp only [LN])
          (try simp only [newB_val,numB_val,ownB_val,valB_val,ratB_val,ratVB_val,numCB_val,numV,ratV])
          repeat (go_big_quiet_step (fail))
          refine wpQuiet_nil ?_;exact rfl
         ·intro f; kernel_rfl
         ·intro f f' hf; simp
        simp only [List.take_succ_cons,List.take_zero,List.drop_succ_cons,List.drop_zero,Nat.reduceSub,Nat.reduceAdd,oneOp];refine ⟨fun f=>⟨rfl,fun u hu _=>?_⟩,?_⟩
        ·refine make_own (e:=42) (by (try simp only [LN]); (try simp only [newB_val,numB_val,ownB_val,valB_val,ratB_val,ratVB_val,numCB_val,numV,ratV]); go_simp) aS
        unfold genWalk;apply Zs;apply Zi
        ·apply Piece.mk
         ·intro f v hv hr hne;simp only [List.take_succ_cons,List.take_zero,List.drop_succ_cons,List.drop_zero,Nat.reduceSub,Nat.reduceAdd]
          (try simp only [LN])
          (try simp only [newB_val,numB_val,ownB_val,valB_val,ratB_val,ratVB_val,numCB_val,numV,ratV])
          repeat (go_big_quiet_step (fail))
          refine wpQuiet_nil ?_;exact rfl
         ·intro f; kernel_rfl
         ·intro f f' hf; simp
        intro f u' hup hph hmade hdist;obtain ⟨⟨-,-,oN,oM,loM,hiM⟩,loN,hiN⟩:=hmade 2 aO rfl;obtain ⟨⟨-,qO⟩,loO,hiO⟩:=hmade 6 aO rfl;have e5:=hdist 2 6 aO aO rfl rfl aO;replace oN:NumO u' (f 2).1 zj:=oN;replace oM:NumO u' (f 2).2 1:=oM;replace hiM:(f 2).2<u'.heap.size:=hiM;replace loM:W9.heap.size<=(f 2).2:=loM;replace qO:Own u' (f 6).1 #[.bool false,.slice none 0 0,.bool false,.slice none 0 0]:=qO;clear hmade hdist hph;simp only [List.take_succ_cons,List.take_zero,List.drop_succ_cons,List.drop_zero,Nat.reduceSub,Nat.reduceAdd]
        (try simp only [LN])
        (try simp only [newB_val,numB_val,ownB_val,valB_val,ratB_val,ratVB_val,numCB_val,numV,ratV])
        generalize (f 2).1=b1 at *;generalize (f 2).2=b2 at *;generalize (f 6).1=bp at *;generalize (f 1).1=bp1 at *;generalize (f 1).2=bq1 at *;clear f;have e6:b2≠bp:=digs_ne (oM HFp.out.2.1 HFp.out.2.2) qO HFp.out.2.2;have f1:=HFp.out.1;have f2:=HFp.out.2.1;obtain ⟨Ap1,np1,cp1,hs1⟩:=slN_form zj b1;obtain ⟨Ap2,np2,cp2,hs2⟩:=slN_form 1 b2;rw [hs1,hs2];have HSL:=Zh (Zi hs1 hs2);clear hs1 hs2;have hwu:Below W9.heap.size W9 u':=Upd.below (Zb _ _) hup aS;have hkT:=Upd.keeps (Keeps.refl _ _) hup;have qOc:=qO.cell;have qOf:=qO.thaw;clear hup;refine effc_mem (by rfl) (fun K hK=>?_);go_simp;refine hK _ _ (((((hkT.new (p:=⟨bp,0,none⟩) loO (.bool (sgnN zj))).new (p:=⟨bp,1,none⟩) loO (.slice Ap1 np1 cp1)).new (p:=⟨bp,2,none⟩) loO (.bool (sgnN 1))).new (p:=⟨bp,3,none⟩) loO (.slice Ap2 np2 cp2))) (fun u3 hu3=>?_);clear hK K;have hs3:=hu3.size;simp [World.setCell] at hs3;have hwu1:=(((((hwu.setCell (p:=⟨bp,0,none⟩) loO (.bool (sgnN zj))).setCell (p:=⟨bp,1,none⟩) loO (.slice Ap1 np1 cp1)).setCell (p:=⟨bp,2,none⟩) loO (.bool (sgnN 1))).setCell (p:=⟨bp,3,none⟩) loO (.slice Ap2 np2 cp2))).trans (hu3.mono (by simp [World.setCell]; exact hwu.size));have r12:=((((qO.set 0 (.bool (sgnN zj))).set 1 (.slice Ap1 np1 cp1)).set 2 (.bool (sgnN 1))).set 3 (.slice Ap2 np2 cp2)).below hu3;have oN1:=NumO.below (((((oN.far (p:=⟨bp,0,none⟩) e5 (.bool (sgnN zj))).far (p:=⟨bp,1,none⟩) e5 (.slice Ap1 np1 cp1)).far (p:=⟨bp,2,none⟩) e5 (.bool (sgnN 1))).far (p:=⟨bp,3,none⟩) e5 (.slice Ap2 np2 cp2))) hu3;have oM1:=NumO.below (((((oM.far (p:=⟨bp,0,none⟩) e6 (.bool (sgnN zj))).far (p:=⟨bp,1,none⟩) e6 (.slice Ap1 np1 cp1)).far (p:=⟨bp,2,none⟩) e6 (.bool (sgnN 1))).far (p:=⟨bp,3,none⟩) e6 (.slice Ap2 np2 cp2))) hu3;have hk1:=(((((hkT.new (p:=⟨bp,0,none⟩) loO (.bool (sgnN zj))).new (p:=⟨bp,1,none⟩) loO (.slice Ap1 np1 cp1)).new (p:=⟨bp,2,none⟩) loO (.bool (sgnN 1))).new (p:=⟨bp,3,none⟩) loO (.slice Ap2 np2 cp2))).later hu3;clear qO qOc qOf oN oM hkT hu3 hwu;refine effc_mem (by rfl) (fun K hK=>?_);go_simp;refine hK _ _ hk1 (fun up hu4=>?_);clear hK K;have r13:=r12.below hu4;have oN2:=oN1.below hu4;have oM2:=oM1.below hu4;have HBp:=hwu1.trans (hu4.mono hwu1.size);have hs4:=hu4.size;have BXp:Hid (Own up bp #[.bool (sgnN zj),.slice Ap1 np1 cp1,.bool (sgnN 1),.slice Ap2 np2 cp2]/\RatX (fun x=>x≠bp) up (sgnN zj) Ap1 np1 cp1 (sgnN 1) Ap2 np2 cp2 zj 1):=Zh ⟨r13,ratX_of oN2 oM2 f1 f2 aO aO e5 e6 HSL.out.1 HSL.out.2⟩;have LBp:=loO;have NSp:Hid ((slN zj b1 = .slice Ap1 np1 cp1/\slN 1 b2 = .slice Ap2 np2 cp2)/\(NumO up b1 zj/\NumO up b2 1)/\(W9.heap.size<=b1/\b1<up.heap.size)/\W9.heap.size<=b2/\b2<up.heap.size):=Zh ⟨HSL.out,⟨oN2,oM2⟩,⟨loN,aO⟩,loM,aO⟩;clear hwu1 hk1 hu4 loM r12 r13 oN1 oM1 oN2 oM2 e5 e6 hs3 hs4 HSL loN hiN loO hiO hiM f1 f2;refine effc_nil ?_
        (try simp only [LN])
        have hb11:=hb10.trans (HBp.mono hb10.size);have hrx:RatX (fun b=>W9.heap.size<=b) up (sgnN zj) Ap1 np1 cp1 (sgnN 1) Ap2 np2 cp2 zj 1:=ratX_of NSp.out.2.1.1 NSp.out.2.1.2 HFp.out.1 fits1 NSp.out.2.2.1.2 NSp.out.2.2.2.2 NSp.out.2.2.1.1 NSp.out.2.2.2.1 NSp.out.1.1 NSp.out.1.2;have HRX:=Zh hrx;have obp:=BXp.out.1;obtain ⟨xs,ho,hrc⟩:=HV9.out.below HBp;have hvo:∀ b,_=some b->b<W9.heap.size:=fun b hb=>(HV9.out.own hb).2
        have HVO:=Zh hvo;have HO:=Zh ho;have HRC:=Zh hrc;have hpW:W9.heap.size<=bp:=LBp;have hbU:=HBp.size;clear hrx ho hrc hvo HV9 HN9 o12 HBp BXp NSp LBp;have obpc:=obp.cell;have obpf:=obp.thaw;have hz10:=hb10.size;clear hb10;go_wp2_with (at_builtin; refine wpList_append_lies _ rfl _ _ _ (by rfl) w4.heap.size 42 i2 (.agg #[.bool false,.slice none 0 0,.bool false,.slice none 0 0]) 4 64 Tryz.underlying83 hi2 hv0 hv1 hv2 rfl aO _ j xs (by rfl) (HO.out.alloc _) ⟨up.heap.size,0,none⟩ 1 1 [.bool (sgnN zj),.slice Ap1 np1 cp1,.bool (sgnN 1),.slice Ap2 np2 cp2] (by rfl) rfl ?c1 ?c2 aO ?c3 ?c4 ?c5 (up.heap.size+1) aS ?_)
        case c1=>exact World.news_of_block (heap_alloc_new up _)
        case c2=>intro y hy; simp at hy; rcases hy with rfl | rfl | rfl | rfl <;> rfl
        case c3=>unfold maxLen; omega
        case c4=>omega
        case c5=>simp; omega
        intro gE cE w6 ho6 hg6 hat6 hlt6;have hal:Below up.heap.size up (up.alloc (.cells #[.bool (sgnN zj),.slice Ap1 np1 cp1,.bool (sgnN 1),.slice Ap2 np2 cp2] 42)):=(Zb _ _).alloc (Zr _) _;have hs6:=hg6.size;simp at hs6;have hbl:∀ b,b<up.heap.size->(_:Option Nat)≠some b->w6.heap[b]?=up.heap[b]?:=fun b hb hne=>(hg6.block b aT (fun e=>hne e.symm)).trans (hal.block b hb)
        have hv6:=VQ.grow HRC.out (show RatX (fun b=>some b≠_) up _ _ _ _ _ _ _ _ (iAt Z j) 1 by rw [HZJ.out]; exact HRX.out.move (Zr _) fun b _ hX=>⟨rfl,fun e=>by have:=HVO.out b e.symm; have hX:W9.heap.size<=b:=hX; omega⟩) aO (fun b hb hne=>hbl b hb (fun e=>hne e.symm)) (hat6.imp id (fun h=>aO)) ho6;have HV6:=Zh hv6;have ob6:=obp.of_block (hbl bp obp.lt (fun e=>by have:=HVO.out bp e; omega));have HR6:=Zh (RatX.at_ (HRX.out.move (Y:=fun _=>True) aO fun b hb hX=>⟨hbl b hb (fun e=>by have:=HVO.out b e; have hX:W9.heap.size<=b:=hX; omega),trivial⟩));have hb12:Below w4.heap.size w4 w6:=Below.grown (hb11.trans (hal.mono hb11.size)) hg6 (by simp; have:=hb11.size; omega) (fun b hb=>ownBlock_ge HO.out hb);have ob6c:=ob6.cell;have ob6f:=ob6.thaw;clear ho6 hg6 hat6 hlt6 hal hbl hv6 obp obpc obpf hb11 HO HRC HRX HVO hs6 hbU hpW;go_upto_region 22 with fail
        cases sb
        ·go_wp2_with fail;refine Zd (callv (ratio_Sign HR6.out (good_one zj)) (congrArg (Value.int IntKind.i64) (rfl:ordI zj 0=ordI zj 0))) ?_;rintro e w7 ⟨rfl,hbx⟩;have hb13:=hb12.trans (hbx.mono hb12.size);have HV7:=Zh (HV6.out.below hbx);have hsg:=someZ_step HSB.out HZJ.out;have HSG:=Zh hsg;clear hsg hb12 HV6 HR6 ob6 ob6c ob6f hbx;go_wp2;go_roundw
         case rel=>exact ⟨j+1,aO,by go_num,congrArg Value.bool HSG.out.symm,hb13,HV7.out⟩
         case measure=>simp [intOf]; omega
        ·have hsg:someZ Z (j+1)=true:=by unfold someZ; rw [HSB.out]; rfl
         have HSG:=Zh hsg;clear hsg HR6 ob6 ob6c ob6f;go_wp2;go_roundw
         case rel=>exact ⟨j+1,aO,by go_num,congrArg Value.bool HSG.out.symm,hb12,HV6.out⟩
         case measure=>simp [intOf]; omega
       ·obtain rfl:j=6:=aO
        rw [HZP.out];obtain ⟨xs,ho,hrc⟩:=HVQ.out;obtain ⟨Am,cm,rfl,hra⟩:=ratsA_of ho hrc;have HRA:=Zh hra;clear ho hrc hra HVQ;have hbx:=hb9;clear hb9;replace hw:Below w.heap.size w wr:=Below.hop hw hbx;replace hz:=hw.size;replace HLL:=Zh (HLL.out.below hbx);replace HNZ:=Zh (HNZ.out.below hbx);replace hb8:=hb8.trans (hbx.mono hb8.size);clear hbx;have hmk:∀ w,(Instr.makeSlice 22 (.int .i64 6) (.int .i64 6)).run Tryz.prog w = .ok (.slice (some ⟨w.heap.size,0,none⟩) 6 6) (w.alloc (.cells #[.int .i64 0,.int .i64 0,.int .i64 0,.int .i64 0,.int .i64 0,.int .i64 0] 3)):=fun w=>aK
        go_upto_region 25 with fail
        clear hmk;generalize ((6:Nat):Int)=K6;have hb5:Below wr.heap.size wr ((wr.alloc (.cells #[.int .i64 0,.int .i64 0,.int .i64 0,.int .i64 0,.int .i64 0,.int .i64 0] 3)).alloc (.cells #[.slice (some ⟨wr.heap.size,0,none⟩) 6 6] 22)):=aBel;have hrg:RowsG wr.heap.size ((wr.alloc (.cells #[.int .i64 0,.int .i64 0,.int .i64 0,.int .i64 0,.int .i64 0,.int .i64 0] 3)).alloc (.cells #[.slice (some ⟨wr.heap.size,0,none⟩) 6 6] 22)) (.slice (some ⟨wr.heap.size+1,0,none⟩) 1 1) [zero6]:=rowsG_one wr;have HRG:=Zh hrg;clear hrg;generalize ((wr.alloc (.cells #[.int .i64 0,.int .i64 0,.int .i64 0,.int .i64 0,.int .i64 0,.int .i64 0] 3)).alloc (.cells #[.slice (some ⟨wr.heap.size,0,none⟩) 6 6] 22))=W5 at *;have HRF:=Zh (fun W (h:Below wr.heap.size W5 W)=>HRA.out.below (hb5.trans h));have HLF:=Zh (fun W (h:Below wr.heap.size W5 W)=>HLL.out.below (hb5.trans h));have HWF:=Zh (fun W (h:Below wr.heap.size W5 W)=>Zi (hb8.trans ((hb5.trans h).mono hb8.size)) (hw.trans ((hb5.trans h).mono hw.size)));have hbBz:wr.heap.size<=W5.heap.size:=hb5.size;clear HRA HLL hb5 hb8 hw;obtain ⟨base,hbase⟩:=Zx (wr.heap.size);rw [hbase] at HRG HRF HLF HWF hbBz ⊢;clear hbase;go_wp2;go_loopw [15,107] (fun rv i wz=>∃ q:Nat,q<=n'/\i = .int .i64 q/\Below base W5 wz/\RowsG base wz rv (locY (L.take q))) (fun _ i _=>n' - (intOf i).toNat)
        case atStart=>exact ⟨0,aO,rfl,Zb _ _,HRG.out⟩
        case round =>
         obtain ⟨q,hq,rfl,hb9,hrg⟩:=hrel;have HRQ:=Zh hrg;have hz9:=hb9.size;clear hrg
         by_cases hqn:q<n'
         ·have hqi:(q:Int)<(n':Int):=aO
          obtain ⟨bl,off,rfl,hblt,hcs⟩:=(HLF.out wr hb9).row aO;obtain ⟨ll,hll⟩:=Zx (lAt L q);have hc:=hcs q hqn;rw [hll] at hc;obtain ⟨e0,e1,e2,e3,e4,e5,e6,e7⟩:=hc;have HLQ:=Zh hll;have hIl:=(HLF.out wr hb9).ok q hqn;rw [hll] at hIl;have HIL:=Zh hIl;clear hcs hll hIl;obtain ⟨⟨px,py,pz⟩,⟨nx,ny,nz⟩,lo,hi'⟩:=ll;have hbBr:base<=wr.heap.size:=Zm hbBz hz9;go_upto_region 28 with fail
          have hA:Below wr.heap.size wr (wr.alloc (.cells #[.int .i64 px,.int .i64 py,.int .i64 pz,.int .i64 nx,.int .i64 ny,.int .i64 nz,.int .i64 lo,.int .i64 hi'] 69)):=(Zb _ _).alloc (Zr _) _;have o17:Own (wr.alloc (.cells #[.int .i64 px,.int .i64 py,.int .i64 pz,.int .i64 nx,.int .i64 ny,.int .i64 nz,.int .i64 lo,.int .i64 hi'] 69)) wr.heap.size #[.int .i64 px,.int .i64 py,.int .i64 pz,.int .i64 nx,.int .i64 ny,.int .i64 nz,.int .i64 lo,.int .i64 hi']:=Own.new rfl;have HR9:=Zh (HRQ.out.below hA);have hsA:(wr.alloc (.cells #[.int .i64 px,.int .i64 py,.int .i64 pz,.int .i64 nx,.int .i64 ny,.int .i64 nz,.int .i64 lo,.int .i64 hi'] 69)).heap.size=wr.heap.size+1:=aS
          generalize (wr.alloc (.cells #[.int .i64 px,.int .i64 py,.int .i64 pz,.int .i64 nx,.int .i64 ny,.int .i64 nz,.int .i64 lo,.int .i64 hi'] 69))=W9 at *;have o17c:=o17.cell;have o17f:=o17.thaw;clear e0 e1 e2 e3 e4 e5 e6 e7 hblt;go_wp2_with fail;refine Zd (law20_row _) ?_;rintro e w7 ⟨⟨b7,rfl,h71,h72,ho7⟩,hbx⟩;have HO7:=Zh ho7;obtain ⟨xs,ho,hrw⟩:=HR9.out.below hbx;have hyl:(locY (L.take q)).length=q+1:=by rw [locY_len,List.length_take]; omega
          rw [hyl] at ho;have HO:=Zh ho;have HRW:=Zh hrw;have hz7:=hbx.size;have hvo:∀ b,_=some b->b<W9.heap.size:=fun b hb=>ownBlock_lt (show World.ownsRow W9 base _ 1 _ _ _ from HR9.out.choose_spec.1) hb
          have HVO:=Zh hvo;have hB7:=hA.trans (hbx.mono hA.size);clear ho ho7 hrw hvo o17 o17c o17f HR9 hbx hA;go_wp2_with (at_builtin; refine wpList_append_lies _ rfl _ _ _ (by rfl) base 22 i1 (.slice none 0 0) 1 24 Tryz.underlying47 hi1 hy0 hy1 hy2' rfl aO _ (q+1) xs (by rfl) (HO.out.alloc _) ⟨w7.heap.size,0,none⟩ 1 1 [.slice (some ⟨b7,0,none⟩) 6 6] (by rfl) rfl ?c1 ?c2 aO ?c3 ?c4 ?c5 (w7.heap.size+1) aS ?_)
          case c1=>exact World.news_of_block (heap_alloc_new w7 _)
          case c2=>intro y hy; simp at hy; subst hy; rfl
          case c3=>unfold maxLen; omega
          case c4=>omega
          case c5=>simp; omega
          intro gE cE w8 ho8 hg8 hat8 hlt8;have hal:Below w7.heap.size w7 (w7.alloc (.cells #[.slice (some ⟨b7,0,none⟩) 6 6] 22)):=(Zb _ _).alloc (Zr _) _;have hs8:=hg8.size;simp at hs8;have hbl:∀ b,b<w7.heap.size->some b≠(_:Option Nat)->w8.heap[b]?=w7.heap[b]?:=fun b hb hne=>(hg8.block b aT hne).trans (hal.block b hb)
          have hr8:=RowsW.grow (A4:=some ⟨b7,0,none⟩) (j:=6) (c4:=6) (Z:=locR ⟨⟨px,py,pz⟩,⟨nx,ny,nz⟩,lo,hi'⟩) HRW.out hyl (Zr _) aO (fun b off e=>by cases e; exact ⟨h72,fun e=>by have:=HVO.out b7 e.symm; omega⟩) (Own.ints HO7.out rfl (locR_I HIL.out)) aO hbl (hat8.imp id (fun h=>aO)) ho8;have hyy:locY (L.take q)++[locR ⟨⟨px,py,pz⟩,⟨nx,ny,nz⟩,lo,hi'⟩]=locY (L.take (q+1)):=by unfold locY; rw [locM_take L aO,HLQ.out]; rfl
          rw [hyy] at hr8;have HR8:=Zh hr8;have hb10:Below base W5 w8:=hb9.trans (Below.grown ((hB7.trans (hal.mono hB7.size)).mono hbBr) hg8 aT (fun b hb=>ownBlock_ge HO.out hb));clear hr8 hyy hbl hal ho8 hg8 hat8 hlt8 HO HRW HVO HO7 hB7;go_wp2;go_roundw
          case rel=>exact ⟨q+1,aO,by go_num,hb10,HR8.out⟩
          case measure=>simp [intOf]; omega
         ·obtain rfl:q=n':=aO
          have hrq:=HRQ.out;rw [List.take_of_length_le aO] at hrq;obtain ⟨gR,cR,rfl,hc1,hc2,hro⟩:=hrq.rows (n:=q+1) (by rw [locY_len]; omega) aO;have HRO:=Zh hro;have hra:=HRF.out wr hb9;have HRA:=Zh hra;have hbw:=HWF.out wr hb9;obtain ⟨hb8,hw⟩:=hbw;have htm:=locY_times HLE.out.2 HLE.out.1 HKZ.out.1;have HTM:=Zh htm;clear hrq hro hra htm HRQ HRF HLF HWF hb9;go_wp2_with fail;refine Zd (matrix_Times_ok cR cm HRO.out HRA.out (cols_locY L) (check_locY HLE.out.2 HLE.out.1) HTM.out.1) ?_;rintro e w8 ⟨⟨kt,rfl,hkt,hty⟩,hbx⟩;have HTY:=Zh (hty.rats.congr (y:=fun _=>(0,1)) (fun k hk=>(HTM.out.2 k (by rw [locY_len]; omega)).symm));replace hb8:=hb8.trans (hbx.mono hb8.size);replace hw:=hw.trans (hbx.mono hw.size);clear hty hbx HRO HRA HTM;have hrrb:(((q+1:Nat):Int) != ((q+1:Nat):Int))=false:=aS
          go_wp2;go_loopw [19,125] (fun fv i wr=>∃ j:Nat,j<=q+1/\i = .int .i64 j/\fv = .bool true/\Below w8.heap.size w8 wr) (fun _ i _=>q+1 - (intOf i).toNat)
          case atStart=>exact ⟨0,aO,rfl,rfl,Zb _ _⟩
          case round =>
           obtain ⟨j,hj,rfl,rfl,hk9⟩:=hrel;have hz9:=hk9.size
           by_cases hjr:j<q+1
           ·have hjri:(j:Int)<(q:Int)+1:=aO
            obtain ⟨hb1,s1,E1,m1,d1,s2,E2,m2,d2,x1,x2,x3,x4,hr1'⟩:=(HTY.out.below hk9).at_ hjr;simp only at hr1';simp only [Nat.zero_add] at x1 x2 x3 x4;have hal:Below wr.heap.size wr (wr.alloc (.cells #[.bool s1,.slice E1 m1 d1,.bool s2,.slice E2 m2 d2] 42)):=(Zb _ _).alloc (Zr _) _;have oq:Own (wr.alloc (.cells #[.bool s1,.slice E1 m1 d1,.bool s2,.slice E2 m2 d2] 42)) wr.heap.size #[.bool s1,.slice E1 m1 d1,.bool s2,.slice E2 m2 d2]:=Own.new rfl;have HRQ2:=Zh (hr1'.below hal);have hka:=hk9.trans (hal.mono hz9);clear hr1' hal;go_upto_region 34 with fail
            generalize (wr.alloc (.cells #[.bool s1,.slice E1 m1 d1,.bool s2,.slice E2 m2 d2] 42))=wb at *;generalize wr.heap.size=bq at *;clear x1 x2 x3 x4 hb1 hk9;have oqc:=oq.cell;have oqf:=oq.thaw;go_wp2_with fail;refine Zd (sign_zero HRQ2.out) ?_;rintro e wc ⟨rfl,hb⟩;have hkc:=hka.trans (hb.mono hka.size);clear hb hka HRQ2 oq oqc oqf;go_wp2;go_roundw
            case rel=>exact ⟨j+1,aO,by go_num,rfl,hkc⟩
            case measure=>simp [intOf]; omega
           ·obtain rfl:j=q+1:=aO
            replace hb8:=hb8.trans (hk9.mono hb8.size);clear HTY;go_wp2;go_roundw
            case rel=>exact ⟨k+1,aO,by go_num,hb8⟩
            case measure=>simp [intOf]; omega
   ·have hbad:=locC_bad (L:=L) (by rw [HFC.out.1]; exact h0);rw [HFC.out.2] at hbad;have hv:v = .slice none 0 0:=by
     rcases HFV.out with ⟨_,h⟩ | ⟨h,_⟩
     ·exact h
     ·exact absurd (HFC.out.1.symm.trans h) h0
    subst hv;have hf1:(eF != 0)=true:=bne_iff_ne.2 h0;have hf2:(eC==0)=false:=beq_false_of_ne hbad.1;have hf3:(eC==20)=false:=beq_false_of_ne hbad.2;clear hbad h0 HFV;go_wp2;go_roundw
    case rel=>exact ⟨k+1,aO,by go_num,hb8⟩
    case measure=>simp [intOf]; omega
  ·obtain rfl:k=4:=aO
   go_wp2;go_ret;exact ⟨rfl,hw⟩
end Go.Proofs.YtflolbnnkbdmfaaGreat
