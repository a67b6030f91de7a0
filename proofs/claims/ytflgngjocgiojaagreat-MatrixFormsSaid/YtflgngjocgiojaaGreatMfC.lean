import Derived.Test.YtflgngjocgiojaaGreatRefV
set_option linter.all false
namespace Go.Proofs.YtflgngjocgiojaaGreat
open Go.RowKit
set_option maxHeartbeats 8000000
set_option maxRecDepth 100000
set_option maxRecDepth 100000 in
set_option maxHeartbeats 4000000 in
theorem ref5_SameNums {w:World} {X Y:Nat->Prop} {A B:Option Addr} {n:Nat} {Z:List Int} (c c':Nat) (h:NumsX X w A n Z) (h':NumsX Y w B n Z) (hn:n<=1000) :
 Calls Tryz.prog 38 #[.slice A n c,.slice B n c'] w fun e w'=>e = .returned (.bool true)/\Below w.heap.size w w':=by
 have H:=Zh h;have H':=Zh h';have hni:(n:Int)<=1000:=aO
 have hne:((n:Int) != (n:Int))=false:=aS
 clear h h';go_enter Tryz.func38,Tryz.ntmps38;go_wp2;go_loopw [5] (fun i wr=>∃ k:Nat,k<=n/\i = .int .i64 k/\Below w.heap.size w wr) (fun i _=>n - (intOf i).toNat)
 case atStart=>exact ⟨0,aO,rfl,Zb _ _⟩
 case round =>
  obtain ⟨k,hk,rfl,hbw⟩:=hrel;have HW:=Zh hbw;clear hbw
  by_cases hlt:k<n
  ·have hki:(k:Int)<(n:Int):=aO
   obtain ⟨b,off,rfl,hb,-,hcell⟩:=(H.out.below HW.out).row aO;obtain ⟨b',off',rfl,hb',-,hcell'⟩:=(H'.out.below HW.out).row aO;obtain ⟨s,B,m,d,e1,e2,-,N⟩:=hcell k hlt;obtain ⟨s',B',m',d',e3,e4,-,N'⟩:=hcell' k hlt;have HN:=Zh N.raw.1;have HN':=Zh N'.raw.1;have HR:=Zh (Zi N N');clear hcell hcell' N N';go_wp2;refine region_late 10 [] aK aK (by rfl) ?_;apply Zs;refine ⟨fun v hv hne=>?_,fun u hu=>?_⟩
   ·simp only [List.take_succ_cons,List.take_zero];have d1:=later_cell (T:=[]) (w:=wr) (v:=v) hb aS e1;have d2:=later_cell (T:=[]) (w:=wr) (v:=v) hb aS e2;have d3:=later_cell (T:=[]) (w:=wr) (v:=v) hb' aS e3;have d4:=later_cell (T:=[]) (w:=wr) (v:=v) hb' aS e4;have QX:=fun x:Later [] wr v=>callv (ref1_Same ((HR.out.1.keeps x.h).raw.1) ((HR.out.2.keeps x.h).raw.1)) (congrArg Value.bool (decide_eq_true (Zi rfl rfl)))
    repeat (go_big_quiet_step ((go_at_call 77; with_reducible exact lateB (QX _))))
    refine wpQuiet_nil ?_;exact rfl
   simp only [List.drop_succ_cons,List.drop_zero];have HU:=Zh (HW.out.trans (hu.mono HW.out.size));clear hu;refine late_nil ?_
   (try simp only [LN])
   go_wp2;go_roundw
   case rel=>exact ⟨k+1,aO,by go_num,HU.out⟩
   case measure=>simp [intOf]; omega
  ·obtain rfl:k=n:=aO
   have hki:¬ (k:Int)<(k:Int):=aO
   go_wp2;go_ret;exact ⟨rfl,HW.out⟩
theorem cutM_at {M:List (List Int)} {k:Nat} (h:k<=50) (h':k=50\/M.length=k):(M.take k).map (List.take 9)=cutM M:=by
 unfold cutM;rcases h' with rfl | e
 ·rfl
 ·rw [List.take_of_length_le aO,List.take_of_length_le aO]
set_option maxRecDepth 100000 in
set_option maxHeartbeats 8000000 in
theorem law05_cut {w0 w:World} {A:Option Addr} {n:Nat} {M:List (List Int)} (c:Nat) (h:RowsAt w0 A n M) (hk0:Keeps [] w0 w) :
 Calls Tryz.prog 11 #[.slice A n c] w fun e w'=>(∃ v xs,e = .returned v/\w'.ownsRow w.heap.size 22 1 v (cutM M).length xs/\StatR w0 xs (cutM M)/\((cutM M).length=0->v = .slice none 0 0))/\Below w.heap.size w w':=by
 obtain ⟨i0,hi0,hz0,hz1,hz2⟩:=info_parts infoIs;have hl:=h.len;have H:=Zh h;have HL:=Zh hl;have HK0:=Zh hk0;clear h hl hk0;go_enter Tryz.func11,Tryz.ntmps11;go_wp2;go_loopw [3,4] (fun u i wr=>∃ (k:Nat) (xs:List Value),k<=n/\k<=50/\i = .int .i64 k/\Below w.heap.size w wr/\wr.ownsRow w.heap.size 22 1 u k xs/\StatR w0 xs ((M.take k).map (List.take 9))/\(k=0->u = .slice none 0 0)) (fun _ i _=>50 - (intOf i).toNat)
 case atStart=>exact ⟨0,[],aO,aO,rfl,Zb _ _,⟨rfl,.inl ⟨rfl,rfl⟩⟩,StatR.nil _,fun _=>rfl⟩
 case round =>
  obtain ⟨k,xs,hk,hk50,rfl,hbw,hxo,hst,hnil⟩:=hrel;have HW1:=Zh hbw;have HXO:=Zh hxo;have HST:=Zh hst;have HNI:=Zh hnil;have hwz:=hbw.size;clear hbw hxo hst hnil
  by_cases hkn:k<n
  ·have hki:(k:Int)<(n:Int):=aO
   by_cases hk5:k<50
   ·have hk5i:(k:Int)<50:=aO
    obtain ⟨b,off,rfl,hb0,hcell⟩:=H.out.row aO;have hb:b<w.heap.size:=Zl hb0 HK0.out.1;obtain ⟨B,mk,ck,q0,z1,z2,hI⟩:=hcell k hkn;have q:=(Zc (w:=w0) (a:=⟨b,off+k,none⟩) ((HW1.out.block b hb).trans (HK0.out.2 b hb0 aS))).trans q0;obtain ⟨mm,hmm⟩:=Zx (min mk 9);have hmin:min (mk:Int) 9=(mm:Int):=aO
    have hmc:(mm:Int)<=(ck:Int):=aO
    have hmc2:mm<=ck:=aO
    have hm9:mm<=9:=aO
    have hit:IntsAt w0 B mm ((rAt M k).take 9):=by
     have h1:=mfTake hI (show mm<=mk by omega);have e:(rAt M k).take mm=(rAt M k).take 9:=by
      rcases Nat.le_total mk 9 with h9 | h9
      ·rw [List.take_of_length_le (by rw [hI.len]; omega),List.take_of_length_le (by rw [hI.len]; omega)]
      ·rw [show mm=9 by omega]
     rw [e] at h1;exact h1
    have HIT:=Zh hit;obtain ⟨T,hT⟩:∃ T:List Nat,∀ b,u3.ownBlock=some b↔b∈T:=⟨u3.ownBlock.toList,fun b=>aS⟩;have hTb:∀ b∈T,w.heap.size<=b/\b<wr.heap.size:=fun b hb=>by
     have h1:=(hT b).2 hb;exact ⟨ownBlock_ge HXO.out h1,ownBlock_lt HXO.out h1⟩
    have hbl:b<wr.heap.size:=aO
    have hbT:b∉T:=fun hm=>by have:=(hTb b hm).1; omega
    have HZ:=Zh (Zi hmc2 z2);clear hcell q0 hI hit hmm;go_wp2;refine region_gen (T:=T) [] 12 0 40 (fun _ u=>∀ b∈T,SameAt wr b u) (fun _ u u' h k b hb=>⟨(k.block b (h b hb).2).trans (h b hb).1,Zl (h b hb).2 k.size⟩) (fun b hb=>⟨rfl,(hTb b hb).2⟩) aK aK (by rfl) ?_;unfold genWalk;apply Zs;apply Zi
    ·apply Piece.mk
     ·intro f v hv hr hne;simp only [List.take_succ_cons,List.take_zero,List.drop_succ_cons,List.drop_zero,Nat.reduceSub,Nat.reduceAdd];have d0:=later_cell (T:=T) (w:=wr) (v:=v) hbl hbT q
      repeat (go_big_quiet_step (fail))
      refine wpQuiet_nil ?_;exact rfl
     ·intro f; kernel_rfl
     ·intro f f' hf; kernel_rfl
    intro f u' hup hph hmade hdist;have hB1:Below wr.heap.size wr u':=⟨hup.os,hup.tape,hup.output,hup.size,fun b hb=>by
     by_cases e:b∈T
     ·exact (hph b e).1
     ·exact hup.block b hb e⟩
    clear hmade hdist hph hup;simp only [List.take_succ_cons,List.take_zero,List.drop_succ_cons,List.drop_zero,Nat.reduceSub,Nat.reduceAdd]
    (try simp only [LN])
    clear f;refine effc_mem (by rfl) (fun K hK=>?_);go_simp;refine hK _ _ ((Keeps.of_below hB1).alloc _) (fun u3' hu3=>?_);clear hK K;have hal:Below u'.heap.size u' (u'.alloc (.cells #[.slice B mm ck] 22)):=(Zb _ _).alloc (Zr _) _;have oE:Own u3' u'.heap.size #[.slice B mm ck]:=Own.below (Own.new rfl) hu3;have hB3:=hB1.trans ((hal.trans (hu3.mono hal.size)).mono hB1.size);have hxo3:=ownsRow_stay HXO.out hB3;obtain ⟨TE,hTE⟩:=oE;have hs3:=hB3.size;clear hu3 hal;refine effc_mem (by rfl) (fun K hK=>?_);refine late_append _ _ 25 rfl w.heap.size 22 i0 (.slice none 0 0) 1 24 Tryz.underlying25 hi0 hz0 hz1 hz2 rfl aO _ k xs (by rfl) hxo3 ⟨u'.heap.size,0,none⟩ 1 1 [.slice B mm ck] (by rfl) rfl (World.news_of_block hTE) ?_ aO (by unfold maxLen; omega) aO aO u3'.heap.size rfl ?_
    ·intro y hy; simp at hy; subst hy; rfl
    intro g8 cg8 u7 ho8 hg8 hat8 hlt8;have hST:StatR w0 (xs++[.slice B mm ck]) ((M.take k).map (List.take 9)++[(rAt M k).take 9]):=HST.out.app ⟨rfl,fun i hi=>by
     have hi0:i=0:=by simpa using hi
     subst hi0;exact ⟨B,mm,ck,rfl,HZ.out.1,HZ.out.2,HIT.out⟩⟩
    have hB7:Below w.heap.size w u7:=Below.grown (HW1.out.trans (hB3.mono hwz)) hg8 aO (fun y hy=>((hTb y ((hT y).1 hy)).1));have hk7:Keeps T wr u7:=keepsG (Keeps.of_below hB3) hg8 (fun r e=>.inl ((hT r).1 e));have HN7:=Zh (Zi ho8 (Zi hST hB7));clear hB7 ho8 hg8 hat8 hlt8 hTE hxo3 hB3 hST hB1 hs3;refine hK _ _ hk7 (fun u8' hu8=>?_);clear hK K;have hk8:=hk7.later hu8;have HN8:=Zh (Zi (ownsRow_stay HN7.out.1 hu8) (Zi HN7.out.2.1 (HN7.out.2.2.trans (hu8.mono HN7.out.2.2.size))));clear HN7 hu8 hk7;refine effc_mem (by rfl) (fun K hK=>?_);go_simp;refine hK _ _ hk8 (fun u9' hu9=>?_);clear hK K;have HN9:=Zh (Zi (ownsRow_stay HN8.out.1 hu9) (Zi HN8.out.2.1 (HN8.out.2.2.trans (hu9.mono HN8.out.2.2.size))));clear HN8 hu9 hk8;refine effc_nil ?_
    (try simp only [LN])
    go_wp2;go_roundw
    case rel=>exact ⟨k+1,_,aO,aO,by go_num,HN9.out.2.2,HN9.out.1,by rw [cutM_next (by rw [HL.out]; exact hkn)]; exact HN9.out.2.1,fun e=>aO⟩
    case measure=>simp [intOf]; omega
   ·have hk5i:¬ (k:Int)<50:=aO
    have HE:Hid ((M.take k).map (List.take 9)=cutM M):=Zh (cutM_at hk50 (.inl aO));have HLN:Hid ((cutM M).length=k):=Zh (by rw [cutM_len,HL.out]; omega);go_wp2;go_ret;exact ⟨⟨_,rfl,xs,by rw [HLN.out]; exact HXO.out,by rw [<- HE.out]; exact HST.out,fun e=>HNI.out (by rw [<- HLN.out,e]; rfl)⟩,HW1.out⟩
  ·obtain rfl:k=n:=aO
   have hki:¬ (k:Int)<(k:Int):=aO
   have HE:Hid ((M.take k).map (List.take 9)=cutM M):=Zh (cutM_at hk50 (.inr HL.out));have HLN:Hid ((cutM M).length=k):=Zh (by rw [cutM_len,HL.out]; omega);go_wp2;go_ret;exact ⟨⟨_,rfl,xs,by rw [HLN.out]; exact HXO.out,by rw [<- HE.out]; exact HST.out,fun e=>HNI.out (by rw [<- HLN.out,e]; rfl)⟩,HW1.out⟩
theorem kern_pair {w u:World} {v1 v2:Value} {P:Prop} {Z:List Int} {m:Nat} (h1:(¬ P/\v1 = .slice none 0 0)\/(P/\RowV (fun _=>True) v1 Z w)) (h2:(¬ P/\v2 = .slice none 0 0)\/(P/\RowV (fun _=>True) v2 Z u)) (hu:Below w.heap.size w u) (hm:Z.length=m) :
 ∃ n Z' A1 c1 A2 c2,v1 = .slice A1 n c1/\v2 = .slice A2 n c2/\NumsX (fun _=>True) u A1 n Z'/\NumsX (fun _=>True) u A2 n Z'/\n<=m:=by
 rcases h1 with ⟨h3,rfl⟩ | ⟨h3,A1,c1,rfl,_,_,_,h4⟩
 ·rcases h2 with ⟨_,rfl⟩ | ⟨h5,_⟩
  ·exact ⟨0,[],none,0,none,0,rfl,rfl,NumsX.nil _ _ _,NumsX.nil _ _ _,Nat.zero_le _⟩
  ·exact absurd h5 h3
 ·rcases h2 with ⟨h5,_⟩ | ⟨_,A2,c2,rfl,_,_,_,h6⟩
  ·exact absurd h3 h5
  ·exact ⟨_,Z,A1,c1,A2,c2,rfl,rfl,h4.below hu,h6,aO⟩
set_option maxRecDepth 100000 in
set_option maxHeartbeats 8000000 in
theorem law05_same {w:World} {A Ab:Option Addr} {n nb:Nat} {M:List (List Int)} {b:List Int} (c cb:Nat) (h:RowsAt w A n M) (hb:IntsAt w Ab nb b) (hnb:nb<=1000000) :
 Calls Tryz.prog 14 #[.slice A n c,.slice Ab nb cb] w fun e w'=>e = .returned (.bool true)/\Below w.heap.size w w':=by
 have H:=Zh h;have HB:=Zh hb;obtain ⟨rk,hrk⟩:=Zx (rankZ M);obtain ⟨ck,hck⟩:=Zx (matCheck M);obtain ⟨se,hse⟩:=Zx (solveE M b);have q1:=fun (u:World) (hu:Below w.heap.size w u)=>matrix_Rank (w:=u) c (h.below hu) (fun h=>rank_fine h)
 have q2:=fun (u:World) (hu:Below w.heap.size w u)=>ref5_Rank (w:=u) c (h.below hu)
 have q3:=fun (u:World) (hu:Below w.heap.size w u)=>matrix_Kernel (w:=u) (x:=refX M) c (h.below hu) (fun h=>ref_kern h h)
 have q4:=fun (u:World) (hu:Below w.heap.size w u)=>ref5_Kernel (w:=u) c (h.below hu)
 have q5:=fun (u:World) (hu:Below w.heap.size w u)=>matrix_Solve (w:=u) (x:=refS M b) c cb (h.below hu) (hb.below hu) (ref_solve M b)
 have q6:=fun (u:World) (hu:Below w.heap.size w u)=>ref5_Solve (w:=u) c cb (h.below hu) (hb.below hu) hnb
 have h48:se=0->n<=48/\cols M<=8:=fun e=>by
  have h1:matCheck M=0:=by
   rw [e] at hse;unfold solveE at hse;split at hse
   ·rename_i h2; exact absurd hse h2
   ·rename_i h2; exact Classical.byContradiction h2
  obtain ⟨a1,a2,_⟩:=matCheck_ok h1;rw [h.len] at a1;exact ⟨a1,a2⟩
 have h8:ck=0->cols M<=8:=fun e=>(matCheck_ok (hck.trans e)).2.1
 rw [hrk,hck] at q1 q2;rw [hck] at q3 q4;rw [hse] at q5 q6;have Q1:=Zh q1;have Q2:=Zh q2;have Q3:=Zh q3;have Q4:=Zh q4;have Q5:=Zh q5;have Q6:=Zh q6;have H48:=Zh h48;have H8:=Zh h8;have hee:((rk:Int)==(rk:Int))=true:=aS
 have hec:(ck==ck)=true:=aS
 have hes:(se==se)=true:=aS
 clear h hb q1 q2 q3 q4 q5 q6 h48 h8 hrk hck hse;go_enter Tryz.func14,Tryz.ntmps14;go_wp2_with fail;refine Zd (Q1.out w (Zb _ _)) ?_;rintro e w1 ⟨rfl,hb1⟩;have HB1:=Zh hb1;clear hb1;go_wp2_with fail;refine Zd (Q2.out w1 HB1.out) ?_;rintro e w2 ⟨rfl,hb2⟩;have HB2:=Zh (HB1.out.trans (hb2.mono HB1.out.size));clear hb2;go_wp2_with fail;refine Zd (Q3.out w2 HB2.out) ?_;rintro e w3 ⟨⟨v1,rfl,hv1⟩,hb3⟩;have HB3:=Zh (HB2.out.trans (hb3.mono HB2.out.size));have HV1:=Zh hv1;clear hb3 hv1;go_wp2_with fail;refine Zd (Q4.out w3 HB3.out) ?_;rintro e w4 ⟨⟨v2,rfl,hv2⟩,hb4⟩;obtain ⟨kn,kZ,kA,kc,kA',kc',rfl,rfl,hk1,hk2,hkn⟩:=kern_pair (P:=ck=0/\kernF M<cols M) (m:=cols M) (HV1.out.imp_right fun h=>⟨⟨h.1,h.2.1⟩,h.2.2⟩) (hv2.imp_right fun h=>⟨⟨h.1,h.2.1⟩,h.2.2⟩) hb4 (wholeZ_len _ _ _);have hkn8:kn<=8\/kn=0:=by
  by_cases e:ck=0
  ·exact .inl (Zm hkn (H8.out e))
  ·right;rcases HV1.out with ⟨_,h2⟩ | ⟨h2,_⟩
   ·injection h2
   ·exact absurd h2 e
 have hkn2:kn<=1000:=aO
 have HK1:=Zh hk1;have HK2:=Zh hk2;have HB4:=Zh (HB3.out.trans (hb4.mono HB3.out.size));clear hb4 hv2 hk1 hk2 hkn hkn8 HV1;go_wp2_with fail;refine Zd (Q5.out w4 HB4.out) ?_;rintro e w5 ⟨⟨v3,rfl,hv3⟩,hb5⟩;have HB5:=Zh (HB4.out.trans (hb5.mono HB4.out.size));have HV3:=Zh hv3;have hk1:=HK1.out.below hb5;have hk2:=HK2.out.below hb5;clear HK1 HK2;have HK1:=Zh hk1;have HK2:=Zh hk2;clear hb5 hv3 hk1 hk2;go_wp2_with fail;refine Zd (Q6.out w5 HB5.out) ?_;rintro e w6 ⟨⟨v4,rfl,hv4⟩,hb6⟩;have hsp:∃ sn A1 c1 A2 c2,v3 = .slice A1 sn c1/\v4 = .slice A2 sn c2/\RatsA w6 A1 sn (refS M b)/\RatsA w6 A2 sn (refS M b)/\sn<=1000:=by
  rcases HV3.out with ⟨h1,rfl⟩ | ⟨h1,bk,rfl,_,h2⟩
  ·rcases hv4 with ⟨_,rfl⟩ | ⟨h3,_⟩
   ·exact ⟨0,none,0,none,0,rfl,rfl,fun h=>absurd h (Nat.lt_irrefl 0),fun h=>absurd h (Nat.lt_irrefl 0),aO⟩
   ·exact absurd h3 h1
  ·rcases hv4 with ⟨h3,_⟩ | ⟨_,A2,c2,rfl,_,_,h4,_⟩
   ·exact absurd h1 h3
   ·exact ⟨n,_,_,A2,c2,rfl,rfl,(h2.toO.rats).below hb6,h4.toA,by have:=(H48.out h1).1; omega⟩
 obtain ⟨sn,sA,sc,sA',sc',rfl,rfl,hs1,hs2,hsn⟩:=hsp;have HS1:=Zh hs1;have HS2:=Zh hs2;have HB6:=Zh (HB5.out.trans (hb6.mono HB5.out.size));have qn:=ref5_SameNums (w:=w6) kc kc' (HK1.out.below hb6) (HK2.out.below hb6) hkn2;have QN:=Zh qn;clear hb6 hv4 hs1 hs2 qn HK1 HK2 HV3;go_wp2_with fail;refine Zd QN.out ?_;rintro e w7 ⟨rfl,hb7⟩;have qs:=ref3_SameAll (w:=w7) sc sc' (HS1.out.below hb7) (HS2.out.below hb7) hsn;rw [sameA_eq sn (fun _ _=>rfl)] at qs;have QS:=Zh qs;have HB7:=Zh (HB6.out.trans (hb7.mono HB6.out.size));clear hb7 qs QN;go_wp2_with fail;refine Zd QS.out ?_;rintro e w8 ⟨rfl,hb8⟩;have HB8:=Zh (HB7.out.trans (hb8.mono HB7.out.size));clear hb8;go_wp2;go_ret;exact ⟨by first | rfl | simp,HB8.out⟩
theorem stat_of_rows {X:Nat->Prop} {w:World} {xs:List Value} {M:List (List Int)} (h:RowsW X w xs M):StatR w xs M:=
 ⟨h.1,fun i hi=>by
  obtain ⟨B,m,c,h1,h2,h3,_,h5⟩:=h.2 i hi;exact ⟨B,m,c,h1,h2,h3,h5⟩⟩
theorem mf_append_none2 {P:Program} (w:World) (t ty e:TypeId) (i:TypeInfo) (ht:P.underlying t=some (.slice e)) (hi:P.info? e=some i) (b n cap:Nat) (A:Option Addr) (c:Nat) (hn:n<=cap) :
 (Builtin.append_ #[t,t] ty #[.slice (some ⟨b,0,none⟩) n cap,.slice A 0 c]).run P w = .ok (.slice (some ⟨b,0,none⟩) n cap) w:=by
 cases A with
 | some a=>exact mf_append_none w t ty e i ht hi b n cap a c hn
 | none=>simp [Builtin.append_,run_underlying ht,sizeOf,typeInfo,hi,Builtin.lenOf,hn,Builtin.firstCells,storeCells]
theorem wpList_append_none_w {P:Program} (w:World) {ops:Array Oper} {rest:List Oper} {o:Oper} {a:Act} {Q:Exit->Act->World->Prop} (hw:Region.wanted o (yielded ops a.tmps)=true) (s x:Operand) (t:TypeId)
 (ho:o.op = .call { callee:= .builtin .append,args:=#[s,x],argTypes:=#[t,t] }) (e:TypeId) (i:TypeInfo) (ht:P.underlying t=some (.slice e)) (hi:P.info? e=some i) (b n cap:Nat) (A:Option Addr) (c:Nat)
 (hs:a.eval s = .slice (some ⟨b,0,none⟩) n cap) (hx:a.eval x = .slice A 0 c) (hn:n<=cap) (h:wpList P ops Q rest (a.put o.dst (.slice (some ⟨b,0,none⟩) n cap)) w):wpList P ops Q (o::rest) a w:=
 BigFrame.wpList_want hw fun _ hK=>by
  unfold Oper.wp execOp;simp only [ho,resolve,invoke,builtin,Sem.run_bind,Sem.run_pure,Result.andThen_ok,List.map_toArray,List.map_cons,List.map_nil,hs,hx,mf_append_none2 w t _ e i ht hi b n cap A c hn];exact hK _ _ h
theorem ints_news {w:World} {A:Option Addr} {n:Nat} {l:List Int} (h:IntsAt w A n l) (h0:0<n):∃ b off,A=some ⟨b,off,none⟩/\b<w.heap.size/\∀ w':World,w'.heap[b]?=w.heap[b]?->∀ j u,(encI l)[j]?=some u->w'.cell? ((⟨b,off,none⟩:Addr).add j)=some u:=by
 obtain ⟨b,off,e,hlt,hc⟩:=h.row h0;refine ⟨b,off,e,hlt,fun w' hw' j u hj=>?_⟩;have hjn:j<l.length:=by
  have:=(List.getElem?_eq_some_iff.1 hj).1;rw [encI_len] at this;exact this
 have e1:(⟨b,off,none⟩:Addr).add j=⟨b,off+j,none⟩:=by unfold Addr.add; split <;> simp_all
 rw [e1,Zc (a:=⟨b,off+j,none⟩) hw',hc j (by rw [<- h.len]; exact hjn),<- hj,encI_at hjn]
theorem ownsRow_at {w w':World} {base g n cap:Nat} {e:TypeId} {size:Nat} {xs:List Value} (h:w.ownsRow base e size (.slice (some ⟨g,0,none⟩) n cap) n xs) (hg:w'.heap[g]?=w.heap[g]?):w'.ownsRow base e size (.slice (some ⟨g,0,none⟩) n cap) n xs:=by
 rcases h.2 with ⟨e1,_⟩ | ⟨g',cap',cur,e1,e2,e3,e4⟩
 ·cases e1
 ·injection e1 with a1 a2 a3
  injection a1 with a1; injection a1 with a1
  subst a1; subst a3;exact ⟨h.1,.inr ⟨g,cap,cur,rfl,e2,hg.trans e3,e4⟩⟩
theorem ints_own {w:World} {base g n cap:Nat} {l:List Int} (h:w.ownsRow base 3 1 (.slice (some ⟨g,0,none⟩) n cap) n (encI l)) (hn:l.length=n) (hI:I64L l):IntsAt w (some ⟨g,0,none⟩) n l/\n<=cap/\cap<=9223372036854775807:=by
 obtain ⟨A,c,e,h1,h2,h3,_⟩:=ints_of_row h hn hI;injection e with a1 _ a3
 subst a1; subst a3;exact ⟨h3,h1,h2⟩
theorem encI_set (l:List Int) (j:Nat) (z:Int):(encI l).set j (.int .i64 z)=encI (l.set j z):=by
 unfold encI; rw [List.map_set]
theorem i64_set {l:List Int} {j:Nat} {z:Int} (h:I64L l) (h1:-9223372036854775808<=z) (h2:z<=9223372036854775807):I64L (l.set j z):=by
 intro i hi;rw [List.length_set] at hi
 by_cases e:j<l.length
 ·rw [iAt_set e];split
  ·exact ⟨h1,h2⟩
  ·exact h i hi
 ·rw [List.set_eq_of_length_le aO];exact h i hi
theorem i64_snoc {l:List Int} {z:Int} (h:I64L l) (h1:-9223372036854775808<=z) (h2:z<=9223372036854775807):I64L (l++[z]):=by
 intro i hi;unfold iAt;rw [List.length_append] at hi;rw [Ze,List.getElem?_append];split
 ·rw [<- Ze]; exact h i (by assumption)
 ·have:i=l.length:=by simp at hi; omega
  subst this;simp; exact ⟨h1,h2⟩
def cutB (w0:World) (B n:Nat) (M:List (List Int)):EBS [] where
 val p:= .slice (some ⟨p.1,0,none⟩) n p.2
 R p u:=∃ xs,u.ownsRow B 22 1 (.slice (some ⟨p.1,0,none⟩) n p.2) n xs/\StatR w0 xs M
 st _ u _ h k:=h.imp fun _ h=>⟨ownsRow_stay h.1 (Upd.below (Zb u.heap.size u) k aS),h.2⟩
theorem cutB_val {w0:World} {B n:Nat} {M:List (List Int)} {p:Nat×Nat}:(cutB w0 B n M).val p = .slice (some ⟨p.1,0,none⟩) n p.2:=rfl
theorem ownsRow_down {w:World} {base base':Nat} {e:TypeId} {size:Nat} {v:Value} {n:Nat} {xs:List Value} (h:w.ownsRow base e size v n xs) (hb:base'<=base):w.ownsRow base' e size v n xs:=by
 refine ⟨h.1,?_⟩;rcases h.2 with h1 | ⟨g,cap,cur,rfl,e2,e3,e4⟩
 ·exact .inl h1
 ·exact .inr ⟨g,cap,cur,rfl,Zm hb e2,e3,e4⟩
theorem cut_cases {w':World} {base base' n:Nat} {v:Value} {xs:List Value} (h:w'.ownsRow base 22 1 v n xs) (hb:base'<=base) (h0:0<n):∃ g c,v = .slice (some ⟨g,0,none⟩) n c/\w'.ownsRow base' 22 1 (.slice (some ⟨g,0,none⟩) n c) n xs/\base<=g/\g<w'.heap.size:=by
 rcases h.2 with ⟨rfl,h1⟩ | ⟨g,cap,cur,rfl,h4,h5,_⟩
 ·omega
 ·refine ⟨g,cap,rfl,ownsRow_down h hb,h4,?_⟩;rcases Nat.lt_or_ge g w'.heap.size with h | h
  ·exact h
  ·rw [Array.getElem?_eq_none h] at h5; cases h5
theorem rowsAt_own {w:World} {base n c:Nat} {A:Option Addr} {xs:List Value} {M:List (List Int)} (h:w.ownsRow base 22 1 (.slice A n c) n xs) (hs:StatR w xs M) (hn:M.length=n):RowsAt w A n M:=by
 obtain ⟨A',c',e,_,_,h3⟩:=rowsAt_of h hs hn;injection e with a1 a2 a3
 subst a1;exact h3
theorem news_own {w:World} {base g n cap:Nat} {e:TypeId} {xs:List Value} (h:w.ownsRow base e 1 (.slice (some ⟨g,0,none⟩) n cap) n xs) (h0:0<n):xs.length=n/\∀ j u,xs[j]?=some u->w.cell? ((⟨g,0,none⟩:Addr).add j)=some u:=by
 have hx:xs.length=n:=by have:=h.1; omega
 refine ⟨hx,fun j u hj=>?_⟩;have hjn:j<n:=by rw [<- hx]; exact (List.getElem?_eq_some_iff.1 hj).1
 have q:=(ownsRow_cell h h0).2.2.2.2 j aO;have e1:(⟨g,0,none⟩:Addr).add j=⟨g,j,none⟩:=by unfold Addr.add; split <;> simp_all
 rw [e1];exact q.trans hj
structure MfS (w:World) (B gM cM R:Nat) (xs:List Value) (M1:List (List Int)) (gS:Nat) (M2:List (List Int)) (gO:Nat) (MO:List (List Int)) (gW:Nat) (bW:List Int) (Bc:Nat) (Ac:Option Addr) (LC cc:Nat) (xsC:List Value):Prop where
 rows:RowsAt w (some ⟨gM,0,none⟩) R M1
 own:w.ownsRow B 22 1 (.slice (some ⟨gM,0,none⟩) R cM) R xs
 st:RowsW (fun b=>b≠gM) w xs M1
 sq:RowsAt w (some ⟨gS,0,none⟩) R M2
 odd:RowsAt w (some ⟨gO,0,none⟩) R MO
 rgt:IntsAt w (some ⟨gW,0,none⟩) R bW
 raw:w.ownsRow Bc 22 1 (.slice Ac LC cc) LC xsC
theorem MfS.below {w w':World} {B gM cM R:Nat} {xs:List Value} {M1:List (List Int)} {gS:Nat} {M2:List (List Int)} {gO:Nat} {MO:List (List Int)} {gW:Nat} {bW:List Int} {Bc:Nat} {Ac:Option Addr} {LC cc:Nat} {xsC:List Value}
 (h:MfS w B gM cM R xs M1 gS M2 gO MO gW bW Bc Ac LC cc xsC) (hb:Below w.heap.size w w'):MfS w' B gM cM R xs M1 gS M2 gO MO gW bW Bc Ac LC cc xsC:=
 ⟨h.rows.below hb,ownsRow_stay h.own hb,h.st.below hb,h.sq.below hb,h.odd.below hb,h.rgt.below hb,ownsRow_stay h.raw hb⟩
end Go.Proofs.YtflgngjocgiojaaGreat
