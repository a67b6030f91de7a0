import Derived.Test.YtflgngjocgiojaaGreatMatN0
set_option linter.all false
namespace Go.Proofs.YtflgngjocgiojaaGreat
set_option maxRecDepth 100000
set_option maxHeartbeats 8000000
open Go.RowKit
attribute [local go_sem] Oper.semAt_some
def lenV:Value->Nat
 | .slice _ n _=>n
 | _=>0
theorem RowV.put_ {X:Nat->Prop} {v:Value} {Z:List Int} {W:World} {l:Nat} {o o':Obj} (h:RowV X v Z W) (ho:W.heap[l]?=some o) (hc:o.isCells=false):RowV (fun _=>True) v Z (W.putObj l o'):=by
 obtain ⟨A,c,e,h1,h2,h3,h4⟩:=h;refine ⟨A,c,e,h1,h2,h3,(h4.imp (fun _ _ _=>trivial)).ki ⟨by simp [World.putObj],fun b cs T r h3 _=>?_⟩⟩
 by_cases e:b=l
 ·subst e; rw [ho] at h3; cases h3; simp [Obj.isCells] at hc
 ·exact (World.putObj_heap_other aO).trans h3
theorem p_zero:(0:Int).natAbs<2^1000:=by decide +kernel
theorem sm_zero:Sm 0:=p_zero
theorem ratAt_of {W:World} {p q:Int} {b1 b2:Nat} (h1:NumO W b1 p) (h2:NumO W b2 q) (f1:fits p=true) (f2:fits q=true):RatAt W (.agg #[.bool (sgnN p),slN p b1,.bool (sgnN q),slN q b2]) p q:=by
 have g1:=h1.at_ f1;have g2:=h2.at_ f2;obtain ⟨A1,n1,c1,e1⟩:=slN_form p b1;obtain ⟨A2,n2,c2,e2⟩:=slN_form q b2;unfold numV at g1 g2;rw [e1] at g1;rw [e2] at g2;exact ⟨_,_,_,_,_,_,_,_,by rw [e1,e2],g1,g2⟩
theorem runB_an (s:BS) (h:s.a<=s.L.length):∀ c,(runB s c).a<=s.L.length
 | 0=>h
 | c+1=>by
  have h1:=runB_an s h c;have h2:=(stepB_a (runB s c) c).2.2;rw [runB_len] at h2;exact h2 h1
theorem matrix_Kernel {w:World} {A:Option Addr} {n:Nat} {M:List (List Int)} {x:Nat->QI} (c:Nat) (h:RowsAt w A n M) (hf:FineK M x (kernF M)) :
 Calls Tryz.prog 20 #[.slice A n c] w fun e w'=>(∃ v,e = .returned (.tuple #[v,.int .i64 (matCheck M)])/\((¬ (matCheck M=0/\kernF M<cols M)/\v = .slice none 0 0)\/(matCheck M=0/\kernF M<cols M/\RowV (fun _=>True) v (wholeZ (kernQ x (kernF M)) (cols M) (cols M)) w')))/\Below w.heap.size w w':=by
 obtain ⟨i0,hi0,hy0,hy1,hy2⟩:=info_parts infoRat;have H:=Zh h;have hl:=h.len;have q:=matrix_check c h;obtain ⟨e,he⟩:=Zx (matCheck M);obtain ⟨k,hk⟩:=Zx (cols M);obtain ⟨f,hff⟩:=Zx (kernF M);rw [hff] at hf;rw [he] at q;rw [he,hk,hff];have HK:=Zh (Zi he (Zi hk hff));have Q:=Zh q;have HF:=Zh hf;have HL:=Zh hl;clear h q he hk hff hf hl;refine (callsIn_wide (n:=5)).1 ?_;refine callsIn_of_wp_marks Tryz.func20 rfl trivial ?_ rfl;simp only [Tryz.ntmps20,List.size_toArray,List.length_cons,List.length_nil,Nat.reduceAdd,Nat.reduceSub,Array.replicate_succ,Array.replicate_zero,List.push_toArray,List.append_toArray,List.nil_append,List.cons_append];gi_wp2_with fail;refine ⟨trivial,(callsIn_wide.2 Q.out).mono ?_⟩;rintro e2 w1 ⟨rfl,hb1⟩;have hz1:=hb1.size;have HB1:=Zh hb1
 by_cases he0:e=0
 ·subst he0;have hok:=matCheck_ok HK.out.1;rw [HL.out,HK.out.2.1] at hok;have HO:=Zh hok;have hn48:=hok.1;have hc8:=hok.2.1;have hfs:=HF.out HK.out.1;rw [HL.out,HK.out.2.1] at hfs;have hlen:firstF (leadsB ⟨sysL M [] n,1,0⟩ k)=f:=by
   have:=HK.out.2.2;unfold kernF at this;rw [HL.out,HK.out.2.1] at this;exact this
  have hfk:f<=k:=by
   have h1:=firstF_le (leadsB ⟨sysL M [] n,1,0⟩ k);have h2:=leadsB_len ⟨sysL M [] n,1,0⟩ k;have h3:=runB_a ⟨sysL M [] n,1,0⟩ k;simp only at h2 h3;omega
  have HS:=Zh (Zi hfs hlen);have HFN:Hid (f<=n):=Zh (by
   have h1:=firstF_le (leadsB ⟨sysL M [] n,1,0⟩ k);have h2:=leadsB_len ⟨sysL M [] n,1,0⟩ k;have h3:=runB_an ⟨sysL M [] n,1,0⟩ aS k;simp only [sysL_len] at h2 h3;omega)
  clear hok hb1 hfs hlen;gi_wp2_with fail;have qo:=matrix_of c 0 (H.out.below HB1.out) (intsNil w1) aO (fun i hi=>by rw [HO.out.2.2.1 i hi]; omega) aO;rw [HK.out.2.1] at qo;refine ⟨trivial,(callsIn_wide.2 qo).mono ?_⟩;clear qo;rintro e3 w4 ⟨⟨S,rfl,hS⟩,hb4⟩;have hB4:=HB1.out.trans (hb4.mono hz1);have hz4:=hB4.size;have hS4:=hS.below ((Zb w4.heap.size w4).alloc (Zr _) (.cells #[.int .i64 0] 3));have hB5:=hB4.alloc hz4 (.cells #[.int .i64 0] 3);have bN:=Boxed.new w4 3 (.int .i64 0);have HS4:=Zh hS4;clear hS hS4 hb4 hB4;gi_wp2_with fail;obtain ⟨Bn,hBn⟩:=Zx (w4.heap.size);rw [hBn] at bN ⊢;generalize (w4.alloc (.cells #[.int .i64 0] 3))=w5 at *;refine ⟨trivial,(callsIn_wide.2 (matrix_leads S w5)).mono ?_⟩;rintro e4 w6 ⟨rfl,hbx,hb6⟩;have HS6:=Zh (HS4.out.below hb6);have bN6:=boxB bN hb6;have hz5:=hB5.size;have hB6:=hB5.trans (hb6.mono hz5);have hz6:=hb6.size;have hBn5:Bn<w5.heap.size:=bN.lt;clear hb6 bN HS4;obtain ⟨g,hg1,hg2,hg3,hseq⟩:=leads_seq (5 - 1) aO (wd:=k) hbx HS6.out (by rw [sysL_len]; omega) (wide_sys HO.out.2.2.1) (Zr _) aO (fun h=>by
   have h1:=congrArg List.length h;rw [sysL_len] at h1;have h2:=HL.out;have h3:n=0:=h1;rw [h3] at h2;have h4:=HK.out.2.1;rw [List.eq_nil_of_length_eq_zero h2] at h4;exact h4.symm) HS.out.1.1
  gi_wp2;refine wpIn_range_itW aO (gf:=97) (lb:=#[.pointer (some ⟨w5.heap.size,0,none⟩)]) rfl (enters_of Tryz.func97 aK rfl)
   hseq hg2 KI.trans (KI.putObj (w:=w6)) (fun _=>rfl) sysAt_own
   (fun pre W=>Boxed W Bn 3 (.int .i64 (firstF pre:Nat))/\Below w.heap.size w W)
   (fun _ _ _ _ ⟨h1,h2⟩ hg hr=>⟨boxed_own' () _ _ _ h1 hg hr,ownFrom_below (Zr _) aO () _ _ _ h2 hg hr⟩)
   (fun s X Y ⟨h1,h2⟩ hI=>⟨hI.boxed h1 (hg3 _ _ (box_own bN6)) aO,hI.below_ h2 aO aO⟩)
   ⟨bN6,hB6⟩
   (fun x=>{ tmps:=#[.slice A n c,undef,.slice none 0 0,.int .i64 0,.int .i64 0,.pointer (some ⟨S,0,none⟩),.pointer (some ⟨Bn,0,none⟩),.int .i64 (x.1:Nat),.int .i64 (x.2:Nat),undef,undef,.slice A n c,.int .i64 0,.int .i64 0,.bool false,undef,.slice A n c,.pointer (some ⟨S,0,none⟩),.pointer (some ⟨S,0,none⟩),.func (.func 97) #[] #[.pointer (some ⟨w5.heap.size,0,none⟩)],.int .i64 (x.1:Nat),.int .i64 (x.2:Nat),undef,undef,undef,undef,undef,undef,undef,undef,undef,undef,undef,undef,undef,undef,undef,undef,undef,undef,undef,undef,undef,undef,undef,undef,undef,undef,undef,undef,undef,undef,undef,undef,undef,undef,undef,undef,undef,undef,undef,undef,undef,undef,undef,undef,undef,undef,undef,undef,undef,undef,undef,undef,undef,undef,undef],defers:=[] })
   ?assign ?body ?done
  case assign =>
   intro l x W K hK;rw [foldl_two]
   (try simp only [LN])
   gi_wp2;exact hK
  case body =>
   rintro l pre x W hl ⟨h1,h2⟩ hlen;have hfl:=firstF_le pre;have hsn:=firstF_snoc pre x;obtain ⟨f0,hf0⟩:=Zx (firstF pre);rw [hf0] at h1 hfl hsn;have c1:=(box_own h1).cell 0;have f1:=h1.frozen;simp only [List.size_toArray,List.getElem?_toArray,List.getElem?_cons_zero] at c1;have hl2:(f0:Int)<1000:=aO
   have HSN:=Zh hsn;have HH:=Zh (Zi h1 h2);clear hsn hf0 h1 h2
   by_cases ha:x.1=x.2
   ·have ha1:((x.1:Int)==(x.2:Int))=true:=by rw [ha]; simp
    by_cases hb:x.1=f0
    ·have hb1:((x.1:Int)==(f0:Int))=true:=by rw [hb]; simp
     have hfn:firstF (pre++[x])=f0+1:=by rw [HSN.out,if_pos ⟨ha,hb⟩]
     clear ha hb;have HH1:=HH.out.1;gi_wp2;exact ⟨(KeepsOthers.setCell _ _ _).from _,KI.box HH1 _,box_set HH1 _,HH.out.2.setCell aT _⟩
    ·have hb1:((x.1:Int)==(f0:Int))=false:=beq_eq_false_iff_ne.2 aO;have hfn:firstF (pre++[x])=f0:=by rw [HSN.out,if_neg (fun h=>hb h.2)]
     clear ha hb;gi_wp2;exact ⟨KeepsFrom.refl _ _,KI.refl _,HH.out.1,HH.out.2⟩
   ·have ha1:((x.1:Int)==(x.2:Int))=false:=beq_eq_false_iff_ne.2 aO;have hfn:firstF (pre++[x])=f0:=by rw [HSN.out,if_neg (fun h=>ha h.1)]
    clear ha;gi_wp2;exact ⟨KeepsFrom.refl _ _,KI.refl _,HH.out.1,HH.out.2⟩
  case done =>
   rintro D xs W hD rfl ⟨h1,h2⟩ hFin hK;rw [HS.out.2] at h1;have oN:=box_own h1;have HFin:=Zh hFin;have hDl:=(Zt.1 hK).1;obtain ⟨-,hSl,A9,cap9,oS,-⟩:=hFin;rw [runB_len,show (BS.mk (sysL M [] n) 1 0).L.length=n from sysL_len _ _ _] at oS;gi_step;gi_step;refine wpIn_wide.2 ?_;go_wp2;refine region_late 6 [] aK aK (by rfl) ?_;apply Zs;refine ⟨fun v hv hne=>?_,fun u hu=>?_⟩
   ·simp only [TK];have d1:=fun y=>(oN.later (v:=v) (T:=[]) aS y).cell
    have d2:=fun y=>(oS.later (v:=v) (T:=[]) aS y).cell
    exact qz
   simp only [TK];refine late_nil ?_
   (try simp only [LN])
   have hKu:=(hu.block D hDl).trans hK;have hDu:D<u.heap.size:=Zl hDl hu.size;have oN2:=oN.below hu;have oS2:=oS.below hu;have HFin2:=Zh (HFin.out.below hu);have h2u:=h2.trans (hu.mono h2.size);have hwz:=h2u.size;have hDw:w.heap.size<=D:=aO
   clear oN oS h1 HFin hu hK hDl
   by_cases hfk2:f=k
   ·subst hfk2;go_wp2;refine ⟨aS,.inl ⟨_,_,rfl,run_takeDeferred hKu,?_⟩⟩;refine ⟨_,by simp [results,Tryz.results20,go_sem]; exact rfl,?_⟩;refine ⟨by first | exact ⟨_,rfl,.inl ⟨fun h=>aO,rfl⟩⟩ | exact ⟨_,rfl,rfl⟩ | rfl,?_⟩;exact h2u.trans (belowK_b (w:=w) (Zr _) _ D _ _ aO hKu rfl rfl)
   ·have hki:((f:Int)==(k:Int))=false:=beq_eq_false_iff_ne.2 aO;have hfk3:f<k:=aO
    have HKE:=Zh (HS.out.1.2 hfk3);have oN2c:=oN2.cell;clear hfk2;have qb:=matrix_back0 (w:=u) (n:=f) (last:=f) (wd:=k) (x:=x) HFin2.out (runB_wide (wide_sys HO.out.2.2.1) k) (by rw [runB_len]; show f<=(sysL M [] n).length; rw [sysL_len]; exact HFN.out) aO hfk3 (by rw [runB_len]; show (sysL M [] n).length<=900; rw [sysL_len]; omega) aO HKE.out.1;go_wp2_with fail;refine Zd qb ?_;clear qb;rintro e7 w8 ⟨⟨bk,rfl,hbk,hxs⟩,hb8⟩;have hK8:=(hb8.block D hDu).trans hKu;have oS8:=oS2.below hb8;have h8:=h2u.trans (hb8.mono hwz);have hz8:=hb8.size;have HXS:=Zh hxs;have hSu:=oS2.lt;have hfi:(f:Int)<=8:=aO
    clear hxs hb8 oN2c oN2 oS2;go_wp2;have hkq:=HKE.out.2.sm;go_loopw [44] (fun i wr=>∃ j:Nat,j<=f/\i = .int .i64 j/\Upd [bk] w8 wr/\RatsO wr bk (fun i=>if i<j then kernQ x f i else x i) 0 f) (fun i _=>f - (intOf i).toNat)
    case atStart=>exact ⟨0,aO,rfl,Upd.refl _ _,by simpa using HXS.out⟩
    case round =>
     obtain ⟨j,hj,rfl,hup,hxs⟩:=hrel
     by_cases hlt:j<f
     ·have hlt2:(j:Int)<(f:Int):=aO
      have HXJ:=Zh hxs;obtain ⟨csx,hoxT,hxz,hxc⟩:=hxs;obtain ⟨t1,E1,m1,d1,t2,E2,m2,d2,x1,x2,x3,x4,hrx⟩:=hxc j aO hlt;have hox:=hoxT.own;have y1:=(hox.cell _).trans x1;have y2:=(hox.cell _).trans x2;have y3:=(hox.cell _).trans x3;have y4:=(hox.cell _).trans x4;have hxl:=hox.lt;have hxf:=hox.thaw;simp only [if_neg (Nat.lt_irrefl j)] at hrx;have hkj:=hkq j aO;have hval:=HKE.out.1.val j hlt;have hkd:kernQ x f j=subQ (0,1) (x j):=by unfold kernQ; rw [if_pos hlt]
      obtain ⟨⟨px,qx⟩,hpx⟩:=Zx (x j);rw [hpx] at hrx hval hkd;obtain ⟨⟨zm,ym⟩,hm⟩:=Zx (subQ (0,1) (px,qx));rw [hm] at hkd;rw [hkd] at hkj;have HP:=Zh (Zi hval (Zi hkj (Zi hkd hm)));have HRX:=Zh hrx;clear hoxT hxz hxc hrx hox hkj hval hkd hpx hm x1 x2 x3 x4;have hTb:∀ b,b∈[bk]->b<wr.heap.size:=fun b hm=>by
       have:=List.mem_singleton.1 hm;omega
      have hrk:∀ u:World,Keeps [bk] wr u->RatX (fun y=>y≠bk) u t1 E1 m1 d1 t2 E2 m2 d2 px qx:=fun u hu=>HRX.out.move hu.1 fun b hb hX=>⟨hu.2 b hb (by simpa using hX),hX⟩
      go_wp2;refine region_gen (T:=[bk]) [.make 2 [] (ratVB _ wr.heap.size 0 1),.step 6 (.agg #[.bool t1,.slice E1 m1 d1,.bool t2,.slice E2 m2 d2]),.make 7 [2] (ratB _ wr.heap.size zm ym),.need 8 [7],.need 10 []] 11 1 40 (fun _ u=>SameAt wr bk u) (fun _ u u' h k=>⟨(k.block bk h.2).trans h.1,Zl h.2 k.size⟩) ⟨rfl,hxl⟩ aK aK (by rfl) ?_;unfold genWalk;refine ⟨_,pz1,?_⟩;refine one_of (by rfl) ⟨fun f=>⟨rfl,fun u hu _=>?_⟩,?_⟩
      ·refine make_call (f:=49) (args:=#[.int .i64 0]) gA4 ?_;have q:=ratio_Int (w:=u) 0 aO aO;refine q.mono ?_;rintro e wx ⟨⟨b1,b2,rfl,q1,q2,q3,q4,q5,q6⟩,hbx⟩;have hus:=hu.1;exact ⟨(b1,b2),rfl,q3,q4,hbx,fun hm=>absurd (hTb b1 hm) aO,fun hm=>absurd (hTb b2 hm) aO,q1,q2,by show wr.heap.size<=b2; omega,q6⟩
      unfold genWalk;refine ⟨_,pz2,?_⟩;refine one_of (by rfl) ⟨fun f=>⟨rfl,fun u hu hp=>?_⟩,?_⟩
      ·(try simp only [LN])
       (try simp only [VB4,numV,ratV])
       have r1:=(Zc (w:=wr) (a:=⟨bk,j*4,none⟩) hp.1).trans y1;have r2:=(Zc (w:=wr) (a:=⟨bk,j*4+1,none⟩) hp.1).trans y2;have r3:=(Zc (w:=wr) (a:=⟨bk,j*4+2,none⟩) hp.1).trans y3;have r4:=(Zc (w:=wr) (a:=⟨bk,j*4+3,none⟩) hp.1).trans y4;go_simp
       first | exact Upd.refl _ _ | exact ⟨Upd.refl _ _,hp⟩ | exact ⟨rfl,Upd.refl _ _,hp⟩
      unfold genWalk;refine ⟨_,pz2,?_⟩;refine one_of (by rfl) ⟨fun f=>⟨rfl,fun u hu hm=>?_⟩,?_⟩
      ·refine make_call (f:=59) (args:=#[.agg #[.bool (sgnN 0),slN 0 (f 2).1,.bool (sgnN 1),slN 1 (f 2).2],.agg #[.bool t1,.slice E1 m1 d1,.bool t2,.slice E2 m2 d2]]) gA4 ?_;have e1:NumO u (f 2).1 0/\NumO u (f 2).2 1:=(show (ratVB [bk] wr.heap.size 0 1).R (f 2) u from hm 2 aS).2.2.imp id fun h=>h.1
       have q:=ratio_Sub (w:=u) (a:=0) (b:=1) (c:=px) (d:=qx) (ratAt_of e1.1 e1.2 (fits_small aO) (fits_small aO)) (hrk u hu).at_ (good_one 0) HP.out.1.1 (sm_zero.mul HP.out.1.2.2) (HP.out.1.2.1.neg.mul Sm.one) (sm_sum sm_zero HP.out.1.2.2 HP.out.1.2.1.neg Sm.one) (Sm.one.mul HP.out.1.2.2);have e9:ofN (0*qx + -px*1) (1*qx)=zm/\ofD (0*qx + -px*1) (1*qx)=ym:=⟨congrArg Prod.fst HP.out.2.2.2,congrArg Prod.snd HP.out.2.2.2⟩;rw [e9.1,e9.2] at q;refine q.mono ?_;rintro e wx ⟨⟨b1,b2,rfl,q1,q2,q3,q4,q5,q6⟩,hbx⟩;have hus:=hu.1;exact ⟨(b1,b2),rfl,q3,q4,hbx,fun hm=>absurd (hTb b1 hm) aO,fun hm=>absurd (hTb b2 hm) aO,q1,q2,by show wr.heap.size<=b2; omega,q6⟩
      unfold genWalk;refine ⟨_,pz2,?_⟩;unfold genWalk;refine ⟨_,pz2,?_⟩;unfold genWalk;refine ⟨_,pz2,?_⟩;intro f9 u' hup2 hph hmade hdist;obtain ⟨⟨hT1,hT2,oA,oB,loB,hiB⟩,loA,hiA⟩:=hmade 7 aO rfl;replace oA:NumO u' (f9 7).1 zm:=oA;replace oB:NumO u' (f9 7).2 ym:=oB;replace hiB:(f9 7).2<u'.heap.size:=hiB;have hT1b:(f9 7).1≠bk:=fun h=>hT1 (by rw [h]; exact List.mem_singleton_self _)
      have hT2b:(f9 7).2≠bk:=fun h=>hT2 (by rw [h]; exact List.mem_singleton_self _)
      have hB1:Below wr.heap.size wr u':=⟨hup2.os,hup2.tape,hup2.output,hup2.size,fun b hb=>by
       by_cases e:b=bk
       ·subst e; exact hph.1
       ·exact hup2.block b hb (by simpa using e)⟩
      clear hmade hdist hph hT1 hT2 loA loB;simp only [TK,Nat.reduceSub,Nat.reduceAdd]
      (try simp only [LN])
      (try simp only [VB4,numV,ratV])
      generalize (f9 7).1=g1 at *;generalize (f9 7).2=g2 at *;generalize (f9 2).1=g3 at *;generalize (f9 2).2=g4 at *;clear f9;obtain ⟨A7,n7,c7,hs7⟩:=slN_form zm g1;obtain ⟨A8,n8,c8,hs8⟩:=slN_form ym g2;rw [hs7,hs8];have HS7:=Zh (Zi hs7 hs8);clear hs7 hs8;refine effc_mem (by rfl) (fun K hK=>?_);go_simp;refine hK _ _ (Keeps.of_below hB1) (fun u2 hu2=>?_);clear hK K;have hB2:=hB1.trans (hu2.mono hB1.size);have hup3:Upd [bk] w8 u2:=hup.trans (Upd.of_below hB2);have hrx2:RatX (fun y=>y≠bk) u2 (sgnN zm) A7 n7 c7 (sgnN ym) A8 n8 c8 zm ym:=ratX_of (oA.below hu2) (oB.below hu2) HP.out.2.1.2.1.fits HP.out.2.1.2.2.fits (Zl hiA hu2.size) (Zl hiB hu2.size) hT1b hT2b HS7.out.1 HS7.out.2;have hput:=RatsO.put2 (y:=fun i=>if i<j+1 then kernQ x f i else x i) (HXJ.out.below hB2) hlt (s1:=sgnN zm) (s2:=sgnN ym) (A1:=A7) (A2:=A8) (n1:=n7) (c1:=c7) (n2:=n8) (c2:=c8) (by simp only [if_pos (Nat.lt_succ_self j)]; rw [HP.out.2.2.1]; exact hrx2) (fun i hi hne=>by
       by_cases h:i<j
       ·simp only [if_pos h,if_pos (show i<j+1 by omega)]
       ·simp only [if_neg h,if_neg (show ¬ i<j+1 by omega)])
      have r1:=(Zc (w:=wr) (a:=⟨bk,j*4,none⟩) (hB2.block bk hxl)).trans y1;have r2:=(Zc (w:=wr) (a:=⟨bk,j*4+1,none⟩) (hB2.block bk hxl)).trans y2;have r3:=(Zc (w:=wr) (a:=⟨bk,j*4+2,none⟩) (hB2.block bk hxl)).trans y3;have r4:=(Zc (w:=wr) (a:=⟨bk,j*4+3,none⟩) (hB2.block bk hxl)).trans y4;have fz:∀ i,u2.frozen? ⟨bk,i,none⟩=false:=fun i=>by
       obtain ⟨cs,ho,_⟩:=HXJ.out.below hB2;exact ho.own.thaw i
      have hk2:Keeps [bk] wr u2:=Keeps.of_below hB2;have HPUT:=Zh hput;clear hput hrx2 y1 y2 y3 y4 hu2 hB1 hB2 oA oB;refine effc_mem (by rfl) (fun K hK=>?_);go_simp;refine hK _ _ ((((hk2.set aS _).set aS _).set aS _).set aS _) (fun u3 hu3=>?_);clear hK K;have HPUT2:=Zh (HPUT.out.below hu3);have HUP2:=Zh (((((hup3.set aS _).set aS _).set aS _).set aS _).trans (Upd.of_below hu3));clear hu3 HPUT r1 r2 r3 r4 fz hup3;refine effc_nil ?_
      (try simp only [LN])
      go_wp2;go_roundw
      case rel=>exact ⟨j+1,aO,by go_num,HUP2.out,HPUT2.out⟩
      case measure=>simp [intOf]; omega
     ·have hjf:j=f:=aO
      subst hjf;have hxs2:RatsO wr bk (kernQ x j) 0 j:=by
       obtain ⟨cs,g1,g2,g3⟩:=hxs;refine ⟨cs,g1,g2,fun i h1 h2=>?_⟩;have:=g3 i h1 h2;simp only [if_pos h2] at this;exact this
      obtain ⟨xs,how,hcw⟩:=hxs2.owns (Zr bk) aO;have hbl:bk<wr.heap.size:=by obtain ⟨cs,ho,_⟩:=hxs2; exact ho.own.lt
      have OL:Hid (∀ b,Value.ownBlock (.slice (some ⟨bk,0,none⟩) j j)=some b->b<wr.heap.size):=Zh (fun b hb=>by cases hb; exact hbl);have HOW:=Zh how;have HCW:=Zh (RatC.move (Y:=fun b=>some b≠Value.ownBlock (.slice (some ⟨bk,0,none⟩) j j)) hcw (Zr _) (fun b _ hX=>⟨rfl,fun e=>hX (by cases e; rfl)⟩));have hDW:=(hup.block D aO aT).trans hK8;have oSW:=oS8.upd hup aT;have hBW:=Zh (Upd.below h8 hup aT);have HQV:Hid (kernQ x j j=(1,1)):=Zh (by unfold kernQ; rw [if_neg aO,if_pos rfl]);have HWQ:=Zh HKE.out.2;clear hxs hxs2 how hcw hK8 oS8 h8 hup hkq HXS HKE;go_wp2_with fail;refine Zd (ratio_Int (w:=wr) 1 aO aO) ?_;rintro e u1 ⟨⟨b1,b2,rfl,oA,oB,l1,l2,l3,l4⟩,hba⟩;obtain ⟨A7,n7,c7,hs7⟩:=slN_form 1 b1;obtain ⟨A8,n8,c8,hs8⟩:=slN_form 1 b2;simp only [ratV];rw [hs7,hs8];have hrx:RatX (fun b=>some b≠Value.ownBlock (.slice (some ⟨bk,0,none⟩) j j)/\b<u1.heap.size) u1 (sgnN 1) A7 n7 c7 (sgnN 1) A8 n8 c8 1 1:=
       ratX_of oA oB (fits_small aO) (fits_small aO) l2 l4 ⟨fun e=>by have:=OL.out _ e.symm; omega,l2⟩ ⟨fun e=>by have:=OL.out _ e.symm; omega,l4⟩ hs7 hs8
      have HR1:=Zh hrx;have O5:=Zh (ownsRow_stay HOW.out hba);have C5:=Zh (RatC.move (Y:=fun b=>some b≠Value.ownBlock (.slice (some ⟨bk,0,none⟩) j j)/\b<u1.heap.size) HCW.out hba.size (fun b hb hX=>⟨hba.block b hb,hX,Zl hb hba.size⟩));have hD1:=(hba.block D aO).trans hDW;have oS1:=oSW.below hba;have hB1:=Zh (hBW.out.trans (hba.mono hBW.out.size));have hz1:=hba.size;clear hrx hs7 hs8 oA oB l1 l2 l3 l4 hba hDW oSW;go_wp2_with (at_builtin; refine wpList_append_lies _ rfl _ _ _ (by rfl) bk 37 i0 (.agg nz2) 4 64 Tryz.underlying38 hi0 hy0 hy1 hy2 rfl aO _ j xs (by rfl) (O5.out.alloc _) ⟨u1.heap.size,0,none⟩ 1 1 [.bool (sgnN 1),.slice A7 n7 c7,.bool (sgnN 1),.slice A8 n8 c8] (by rfl) rfl ?h1a ?h1b aO ?h1c ?h1d ?h1e (u1.heap.size+1) aS ?_)
      case h1a=>exact World.news_of_block (heap_alloc_new u1 _)
      case h1b=>intro u hu; simp at hu; rcases hu with rfl | rfl | rfl | rfl <;> rfl
      case h1c=>unfold maxLen; omega
      case h1d=>omega
      case h1e=>simp; omega
      intro g9 cg9 x1 ho6 hg6 hat hlt6;have hob:∀ b,_=some b->bk<=b:=fun b hb=>ownBlock_ge (O5.out) hb
      have hbl5:Below u1.heap.size u1 (u1.alloc (.cells #[.bool (sgnN 1),.slice A7 n7 c7,.bool (sgnN 1),.slice A8 n8 c8] 37)):=(Zb _ _).alloc (Zr _) _;have hBN:=Zh (Below.grown (hB1.out.alloc aO (.cells #[.bool (sgnN 1),.slice A7 n7 c7,.bool (sgnN 1),.slice A8 n8 c8] 37)) hg6 aT (fun b hb=>by have:=hob b hb; omega));have hs6:=hg6.size;simp at hs6;have hDN:=(hg6.block D aT (fun e=>by have:=hob _ e.symm; omega)).trans ((hbl5.block D aO).trans hD1);have oSN:=(oS1.alloc (.cells #[.bool (sgnN 1),.slice A7 n7 c7,.bool (sgnN 1),.slice A8 n8 c8] 37)).of_block (hg6.block S aT (fun e=>by have:=hob _ e.symm; omega));have hCN:RatC (fun b=>some b≠some g9) x1 (xs++[.bool (sgnN 1),.slice A7 n7 c7,.bool (sgnN 1),.slice A8 n8 c8]) (j+1) (kernQ x j):=by
       refine RatC.move (X:=fun b=>some b≠Value.ownBlock (.slice (some ⟨bk,0,none⟩) j j)/\b<u1.heap.size) (RatC.snoc ?_ ?_) hg6.size (fun b hb hX=>⟨hg6.block b hb hX.1,fun e=>?_⟩)
       ·exact C5.out.move hbl5.size fun b hb hX=>⟨hbl5.block b hb,hX⟩
       ·rw [HQV.out]; exact HR1.out.below hbl5
       ·cases e;rcases hat with h | h
        ·exact hX.1 h.symm
        ·have:=hX.2; omega
      have HCN:=Zh hCN;have HON:=Zh ho6;clear hCN ho6 hg6 hat hob hbl5 hD1 oS1 O5 C5 HR1 HOW HCW OL;clear HQV hBW;go_wp2;go_loopw [9] (fun v wr=>∃ (m:Nat) (xs:List Value),j+1<=m/\m<=k/\bk<wr.heap.size/\wr.ownsRow bk 37 4 v m xs/\RatC (fun b=>some b≠v.ownBlock) wr xs m (kernQ x j)/\wr.heap[D]?=some (.deferred (some []))/\Own wr S #[.slice A9 n cap9,.int .i64 (k:Nat)]/\Below w.heap.size w wr) (fun v _=>k - lenV v)
      case atStart=>exact ⟨j+1,_,aO,aO,aO,HON.out,HCN.out,hDN,oSN,hBN.out⟩
      case round =>
       clear HON HCN hDN oSN hBN;obtain ⟨m,xs,hm1,hm2,hbl2,how,hcw,hDW,oSW,hbw⟩:=hrel;obtain ⟨g7,cap7,rfl,hg7,hg7l⟩:=how.form aO;have HOW:=Zh how;have HCW:=Zh hcw;have oSc:=oSW.cell;have hBW:=Zh hbw;clear how hcw hbw
       by_cases hmk:m<k
       ·have hmki:(m:Int)<(k:Int):=aO
        have OL:Hid (∀ b,Value.ownBlock (.slice (some ⟨g7,0,none⟩) m cap7)=some b->b<wr.heap.size):=Zh (fun b hb=>by cases hb; exact hg7l);have HQV:Hid (kernQ x j m=(0,1)):=Zh (by unfold kernQ; rw [if_neg aO,if_neg aO]);go_wp2_with fail;clear oSc;refine Zd (ratio_Int (w:=wr) 0 aO aO) ?_;rintro e u2 ⟨⟨b1,b2,rfl,oA,oB,l1,l2,l3,l4⟩,hba⟩;obtain ⟨A7,n7,c7,hs7⟩:=slN_form 0 b1;obtain ⟨A8,n8,c8,hs8⟩:=slN_form 1 b2;simp only [ratV];rw [hs7,hs8];have hrx:RatX (fun b=>some b≠Value.ownBlock (.slice (some ⟨g7,0,none⟩) m cap7)/\b<u2.heap.size) u2 (sgnN 0) A7 n7 c7 (sgnN 1) A8 n8 c8 0 1:=
         ratX_of oA oB (fits_small aO) (fits_small aO) l2 l4 ⟨fun e=>by have:=OL.out _ e.symm; omega,l2⟩ ⟨fun e=>by have:=OL.out _ e.symm; omega,l4⟩ hs7 hs8
        have HR2:=Zh hrx;have O5:=Zh (ownsRow_stay HOW.out hba);have C5:=Zh (RatC.move (Y:=fun b=>some b≠Value.ownBlock (.slice (some ⟨g7,0,none⟩) m cap7)/\b<u2.heap.size) HCW.out hba.size (fun b hb hX=>⟨hba.block b hb,hX,Zl hb hba.size⟩));have hD2:=(hba.block D aO).trans hDW;have oS2:=oSW.below hba;have hB2:=Zh (hBW.out.trans (hba.mono hBW.out.size));have hz2:=hba.size;clear hrx hs7 hs8 oA oB l1 l2 l3 l4 hba hDW oSW;go_wp2_with (at_builtin; refine wpList_append_lies _ rfl _ _ _ (by rfl) bk 37 i0 (.agg nz2) 4 64 Tryz.underlying38 hi0 hy0 hy1 hy2 rfl aO _ m xs (by rfl) (O5.out.alloc _) ⟨u2.heap.size,0,none⟩ 1 1 [.bool (sgnN 0),.slice A7 n7 c7,.bool (sgnN 1),.slice A8 n8 c8] (by rfl) rfl ?h2a ?h2b aO ?h2c ?h2d ?h2e (u2.heap.size+1) aS ?_)
        case h2a=>exact World.news_of_block (heap_alloc_new u2 _)
        case h2b=>intro u hu; simp at hu; rcases hu with rfl | rfl | rfl | rfl <;> rfl
        case h2c=>unfold maxLen; omega
        case h2d=>omega
        case h2e=>simp; omega
        intro g9 cg9 x2 ho6 hg6 hat hlt6;have hob:∀ b,_=some b->bk<=b:=fun b hb=>ownBlock_ge (O5.out) hb
        have hbl5:Below u2.heap.size u2 (u2.alloc (.cells #[.bool (sgnN 0),.slice A7 n7 c7,.bool (sgnN 1),.slice A8 n8 c8] 37)):=(Zb _ _).alloc (Zr _) _;have hBN:=Zh (Below.grown (hB2.out.alloc aO (.cells #[.bool (sgnN 0),.slice A7 n7 c7,.bool (sgnN 1),.slice A8 n8 c8] 37)) hg6 aT (fun b hb=>by have:=hob b hb; omega));have hs6:=hg6.size;simp at hs6;have hDN:=(hg6.block D aT (fun e=>by have:=hob _ e.symm; omega)).trans ((hbl5.block D aO).trans hD2);have oSN:=(oS2.alloc (.cells #[.bool (sgnN 0),.slice A7 n7 c7,.bool (sgnN 1),.slice A8 n8 c8] 37)).of_block (hg6.block S aT (fun e=>by have:=hob _ e.symm; omega));have hCN:RatC (fun b=>some b≠some g9) x2 (xs++[.bool (sgnN 0),.slice A7 n7 c7,.bool (sgnN 1),.slice A8 n8 c8]) (m+1) (kernQ x j):=by
         refine RatC.move (X:=fun b=>some b≠Value.ownBlock (.slice (some ⟨g7,0,none⟩) m cap7)/\b<u2.heap.size) (RatC.snoc ?_ ?_) hg6.size (fun b hb hX=>⟨hg6.block b hb hX.1,fun e=>?_⟩)
         ·exact C5.out.move hbl5.size fun b hb hX=>⟨hbl5.block b hb,hX⟩
         ·rw [HQV.out]; exact HR2.out.below hbl5
         ·cases e;rcases hat with h | h
          ·exact hX.1 h.symm
          ·have:=hX.2; omega
        have HCN:=Zh hCN;have HON:=Zh ho6;clear hCN ho6 hg6 hat hob hbl5 hD2 oS2 O5 C5 HR2 HOW HCW OL;go_wp2;go_roundw
        case rel=>exact ⟨m+1,_,aO,aO,aO,HON.out,HCN.out,hDN,oSN,hBN.out⟩
        case measure=>simp [lenV]; omega
       ·have hmk2:m=k:=aO
        subst hmk2;have hmki:¬ (m:Int)<(m:Int):=aO
        obtain ⟨A3,c3,e3,hra⟩:=ratsA_of HOW.out HCW.out;injection e3 with e3 e4 e5
        subst e3 e5;have qw:=matrix_whole cap7 hra aO HWQ.out;have HQW:=Zh qw;have hDl3:=(Zt.1 hDW).1;clear qw hra e4;go_wp2_with fail;clear oSc oSW;refine Zd HQW.out ?_;rintro e9 w12 ⟨⟨v,rfl,hv⟩,hb12⟩;have hK12:=(hb12.block D hDl3).trans hDW;have h12:=hBW.out.trans (hb12.mono hBW.out.size);have HV:=Zh (hv.put_ (o':= .deferred none) hK12 rfl);clear hv hb12;go_wp2;refine ⟨aS,.inl ⟨_,_,rfl,run_takeDeferred hK12,?_⟩⟩;refine ⟨_,by simp [results,Tryz.results20,go_sem]; exact rfl,?_⟩;refine ⟨⟨_,rfl,by first | exact .inr ⟨rfl,hfk3,HV.out⟩ | exact .inr ⟨hfk3,HV.out⟩ | exact ⟨rfl,hfk3,HV.out⟩ | exact ⟨hfk3,HV.out⟩ | exact HV.out⟩,h12.trans (belowK_b (w:=w) (Zr _) _ D _ _ aO hK12 rfl rfl)⟩
 ·have hne:(e != 0)=true:=bne_iff_ne.2 he0;have HE:=Zh he0;clear he0 hb1;gi_wp2;refine ⟨_,by simp [results,Tryz.results20,go_sem]; exact rfl,?_⟩;exact ⟨⟨_,rfl,.inl ⟨fun h=>HE.out h.1,rfl⟩⟩,HB1.out⟩
end Go.Proofs.YtflgngjocgiojaaGreat
namespace Go.Proofs.YtflgngjocgiojaaGreat
open Go.RowKit
set_option maxHeartbeats 8000000
set_option maxRecDepth 100000
theorem times_bad {w:World} {s1 s2:Bool} {A1 A2:Option Addr} {n1 c1 n2 c2:Nat} {p q:Int} (h1:NumAt w (.agg #[.bool s1,.slice A1 n1 c1]) p) (h2:NumAt w (.agg #[.bool s2,.slice A2 n2 c2]) q) :
 Calls Tryz.prog 45 #[.agg #[.bool s1,.slice A1 n1 c1,.bool s2,.slice A2 n2 c2]] w fun e w'=>e = .returned (.bool (!goodQ p q))/\Below w.heap.size w w':=by
 obtain ⟨o,ho⟩:=Zx (goodQ p q);rw [ho];have HO:=Zh ho;have H:=Zh (Zi h1 h2);clear h1 h2 ho;go_enter Tryz.func45,Tryz.ntmps45;have hW:=(Zb w.heap.size w).alloc (Zr _) (.cells #[.bool s1,.slice A1 n1 c1,.bool s2,.slice A2 n2 c2] 37);go_wp2_with fail;have q:=ratio_Right (w:=w.alloc (.cells #[.bool s1,.slice A1 n1 c1,.bool s2,.slice A2 n2 c2] 37)) ⟨_,_,_,_,_,_,_,_,rfl,H.out.1.below hW,H.out.2.below hW⟩;rw [HO.out] at q;refine Zd q ?_;clear q;rintro e w2 ⟨rfl,hb⟩;have HB:=Zh (hW.trans (hb.mono hW.size));clear hb hW;go_wp2;go_ret;exact ⟨rfl,HB.out⟩
theorem index_bad {w:World} {A:Option Addr} {n:Nat} {Q:Nat->QI} {p:Nat->Bool} (c:Nat) (hc:RatsA w A n Q) (hp:∀ i,i<n->p i=!goodQ (Q i).1 (Q i).2) (hn:n<=1000000) :
 Calls Tryz.prog 96 #[.slice A n c,.func (.func 45) #[] #[]] w fun e w'=>∃ r:Int,e = .returned (.int .i64 r)/\decide (0<=r)=anyF p n/\Below w.heap.size w w':=by
 have HP:=Zh hp;have HC:=Zh hc;clear hp hc;have hni:(n:Int)<=1000000:=aO
 go_enter Tryz.func96,Tryz.ntmps96;go_wp2;go_loopw [8] (fun i wr=>∃ k:Nat,k<=n/\i = .int .i64 k/\anyF p k=false/\Below w.heap.size w wr) (fun i _=>n - (intOf i).toNat)
 case atStart=>exact ⟨0,aO,rfl,rfl,Zb _ _⟩
 case round =>
  obtain ⟨k,hk,rfl,hA,hbel⟩:=hrel;have HA:=Zh hA;have hkb:=hbel.size;clear hA
  by_cases hlt:k<n
  ·have hlt2:(k:Int)<(n:Int):=aO
   obtain ⟨b,off,rfl,hb,hcell⟩:=HC.out aO;obtain ⟨s1,A1,n1,c1,s2,A2,n2,c2,f1,f2,f3,f4,NA,ND⟩:=hcell k hlt;have hbk:=hbel.block b hb;have e1:=(Zc (w:=w) (a:=⟨b,off+k*4,none⟩) hbk).trans f1;have e2:=(Zc (w:=w) (a:=⟨b,off+k*4+1,none⟩) hbk).trans f2;have e3:=(Zc (w:=w) (a:=⟨b,off+k*4+2,none⟩) hbk).trans f3;have e4:=(Zc (w:=w) (a:=⟨b,off+k*4+3,none⟩) hbk).trans f4;have HN:=Zh (Zi (NA.below hbel) (ND.below hbel));clear NA ND f1 f2 f3 f4 hbk;go_wp2_with fail;have q:=times_bad (w:=wr) HN.out.1 HN.out.2;rw [<- HP.out k hlt] at q;obtain ⟨o,ho⟩:=Zx (p k);rw [ho] at q;refine Zd q ?_;clear q;rintro e w2 ⟨rfl,hb2⟩;have B2:=Zh (hbel.trans (hb2.mono hkb));have HO:=Zh ho;clear hb2 ho;cases o
   ·go_wp2;go_roundw
    case rel=>exact ⟨k+1,aO,by go_num,by rw [anyF,HA.out,HO.out]; rfl,B2.out⟩
    case measure=>simp [intOf]; omega
   ·go_wp2;go_ret;exact ⟨_,rfl,by rw [anyF_of hlt HO.out]; exact decide_eq_true aO,B2.out⟩
  ·have hk2:k=n:=aO
   subst hk2;go_wp2;go_ret;exact ⟨_,rfl,by rw [HA.out]; rfl,hbel⟩
theorem contains_bad {w:World} {A:Option Addr} {n:Nat} {Q:Nat->QI} {p:Nat->Bool} (c:Nat) (hc:RatsA w A n Q) (hp:∀ i,i<n->p i=!goodQ (Q i).1 (Q i).2) (hn:n<=1000000) :
 Calls Tryz.prog 48 #[.slice A n c,.func (.func 45) #[] #[]] w fun e w'=>e = .returned (.bool (anyF p n))/\Below w.heap.size w w':=by
 have q:=index_bad c hc hp hn;obtain ⟨o,ho⟩:=Zx (anyF p n);rw [ho] at q ⊢;have Q:=Zh q;clear q ho hp hc;go_enter Tryz.func48,Tryz.ntmps48;go_wp2_with fail;refine Zd Q.out ?_;rintro e w2 ⟨r,rfl,hr,hb⟩;have HR:=Zh hr;have HB:=Zh hb;clear hr hb
 by_cases h0:0<=r
 ·have hr2:o=true:=by rw [<- HR.out]; exact decide_eq_true h0
  subst hr2;go_wp2;go_ret;exact ⟨rfl,HB.out⟩
 ·have hr2:o=false:=by rw [<- HR.out]; exact decide_eq_false h0
  subst hr2;go_wp2;go_ret;exact ⟨ret_bool (decide_eq_false aO),HB.out⟩
def sumT (R:List Int) (x:Nat->QI):Nat->QI
 | 0=>(0,1)
 | j+1=>addQ (sumT R x j) (mulQ (iAt R j,1) (x j))
structure TimesQ (M:List (List Int)) (x:Nat->QI) (m:Nat):Prop where
 val:∀ j,j<m->SmQ (x j)
 part:∀ k,k<M.length->∀ j,j<m->SmQ (mulQ (iAt (rAt M k) j,1) (x j))
 sum:∀ k,k<M.length->∀ j,j<=m->SmQ (sumT (rAt M k) x j)
theorem p_64:2^64<2^1000:=by decide +kernel
theorem sm_i64 {z:Int} (h1:-9223372036854775808<=z) (h2:z<=9223372036854775807):Sm z:=by
 unfold Sm;have:z.natAbs<2^64:=aO
 exact Nat.lt_trans this p_64
end Go.Proofs.YtflgngjocgiojaaGreat
