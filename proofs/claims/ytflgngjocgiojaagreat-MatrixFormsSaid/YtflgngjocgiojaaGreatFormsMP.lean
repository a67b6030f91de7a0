/- The statement MatrixForms: for every input the call returns true, and the arguments read as before. No condition. -/
import Derived.Test.YtflgngjocgiojaaGreatMfC
set_option linter.all false
namespace Go.Proofs.YtflgngjocgiojaaGreat
open Go.RowKit
set_option maxRecDepth 100000 in
set_option maxHeartbeats 16000000 in
theorem law05_Forms_walk {A Ab Aw Ar:Option Addr} {n cap nb cb nw cw nr cr:Nat} {l lb lr:List Int} {MW:List (List Int)} {x y t z:Int} (hx:0<=x) (hx2:x<=255) (hy:0<=y) (hy2:y<=255) (ht:0<=t) (ht2:t<=255) (hz:-9223372036854775808<=z) (hz2:z<=9223372036854775807) (hrc:nr<=cr) (w:World) (hl:SliceI w A n l) (hlb:SliceI w Ab nb lb) (hMW:RowsAt w Aw nw MW) (hlr:IntsAt w Ar nr lr) :
 Calls Tryz.prog 3 #[.agg #[.slice A n cap,.int .u8 x,.int .u8 y],.slice Ab nb cb,.int .u8 t,.int .i64 z,.slice Aw nw cw,.slice Ar nr cr] w fun e w'=>e = .returned (.bool true)/\Below w.heap.size w w':=by
 obtain ⟨i0,hi,hz0,hz1,hz2'⟩:=info_parts infoI;obtain ⟨i1,hi1,hy0,hy1,hy2'⟩:=info_parts infoIs;obtain ⟨qx,hqx⟩:=Zx (x%8);have e1:x.tmod 8=qx:=by rw [Int.tmod_eq_emod_of_nonneg hx,hqx]
 have b1:0<=qx/\qx<8:=aO
 have ww:IntKind.i64.wrap x=x:=by rw [IntKind.wrap_i64]; omega
 have wt:IntKind.i64.wrap t=t:=by rw [IntKind.wrap_i64]; omega
 obtain ⟨R,hR⟩:∃ r:Nat,1+qx=r:=⟨(1+qx).toNat,aO⟩;obtain ⟨m,hm⟩:∃ m:Nat,1+y%8=m:=⟨(1+y%8).toNat,aO⟩;have hR1:1<=R:=aO
 have hR8:R<=8:=aO
 have hRi:(R:Int)<=8:=aO
 have hRi1:(1:Int)<=(R:Int):=aO
 have hR0:((R:Int)==0)=false:=beq_eq_false_iff_ne.2 aO;obtain ⟨k,hk⟩:∃ k:Nat,t%R=k:=⟨(t%R).toNat,by have:=Int.emod_nonneg t (show (R:Int)≠0 by omega); omega⟩;have ek:t.tmod R=k:=by rw [Int.tmod_eq_emod_of_nonneg ht,hk]
 have hkR:k<R:=by have:=Int.emod_lt_of_pos t (show (0:Int)<R by omega); omega
 have hki:(k:Int)<(R:Int):=aO
 obtain ⟨q3,hq3⟩:=Zx (t%3);have e3:t.tmod 3=q3:=by rw [Int.tmod_eq_emod_of_nonneg ht,hq3]
 have b3:0<=q3/\q3<3:=aO
 obtain ⟨q16,hq16⟩:=Zx (t / 16);have e16:t.tdiv 16=q16:=by rw [Int.tdiv_eq_ediv_of_nonneg ht,hq16]
 have b16:0<=q16/\q16<=15:=aO
 obtain ⟨j,hj⟩:∃ j:Nat,q16%R=j:=⟨(q16%R).toNat,by have:=Int.emod_nonneg q16 (show (R:Int)≠0 by omega); omega⟩;have ej:q16.tmod R=j:=by rw [Int.tmod_eq_emod_of_nonneg aO,hj]
 have hjR:j<R:=by have:=Int.emod_lt_of_pos q16 (show (0:Int)<R by omega); omega
 have hji:(j:Int)<(R:Int):=aO
 have w16:IntKind.i64.wrap q16=q16:=by rw [IntKind.wrap_i64]; omega
 obtain ⟨q,hq⟩:=Zx (min nr 9);have hqi:min (nr:Int) 9=(q:Int):=aO
 have hqc:(q:Int)<=(cr:Int):=aO
 have hqn:q<=nr:=aO
 have hlr9:IntsAt w Ar q (lr.take q):=mfTake hlr hqn;have HRR:=Zh (Zi hR (Zi hm (Zi hqx (Zi hq3 (Zi hk (Zi hj hq16))))));have HL:=Zh (Zi hl (Zi hlb (Zi hMW hlr9)));have HXY:=Zh (Zi hx (Zi hx2 (Zi hy hy2)));clear hl hlb hMW hlr hlr9 hR hm hqx hq3 hk hj hq16 hq hy hy2;have hW:=(Zb w.heap.size w).alloc (Zr _) (.cells #[.slice A n cap,.int .u8 x,.int .u8 y] 24);have oC:Own (w.alloc (.cells #[.slice A n cap,.int .u8 x,.int .u8 y] 24)) w.heap.size #[.slice A n cap,.int .u8 x,.int .u8 y]:=aOwn;go_enter Tryz.func3,Tryz.ntmps3;go_wp2_with fail;generalize (w.alloc (.cells #[.slice A n cap,.int .u8 x,.int .u8 y] 24))=W0 at *;refine Zd (law05_sanity _) ?_;rintro e w1 ⟨rfl,hb⟩;have hw:=hW.trans (hb.mono hW.size);have pC:=oC.below hb;have pCc:=pC.cell;have pCf:=pC.thaw;have pCz:=pC.lt;clear hb hW oC;go_wp2_with fail;refine Zd (law05_made A n cap l x y R m HXY.out.1 HXY.out.2.1 HXY.out.2.2.1 HXY.out.2.2.2 (by rw [HRR.out.2.2.1]; exact HRR.out.1) HRR.out.2.1 _ (HL.out.1.below hw)) ?_;rintro e w2 ⟨⟨gM,cM,M1,rfl,hM1,hM2,hRM,hMM,hgM,xs1,hOR1,hOR2⟩,hb⟩;obtain ⟨B1,hB1⟩:=Zx (w1.heap.size+2);rw [hB1,hMM.len] at hOR1;have hgMz:gM<w2.heap.size:=ownBlock_lt hOR1 rfl;have hs1:RowsW (fun b=>b≠gM) w2 xs1 M1:=hOR2.move (Zr _) fun b _ hX=>⟨rfl,fun e=>hX.2 (by rw [e]; rfl)⟩
 have hB1z:B1<=w2.heap.size:=by
  have h1:=ownBlock_ge (g:=gM) hOR1 rfl;have h2:=ownBlock_lt (b:=gM) hOR1 rfl;omega
 have hw2:=hw.trans (hb.mono hw.size);have HM:=Zh (Zi hRM (Zi hOR1 (Zi hs1 hM1)));have HB1:=Zh (Zi hB1z (Zi (show w.heap.size<=B1 by have:=hw.size; omega) hgMz));have pC2:=pC.below hb;clear pC pCc pCf pCz hb hw hRM hMM hgM hOR1 hOR2 hs1 hB1 hB1z hM1 hM2 hgMz;obtain ⟨LC,hLC⟩:=Zx ((cutM MW).length);have HLC:=Zh hLC;clear hLC;go_upto_region 3 with fail
 go_cut [4,5] from 22 to 28 (fun s4 s5 wx=>∃ (Ac:Option Addr) (cc:Nat) (xsC:List Value),s4 = .slice Ac LC cc/\s5 = .slice Ar q cr/\Below w2.heap.size w2 wx/\wx.ownsRow w2.heap.size 22 1 (.slice Ac LC cc) LC xsC/\StatR w xsC (cutM MW)/\(LC=0->Ac=none/\cc=0))
 case first =>
  have HC:=Zh (fun (u:World) (hu:Keeps [] w2 u)=>law05_cut (w0:=w) (w:=u) cw HL.out.2.2.1 ⟨Zm hw2.size hu.1,fun b hb ht=>(hu.2 b (Zl hb hw2.size) ht).trans (hw2.block b hb)⟩)
  by_cases h0:LC=0
  ·have HC0:Hid (∀ u:World,Keeps [] w2 u->Calls Tryz.prog 11 #[.slice Aw nw cw] u fun e u'=>e = .returned (.slice none 0 0)/\Below u.heap.size u u'):=Zh fun u hu=>(HC.out u hu).mono fun e u' ⟨⟨v,xs,h1,_,_,h4⟩,hb⟩=>⟨by rw [h1,h4 (HLC.out.trans h0)],hb⟩
   clear HC;refine region_late 7 [] aK aK (by rfl) ?_;apply Zs;refine ⟨fun v hv hne=>?_,fun u hu=>?_⟩
   ·simp only [List.take_succ_cons,List.take_zero];have hc:=fun y:Later [] w2 v=>HC0.out y.u y.h
    repeat (go_big_quiet_step ((go_at_call 11; with_reducible exact lateB (hc _))))
    refine wpQuiet_nil ?_;exact rfl
   ·simp only [List.drop_succ_cons,List.drop_zero]
    (try simp only [LN])
    have hkT:=Keeps.of_below (T:=[]) hu;refine late_mem (fun K hK=>?_);go_simp;refine hK _ _ hkT (fun u1 hu1=>?_);clear hK K;have hk1:=hkT.later hu1;have hu1':=hu.trans (hu1.mono hu.size);refine late_mem (fun K hK=>?_);go_simp;refine hK _ _ hk1 (fun u2 hu2=>?_);clear hK K;have HU:=Zh (hu1'.trans (hu2.mono hu1'.size));clear hu hu1 hu1' hu2 hkT hk1;refine late_nil ?_
    (try simp only [LN])
    go_wp2_with fail;go_meet
    case rel=>exact ⟨none,0,[],by rw [h0],rfl,HU.out,by rw [h0]; exact ⟨rfl,.inl ⟨rfl,rfl⟩⟩,by rw [show cutM MW=[] from List.eq_nil_of_length_eq_zero (HLC.out.trans h0)]; exact StatR.nil _,fun _=>⟨rfl,rfl⟩⟩
  ·have HC1:Hid (∀ u:World,Keeps [] w2 u->Calls Tryz.prog 11 #[.slice Aw nw cw] u fun e u'=>(∃ g c xs,e = .returned (.slice (some ⟨g,0,none⟩) LC c)/\u'.ownsRow w2.heap.size 22 1 (.slice (some ⟨g,0,none⟩) LC c) LC xs/\StatR w xs (cutM MW)/\u.heap.size<=g/\g<u'.heap.size)/\Below u.heap.size u u'):=Zh fun u hu=>(HC.out u hu).mono fun e u' ⟨⟨v,xs,h1,h2,h3,_⟩,hb⟩=>by
    rw [HLC.out] at h2;obtain ⟨g,c,e1,r1,r2,r3⟩:=cut_cases h2 hu.1 aO;exact ⟨⟨g,c,xs,by rw [h1,e1],r1,h3,r2,r3⟩,hb⟩
   clear HC;refine region_gen (T:=[]) [.make 1 [] (cutB w w2.heap.size LC (cutM MW))] 7 0 40 (fun _ _=>True) (fun _ _ _ _ _=>trivial) trivial aK aK (by rfl) ?_;unfold genWalk;apply Zs;apply Zi
   ·apply Piece.mk
    ·intro f v hv hr hne;simp only [List.take_succ_cons,List.take_zero,List.drop_succ_cons,List.drop_zero,Nat.reduceSub,Nat.reduceAdd]
     repeat (go_big_quiet_step (fail))
     refine wpQuiet_nil ?_;exact rfl
    ·intro f; kernel_rfl
    ·intro f f' hf; kernel_rfl
   simp only [List.take_succ_cons,List.take_zero,List.drop_succ_cons,List.drop_zero,Nat.reduceSub,Nat.reduceAdd,oneOp];refine ⟨fun f=>⟨rfl,fun u hu _=>?_⟩,?_⟩
   ·refine make_call (f:=11) (args:=#[.slice Aw nw cw]) (by (try simp only [LN]); (try simp only [cutB_val]); go_simp) ?_;refine (HC1.out u hu).mono ?_;rintro e wx ⟨⟨g,c,xs,rfl,r2,r3,r4,r5⟩,hbx⟩;exact ⟨(g,c),rfl,r4,r5,hbx,xs,r2,r3⟩
   unfold genWalk;apply Zs;apply Zi
   ·apply Piece.mk
    ·intro f v hv hr hne;simp only [List.take_succ_cons,List.take_zero,List.drop_succ_cons,List.drop_zero,Nat.reduceSub,Nat.reduceAdd]
     (try simp only [LN])
     (try simp only [cutB_val])
     repeat (go_big_quiet_step (fail))
     refine wpQuiet_nil ?_;exact rfl
    ·intro f; kernel_rfl
    ·intro f f' hf; simp
   intro f u' hup hph hmade hdist;obtain ⟨⟨xsC,oR,hxC⟩,_,_⟩:=hmade 1 aO rfl;have HXC:=Zh hxC;have hU:=Upd.below (Zb w2.heap.size w2) hup aS;have hkT:=Upd.keeps (Keeps.refl _ _) hup;replace oR:u'.ownsRow w2.heap.size 22 1 (.slice (some ⟨(f 1).1,0,none⟩) LC (f 1).2) LC xsC:=oR;clear hxC hmade hdist hph hup;simp only [List.take_succ_cons,List.take_zero,List.drop_succ_cons,List.drop_zero,Nat.reduceSub,Nat.reduceAdd]
   (try simp only [LN])
   (try simp only [cutB_val])
   generalize (f 1).1=gC at *;generalize (f 1).2=cC at *;clear f;have HOR:=Zh oR;have HUU:=Zh hU;clear oR hU;refine effc_mem (by rfl) (fun K hK=>?_);go_simp;refine hK _ _ hkT (fun u1 hu1=>?_);clear hK K;have hk1:=hkT.later hu1;have HO1:=Zh (Zi (HUU.out.trans (hu1.mono HUU.out.size)) (ownsRow_stay HOR.out hu1));clear HOR HUU hkT hu1;refine effc_mem (by rfl) (fun K hK=>?_);go_simp;refine hK _ _ hk1 (fun u2 hu2=>?_);clear hK K;have HU:=Zh (Zi (HO1.out.1.trans (hu2.mono HO1.out.1.size)) (ownsRow_stay HO1.out.2 hu2));clear HO1 hk1 hu2;refine effc_nil ?_
   (try simp only [LN])
   go_wp2_with fail;go_meet
   case rel=>exact ⟨some ⟨gC,0,none⟩,cC,xsC,rfl,rfl,HU.out.1,HU.out.2,HXC.out,fun e=>absurd e h0⟩
 case rest =>
  obtain ⟨Ac,cc,xsC,rfl,rfl,hbc,hRC,hsC,hC0⟩:=hcut;have hz23:=hbc.size;have hw3:=hw2.trans (hbc.mono hw2.size);have HM3:=Zh (Zi (HM.out.1.below hbc) (Zi (ownsRow_stay HM.out.2.1 hbc) (Zi (HM.out.2.2.1.below hbc) HM.out.2.2.2)));have HRC:=Zh (Zi hRC (Zi hsC hC0));have pC:=pC2.below hbc;have pCc:=pC.cell;have pCf:=pC.thaw;have pCz:=pC.lt;have hRq:=HRR.out.1;clear hw2 hbc HM hRC hsC hC0 pC2;go_wp2_with fail;refine Zd (ref5_Made A n cap l R R hR1 hR8 hR1 hR8 _ (HL.out.1.below hw3)) ?_;rintro e w4 ⟨⟨gS,cS,M2,rfl,hS1,hS2,hRS,hS3,hgS,_⟩,hb⟩;have hw4:=hw3.trans (hb.mono hw3.size);obtain ⟨xs2,hst2,hxs2⟩:=rows_stat hRS;obtain ⟨hgSz,hnews⟩:=hxs2 gS 0 rfl hR1;have hxl:xs2.length=R*1:=by rw [hst2.1,hRS.len]; omega
  have hone:=hst2.one;have hnew5:=hnews (w4.alloc (.cells #[] 22)) (Below.heap_alloc _ _ _ hgSz);have HM4:=Zh (Zi (HM3.out.1.below hb) (Zi (ownsRow_stay HM3.out.2.1 hb) (Zi (HM3.out.2.2.1.below hb) HM3.out.2.2.2)));have HRC4:=Zh (Zi (ownsRow_stay HRC.out.1 hb) HRC.out.2);have HB4:=Zh (show w.heap.size<=w4.heap.size/\w2.heap.size<=w4.heap.size from ⟨hw4.size,Zm hz23 hb.size⟩);have HW4:=Zh hw4;have HS:=Zh (Zi hRS (Zi hS3 (Zi hst2 (show M2.length=R from hRS.len))));clear hz23 hRq hb hw3 HM3 HRC hRS hS3 hgS hst2 hxs2 hnews pC pCc pCf pCz;go_wp2_with (at_builtin; refine wpList_append_lies _ rfl _ _ _ (by rfl) w4.heap.size 22 i1 (.slice none 0 0) 1 24 Tryz.underlying25 hi1 hy0 hy1 hy2' rfl aO _ 0 [] (by rfl) (mf_empty (Zr _)) ⟨gS,0,none⟩ R cS xs2 (by rfl) hxl hnew5 hone aO ?c3 ?c4 ?c5 (w4.heap.size+1) aS ?_)
  case c3=>unfold maxLen; omega
  case c4=>omega
  case c5=>simp
  intro gO cO w5 ho hg hat hlt
  try simp only [Nat.zero_add,List.nil_append] at ho
  try simp only [Nat.zero_add]
  have hb5:Below w4.heap.size w4 w5:=Below.grown ((Zb _ _).alloc (Zr _) _) hg aS (fun y hy=>by simp [Value.ownBlock] at hy; omega);obtain ⟨hO1,hO2,hO3,hO4,cur,oO,hcur⟩:=own_of_row ho hR1;obtain ⟨Bk,mk,ck,hxk,hmk,hck,hIk⟩:=HS.out.2.2.1.2 k (by rw [HS.out.2.2.2]; exact hkR);have hrl:(rAt M2 k).length=R:=(HS.out.2.1 k hkR).1;obtain rfl:R=mk:=hrl.symm.trans hIk.len;have hIL:I64L (rAt M2 k):=hIk.ok;obtain ⟨bk,ok,rfl,hbk,hnk⟩:=ints_news (hIk.below hb5) hR1;have hn6:=hnk (w5.alloc (.cells #[] 3)) (Below.heap_alloc _ _ _ hbk);have hq5:w5.cell? ⟨gO,k,none⟩=some (.slice (some ⟨bk,ok,none⟩) R ck):=(oO.cell k).trans ((hcur k hkR).trans hxk);have hq6:(w5.alloc (.cells #[] 3)).cell? ⟨gO,k,none⟩=some (.slice (some ⟨bk,ok,none⟩) R ck):=(Zc (a:=⟨gO,k,none⟩) (Below.heap_alloc _ _ _ hO2)).trans hq5;have hcs:k<cur.size:=(Zt.1 ((hcur k hkR).trans hxk)).1;have hel:(encI (rAt M2 k)).length=R*1:=by rw [encI_len,hrl]; omega
  have hw5:=hw4.trans (hb5.mono hw4.size);have HO5:=Zh (Zi ho (Zi oO (Zi hb5 (Zi hO1 (Zi hcs (Zi hIL hrl))))));have hOci:(R:Int)<=(cO:Int):=aO
  clear hnk hIk hxk hcur oO ho hg hat hlt hxl hone hnew5 hw4 hrl hIL hcs hbk hb5 hgSz;go_wp2_with (at_builtin; refine wpList_append_lies _ rfl _ _ _ (by rfl) w5.heap.size 3 i0 (.int .i64 0) 1 8 Tryz.underlying22 hi hz0 hz1 hz2' rfl aO _ 0 [] (by rfl) (mf_empty (Zr _)) ⟨bk,ok,none⟩ R ck (encI (rAt M2 k)) (by rfl) hel hn6 (encI_one _) aO ?c3 ?c4 ?c5 (w5.heap.size+1) aS ?_)
  case c3=>unfold maxLen; omega
  case c4=>omega
  case c5=>simp
  intro gR cR w6 ho hg hat hlt
  try simp only [Nat.zero_add,List.nil_append] at ho
  try simp only [Nat.zero_add]
  have hb6:Below w5.heap.size w5 w6:=Below.grown ((Zb _ _).alloc (Zr _) _) hg aS (fun y hy=>by simp [Value.ownBlock] at hy; omega);have oO6:=HO5.out.2.1.below hb6;have oO6c:w6.cell? ⟨gO,k,none⟩=some (.slice (some ⟨bk,ok,none⟩) R ck):=(Zc (a:=⟨gO,k,none⟩) (hb6.block gO hO2)).trans hq5;have oO6f:=oO6.thaw;have oO6z:=oO6.lt;have hw6:=hw5.trans (hb6.mono hw5.size);obtain ⟨hR2,hR3,_,_,cuR,oR,_⟩:=own_of_row ho hR1;have HR6:=Zh (Zi ho oR);have hb46:=HO5.out.2.2.1.trans (hb6.mono HO5.out.2.2.1.size);have HB6:=Zh (Zi hb6 hb46);clear hn6 hq5 hq6 hel ho oR hg hat hlt hb6 hw5 hb46;go_upto_region 8 with fail
  have hgg:gR≠gO:=aO
  have oO7:Own (w6.setCell ⟨gO,k,none⟩ (.slice (some ⟨gR,0,none⟩) R cR)) gO (cur.setIfInBounds k (.slice (some ⟨gR,0,none⟩) R cR)):=oO6.set k _;have q7:(w6.setCell ⟨gO,k,none⟩ (.slice (some ⟨gR,0,none⟩) R cR)).cell? ⟨gO,k,none⟩=some (.slice (some ⟨gR,0,none⟩) R cR):=by rw [oO7.cell k,Array.getElem?_setIfInBounds_self_of_lt HO5.out.2.2.2.2.1]
  have oR7:Own (w6.setCell ⟨gO,k,none⟩ (.slice (some ⟨gR,0,none⟩) R cR)) gR cuR:=HR6.out.2.far (p:=⟨gO,k,none⟩) hgg _;have ho7:(w6.setCell ⟨gO,k,none⟩ (.slice (some ⟨gR,0,none⟩) R cR)).ownsRow w4.heap.size 22 1 (.slice (some ⟨gO,0,none⟩) R cO) R (xs2.set k (.slice (some ⟨gR,0,none⟩) R cR)):=ownsRow_put (ownsRow_stay HO5.out.1 HB6.out.1) hkR _;have hi7:(w6.setCell ⟨gO,k,none⟩ (.slice (some ⟨gR,0,none⟩) R cR)).ownsRow w5.heap.size 3 1 (.slice (some ⟨gR,0,none⟩) R cR) R (encI (rAt M2 k)):=ownsRow_at HR6.out.1 (Below.heap_setCell _ _ _ _ hgg);have hb47:Below w4.heap.size w4 (w6.setCell ⟨gO,k,none⟩ (.slice (some ⟨gR,0,none⟩) R cR)):=HB6.out.2.setCell (p:=⟨gO,k,none⟩) HO5.out.2.2.2.1 _;have hw7:Below w.heap.size w (w6.setCell ⟨gO,k,none⟩ (.slice (some ⟨gR,0,none⟩) R cR)):=hw6.setCell (p:=⟨gO,k,none⟩) (by have:=HO5.out.2.2.2.1; have:=HB4.out.1; simp; omega) _;have hm7:Below w4.heap.size w4 (w6.setCell ⟨gO,k,none⟩ (.slice (some ⟨gR,0,none⟩) R cR))/\w5.heap.size<=(w6.setCell ⟨gO,k,none⟩ (.slice (some ⟨gR,0,none⟩) R cR)).heap.size:=⟨hb47,by have:=HB6.out.1.size; simpa [World.setCell] using this⟩;generalize (w6.setCell ⟨gO,k,none⟩ (.slice (some ⟨gR,0,none⟩) R cR))=w7 at *;obtain ⟨B5,hB5⟩:=Zx (w5.heap.size);rw [hB5] at hi7 hm7 hR2 hO2;have HI7:=Zh (Zi hi7 (Zi ho7 (Zi hm7.1 (Zi HO5.out.2.2.2.2.2.1 HO5.out.2.2.2.2.2.2))));have H7:=Zh (Zi oO7 oR7);have hB5z:B5<=w7.heap.size:=hm7.2;have HW7:=Zh hw7;have HOz:=HO5.out.2.2.2.1;clear oO7 oR7 ho7 hi7 hm7 hb47 hw7 hB5 oO6 oO6c oO6f oO6z HR6 HB6 HO5 hw6;go_upto_if 61 with fail
  go_cut [] from 59 to 86 (fun wx=>∃ MO:List (List Int),RowsAt wx (some ⟨gO,0,none⟩) R MO/\Below w4.heap.size w4 wx)
  case first =>
   by_cases h3:q3=0
   ·have h3e:(q3==0)=true:=beq_iff_eq.2 h3;clear h3;have q7b:(w7.alloc (.cells #[.int .i64 z] 3)).cell? ⟨gO,k,none⟩=some (.slice (some ⟨gR,0,none⟩) R cR):=(Zc (a:=⟨gO,k,none⟩) (Below.heap_alloc _ _ _ H7.out.1.lt)).trans q7;have hgo7:=H7.out.1.lt;go_wp2_with (at_builtin; refine wpList_append_lies _ rfl _ _ _ (by rfl) B5 3 i0 (.int .i64 0) 1 8 Tryz.underlying22 hi hz0 hz1 hz2' rfl aO _ R (encI (rAt M2 k)) (by rfl) (HI7.out.1.alloc _) ⟨w7.heap.size,0,none⟩ 1 1 [.int .i64 z] (by rfl) rfl ?c1 ?c2 aO ?c3 ?c4 ?c5 (w7.heap.size+1) aS ?_)
    case c1=>exact World.news_of_block (heap_alloc_new w7 _)
    case c2=>intro u hu; simp at hu; subst hu; rfl
    case c3=>unfold maxLen; omega
    case c4=>omega
    case c5=>simp; omega
    intro g8 c8 w8 ho hg hat hlt;have hb8:Below B5 w7 w8:=Below.grown ((Zb _ _).alloc (Zr _) _ |>.mono hB5z) hg aT (fun y hy=>ownBlock_ge HI7.out.1 hy);have hg8:B5<=g8:=ownBlock_ge (g:=g8) ho rfl;have oO8:Own w8 gO _:=H7.out.1.of_block (hb8.block gO hO2);have oO8c:w8.cell? ⟨gO,k,none⟩=some (.slice (some ⟨gR,0,none⟩) R cR):=(Zc (a:=⟨gO,k,none⟩) (hb8.block gO hO2)).trans q7;have oO8f:=oO8.thaw;have oO8z:=oO8.lt;have hI8:=ints_own (by rw [encI_snoc] at ho; exact ho) (by rw [List.length_append,HI7.out.2.2.2.2]; rfl) (i64_snoc HI7.out.2.2.2.1 hz hz2);have HO8:=Zh (Zi (ownsRow_at HI7.out.2.1 (hb8.block gO hO2)) (Zi hI8 (Zi (HI7.out.2.2.1.trans (hb8.mono aO)) hlt)));clear ho hg hat hlt q7 q7b hb8 oO8 hI8;go_wp2_with fail;go_meet
    case rel =>
     have hne:g8≠gO:=aO
     have ho9:=ownsRow_put HO8.out.1 hkR (.slice (some ⟨g8,0,none⟩) (R+1) c8);rw [List.set_set] at ho9;have hbF:Below w4.heap.size w4 (w8.setCell ⟨gO,k,none⟩ (.slice (some ⟨g8,0,none⟩) (R+1) c8)):=HO8.out.2.2.1.setCell (p:=⟨gO,k,none⟩) HOz _;have hst:=(HS.out.2.2.1.below hbF).set (k:=k) HO8.out.2.1.2.1 HO8.out.2.1.2.2 (HO8.out.2.1.1.same (by simp [World.setCell]) (fun b off e=>by cases e; exact Below.heap_setCell _ _ _ _ hne));obtain ⟨A9,c9,e9,r1,r2,r3⟩:=rowsAt_of ho9 hst (by rw [List.length_set,HS.out.2.2.2]);injection e9 with a1 a2 a3
     subst a1;exact ⟨_,r3,hbF⟩
   ·have h3e:(q3==0)=false:=beq_eq_false_iff_ne.2 h3;have oRf:=H7.out.2.thaw;have hRz:=H7.out.2.lt;have hgo7:=H7.out.1.lt;have hI7:=ints_own HI7.out.1 HI7.out.2.2.2.2 HI7.out.2.2.2.1;have qj:w7.cell? ⟨gR,j,none⟩=some (.int .i64 (iAt (rAt M2 k) j)):=by
     obtain ⟨b,off,e,_,h2⟩:=hI7.1.row hR1;cases e;have h3:=h2 j hjR;rw [Nat.zero_add] at h3;exact h3
    clear h3 hI7;go_wp2_with fail;go_region;go_wp2_with fail;go_meet
    case rel =>
     have hgR:w4.heap.size<=gR:=aO
     have ho9:(w7.setCell ⟨gR,j,none⟩ (.int .i64 z)).drew.ownsRow w4.heap.size 22 1 (.slice (some ⟨gO,0,none⟩) R cO) R (xs2.set k (.slice (some ⟨gR,0,none⟩) R cR)):=ownsRow_at HI7.out.2.1 (Below.heap_setCell w7 ⟨gR,j,none⟩ (.int .i64 z) gO (fun e=>hgg e.symm));have hi9:=ownsRow_put HI7.out.1 hjR (.int .i64 z);rw [encI_set] at hi9;have hI9:=ints_own hi9 (by rw [List.length_set]; exact HI7.out.2.2.2.2) (i64_set HI7.out.2.2.2.1 hz hz2);have hbF:Below w4.heap.size w4 (w7.setCell ⟨gR,j,none⟩ (.int .i64 z)).drew:=(HI7.out.2.2.1.setCell (p:=⟨gR,j,none⟩) hgR _).drew;have hst:=(HS.out.2.2.1.below hbF).set (k:=k) hI9.2.1 hI9.2.2 (hI9.1.same (w':=(w7.setCell ⟨gR,j,none⟩ (.int .i64 z)).drew) (by simp [World.drew]) (fun b off e=>rfl));obtain ⟨A9,c9,e9,r1,r2,r3⟩:=rowsAt_of ho9 hst (by rw [List.length_set,HS.out.2.2.2]);injection e9 with a1 a2 a3
     subst a1;exact ⟨_,r3,hbF⟩
  case rest =>
   obtain ⟨MO,hMO,hbc⟩:=hcut;have hw8:=HW4.out.trans (hbc.mono HW4.out.size);have HT:=Zh (Zi (HM4.out.1.below hbc) (Zi (ownsRow_stay HM4.out.2.1 hbc) (Zi (HM4.out.2.2.1.below hbc) (Zi (HS.out.1.below hbc) (Zi hMO (ownsRow_stay HRC4.out.1 hbc))))));have hz28:=Zm HB4.out.2 hbc.size;have hMc:=HM4.out.2.2.2;have HNN:=Zh HRC4.out.2.2;have HSC:=Zh HRC4.out.2.1;have hq9:q<=9:=aO
   have HBB:=Zh HB1.out;clear hMO hbc HW4 HB4 HM4 HRC4 HS HB1;go_wp2_with fail;refine Zd (law05_right Ab nb cb lb R hR1 hR8 _ (HL.out.2.1.below hw8)) ?_;rintro e w9 ⟨⟨gW,cW,bW,rfl,_,_,hIW,_,hgW,_⟩,hb⟩;have hw9:=hw8.trans (hb.mono hw8.size);have HS9:Hid (MfS w9 B1 gM cM R xs1 M1 gS M2 gO MO gW bW w2.heap.size Ac LC cc xsC):=Zh ⟨HT.out.1.below hb,ownsRow_stay HT.out.2.1 hb,HT.out.2.2.1.below hb,HT.out.2.2.2.1.below hb,HT.out.2.2.2.2.1.below hb,hIW,ownsRow_stay HT.out.2.2.2.2.2 hb⟩;have hWM:gW≠gM:=by have:=HBB.out.2.2; omega
   clear HT hIW hb hw8 hz28 hgW;go_wp2_with fail;refine Zd (law05_right Ab nb cb lb R hR1 hR8 _ (HL.out.2.1.below hw9)) ?_;rintro e w10 ⟨⟨gV,cV,bV,rfl,_,_,hIV,_,_,_⟩,hb⟩;have hw10:=hw9.trans (hb.mono hw9.size);have HS10:=Zh (HS9.out.below hb);have HV:=Zh hIV;clear HS9 hb hw9 hIV;go_wp2_with fail;refine Zd (law05_same cM cV HS10.out.rows HV.out aO) ?_;rintro e w11 ⟨rfl,hb⟩;have hw11:=hw10.trans (hb.mono hw10.size);have HS11:=Zh (HS10.out.below hb);clear HS10 hb hw10;clear HV;go_wp2_with fail;refine Zd (law05_same cS cW HS11.out.sq HS11.out.rgt aO) ?_;rintro e w12 ⟨rfl,hb⟩;have hw12:=hw11.trans (hb.mono hw11.size);have HS12:=Zh (HS11.out.below hb);clear HS11 hb hw11;go_wp2_with fail;refine Zd (law05_same cS cr HS12.out.sq (HL.out.2.2.2.below hw12) aO) ?_;rintro e w13 ⟨rfl,hb⟩;have hw13:=hw12.trans (hb.mono hw12.size);have HS13:=Zh (HS12.out.below hb);clear HS12 hb hw12;go_wp2_with fail;refine Zd (law05_same cO cW HS13.out.odd HS13.out.rgt aO) ?_;rintro e w14 ⟨rfl,hb⟩;have hw14:=hw13.trans (hb.mono hw13.size);have HS14:=Zh (HS13.out.below hb);clear HS13 hb hw13
   by_cases h0:LC=0
   ·obtain ⟨rfl,rfl⟩:=HNN.out h0;subst h0;go_wp2_with (at_builtin; refine wpList_append_none_w _ (by rfl) _ _ _ (by rfl) 22 i1 Tryz.underlying25 hi1 gM R cM none 0 (by rfl) (by rfl) hMc ?_);refine Zd (law05_same cM cW HS14.out.rows HS14.out.rgt aO) ?_;rintro e w15 ⟨rfl,hb⟩;have hw15:=hw14.trans (hb.mono hw14.size);have HR15:=Zh (rowsAt_own (ownsRow_stay HS14.out.raw hb) (HSC.out.below hw15) HLC.out);clear HS14 hb hw14;go_wp2_with fail;refine Zd (law05_same 0 cr HR15.out (HL.out.2.2.2.below hw15) aO) ?_;rintro e w16 ⟨rfl,hb⟩;have hw16:=hw15.trans (hb.mono hw15.size);clear hb hw15;go_wp2;go_ret;exact ⟨by first | rfl | simp,hw16⟩
   ·obtain ⟨gC,cC,e1,_,hgC,_⟩:=cut_cases HS14.out.raw (Zr _) aO;injection e1 with a1 a2 a3
    subst a1; subst a3;clear a2;have hLC:LC<=50:=by have:=HLC.out; rw [cutM_len] at this; omega
    obtain ⟨hxcl,hxcn⟩:=news_own HS14.out.raw aO;have hxl:xsC.length=LC*1:=aO
    have hone:=HSC.out.one;have hB1w:B1<=w14.heap.size:=by
     have h1:=ownBlock_ge (g:=gM) HS14.out.own rfl;have h2:=ownBlock_lt (b:=gM) HS14.out.own rfl;omega
    have hown:=HS14.out.own;go_wp2_with (at_builtin; refine wpList_append_w _ (by rfl) _ _ _ (by rfl) B1 22 i1 (.slice none 0 0) 1 24 Tryz.underlying25 hi1 hy0 hy1 hy2' rfl aO _ R xs1 (by rfl) hown ⟨gC,0,none⟩ LC cc xsC (by rfl) hxl hxcn hone aO ?c4 ?c5 hB1w w14.heap.size rfl ?_)
    case c4=>unfold maxLen; omega
    case c5=>omega
    intro g8 c8 w15 ho hg hat hlt;have hgM:w.heap.size<=gM:=by have:=ownBlock_ge (g:=gM) hown rfl; have:=HBB.out.2.1; omega
    have hw15:Below w.heap.size w w15:=Below.grown hw14 hg hw14.size (fun y hy=>by cases hy; exact hgM);have hst:StatR w15 xs1 M1:=stat_of_rows (HS14.out.st.move hg.size fun b h1 h2=>⟨hg.block b h1 (fun e=>h2 (by cases e; rfl)),h2⟩);have hrg:=HS14.out.rgt.same hg.size (fun b off e=>by cases e; exact hg.block gW (by obtain ⟨b',off',e',h',_⟩:=HS14.out.rgt.row hR1; cases e'; exact h') (fun e=>hWM (by cases e; rfl)));have hra:=ownsRow_at HS14.out.raw (hg.block gC (ownBlock_lt (b:=gC) HS14.out.raw rfl) (fun e=>by have e:=Option.some.inj e; have:=HBB.out.2.2; simp at e; omega));have hrA:=rowsAt_own ho (hst.app (HSC.out.below hw15)) (by rw [List.length_append,HLC.out,HS14.out.rows.len]);have HR15:=Zh (Zi hrA (Zi hrg (rowsAt_own hra (HSC.out.below hw15) HLC.out)));clear ho hg hat hlt hst hrg hra hrA HS14 hw14 hxcn hone hown hxl hxcl;go_wp2_with fail;refine Zd (law05_same c8 cW HR15.out.1 HR15.out.2.1 aO) ?_;rintro e w16 ⟨rfl,hb⟩;have hw16:=hw15.trans (hb.mono hw15.size);have HR16:=Zh (HR15.out.2.2.below hb);clear HR15 hb hw15;go_wp2_with fail;refine Zd (law05_same cc cr HR16.out (HL.out.2.2.2.below hw16) aO) ?_;rintro e w17 ⟨rfl,hb⟩;have hw17:=hw16.trans (hb.mono hw16.size);clear hb hw16;go_wp2;go_ret;exact ⟨by first | rfl | simp,hw17⟩
end Go.Proofs.YtflgngjocgiojaaGreat
namespace Go.Proofs.YtflgngjocgiojaaGreat.matrixFormsDone
open Go.ChangeShapes Go.WideShapes Go.ChangeAt Go.RowKit
set_option maxRecDepth 100000 in
theorem lifted (os:Os) (started:os.Started) (H:Type) (enc:TypeId×Value->H) :
 ReturnsInHanded {} Tryz.checked os 3 .any (Rows.matrixFormsSpec.pre6 enc Tryz.prog Tryz.f3 Rows.matrixFormsRow.domain false) (Rows.matrixFormsSpec.post enc Tryz.prog Tryz.f3 false true false false):=by
 refine returnsInHanded_of_change (C:=Tryz.checked) own started aK Tryz.func3
  (ChangeSpec.witness6 (enc:=enc) (C:=Tryz.checked) false ⟨#[],#[.agg #[.slice none 0 0,.int .u8 0,.int .u8 0],.slice none 0 0,.int .u8 0,.int .i64 0,.slice none 0 0,.slice none 0 0],[]⟩ 8 aK aK aK aK) ?_
 intro W base args ds gs before hval0 hW hcnd _;have hval:∀ (j:Nat) t v,Tryz.f3.params[j]?=some t->args[j]?=some v->Value.okWide Tryz.prog W .any base t v:=hval0;have hW':=hW;obtain ⟨p,q,hA0,hV,rfl,hfz,hnd⟩:=hW;have hA:DataW.TrodAll enc Tryz.prog W 0 (fun _=>true) true Tryz.f3.params.toList args.toList ds p:=hA0;rw [Tryz.params3] at hA hval;obtain ⟨v0,vs0,d0,ds0,p0,q0,hargs,rfl,rfl,h0,r0⟩:=trodAll_cons hA;obtain ⟨v1,vs1,d1,ds1,p1,q1,rfl,rfl,rfl,h1,r1⟩:=trodAll_cons r0;obtain ⟨v2,vs2,d2,ds2,p2,q2,rfl,rfl,rfl,h2,r2⟩:=trodAll_cons r1;obtain ⟨v3,vs3,d3,ds3,p3,q3,rfl,rfl,rfl,h3,r3⟩:=trodAll_cons r2;obtain ⟨v4,vs4,d4,ds4,p4,q4,rfl,rfl,rfl,h4,r4⟩:=trodAll_cons r3;obtain ⟨v5,vs5,d5,ds5,p5,q5,rfl,rfl,rfl,h5,r5⟩:=trodAll_cons r4;obtain ⟨rfl,rfl,rfl⟩:=trodAll_nil r5;obtain rfl:args=#[v0,v1,v2,v3,v4,v5]:=by cases args; simp_all
 obtain ⟨rfl,rfl⟩:=trodVars_none hV;obtain ⟨a1,len1,cap1,rfl⟩:=okWide_slice Tryz.underlying22 (hval 1 22 v1 rfl rfl);obtain ⟨a4,len4,cap4,rfl⟩:=okWide_slice Tryz.underlying25 (hval 4 25 v4 rfl rfl);obtain ⟨a5,len5,cap5,rfl⟩:=okWide_slice Tryz.underlying22 (hval 5 22 v5 rfl rfl);have k0:=h0;have lt0:∀ x∈p0,x.block<W.heap.size:=by obtain ⟨m,hm⟩:=k0; exact DataW.trod_lt m _ _ _ hm
 have k1:=h1;have lt1:∀ x∈p1,x.block<W.heap.size:=by obtain ⟨m,hm⟩:=k1; exact DataW.trod_lt m _ _ _ hm
 have k2:=h2;have lt2:∀ x∈p2,x.block<W.heap.size:=by obtain ⟨m,hm⟩:=k2; exact DataW.trod_lt m _ _ _ hm
 have k3:=h3;have lt3:∀ x∈p3,x.block<W.heap.size:=by obtain ⟨m,hm⟩:=k3; exact DataW.trod_lt m _ _ _ hm
 have k4:=h4;have lt4:∀ x∈p4,x.block<W.heap.size:=by obtain ⟨m,hm⟩:=k4; exact DataW.trod_lt m _ _ _ hm
 have k5:=h5;have lt5:∀ x∈p5,x.block<W.heap.size:=by obtain ⟨m,hm⟩:=k5; exact DataW.trod_lt m _ _ _ hm
 obtain ⟨c0,e0,_⟩:=okWide_struct Tryz.underlying24 (hval 0 24 v0 rfl rfl);obtain ⟨ca0,cn0,cc0,cz0,cx0,cy0,g0,cs0,cb0,cd0⟩:=open_case e0 h0;subst g0;obtain ⟨z1,w1⟩:∃ zs,SliceI W a1 len1 zs/\len1<=cap1/\cap1<=9223372036854775807:=by
  obtain ⟨fuel,hf⟩:=h1;rcases open_ints Tryz.underlying22 Tryz.underlying3 aK hf with ⟨hcs,_⟩ | ⟨x,l,c,zs,hcs,_,hl,hm,hz,_,hcell,hwz⟩
  ·simp [Value.cells] at hcs;obtain ⟨rfl,rfl,rfl⟩:=hcs;exact ⟨_,sliceI_of (zs:=[]) (.inl ⟨rfl,rfl,rfl,rfl⟩)⟩
  ·simp [Value.cells] at hcs;obtain ⟨rfl,rfl,rfl⟩:=hcs;exact ⟨_,sliceI_of (zs:=zs) (.inr ⟨_,rfl,hl,hm,by simpa using hz,hcell,hwz⟩)⟩
 obtain ⟨x2,rfl,rfl,rfl,ok2⟩:=open_int Tryz.underlying5 (hval 2 5 v2 rfl rfl) h2;obtain ⟨x3,rfl,rfl,rfl,ok3⟩:=open_int Tryz.underlying3 (hval 3 3 v3 rfl rfl) h3;obtain ⟨z4,w4⟩:∃ M,RowsAt W a4 len4 M:=by
  obtain ⟨fuel,hf⟩:=h4;rcases Go.Deep.open_int_rows Tryz.underlying25 Tryz.underlying22 Tryz.underlying3 aK aK hf with ⟨hcs,_⟩ | ⟨x,l,c,A,L,C,Z,hcs,_,hl,hm,_,hcell⟩
  ·simp [Value.cells] at hcs;obtain ⟨rfl,rfl,rfl⟩:=hcs;exact ⟨[],rfl,fun h=>absurd h (Nat.lt_irrefl 0)⟩
  ·simp [Value.cells] at hcs;obtain ⟨rfl,rfl,rfl⟩:=hcs;exact ⟨_,rows_open hl hcell⟩
 obtain ⟨z5,w5⟩:∃ zs,IntsAt W a5 len5 zs/\len5<=cap5/\cap5<=9223372036854775807:=by
  obtain ⟨fuel,hf⟩:=h5;rcases open_ints Tryz.underlying22 Tryz.underlying3 aK hf with ⟨hcs,_⟩ | ⟨x,l,c,zs,hcs,_,hl,hm,hz,_,hcell,hwz⟩
  ·simp [Value.cells] at hcs;obtain ⟨rfl,rfl,rfl⟩:=hcs;exact ⟨_,ints_open (zs:=[]) (.inl ⟨rfl,rfl,rfl,rfl⟩)⟩
  ·simp [Value.cells] at hcs;obtain ⟨rfl,rfl,rfl⟩:=hcs;exact ⟨_,ints_open (zs:=zs) (.inr ⟨_,rfl,hl,hm,by simpa using hz,hcell,hwz⟩)⟩
 clear hA0 hval0;refine (law05_Forms_walk cb0.1 cb0.2 cd0.1 cd0.2 (u8M_wf ok2).1 (u8M_wf ok2).2 (i64_wf ok3).1 (i64_wf ok3).2 w5.2.1 W cs0 w1.1 w4 w5.1).mono fun e W' ⟨he,bel⟩=>?_
 subst he;exact ⟨_,rfl,_,_,_,[],_,[],hW',trodAll_mk1 (shut_bool Tryz.underlying4 _),(trodAll_cons_mk (Below.trod laidOut aK (of_decide_eq_true aK) k0 bel lt0) (trodAll_cons_mk (Below.trod laidOut aK (of_decide_eq_true aK) k1 bel lt1) (trodAll_cons_mk (Below.trod laidOut aK (of_decide_eq_true aK) k2 bel lt2) (trodAll_cons_mk (Below.trod laidOut aK (of_decide_eq_true aK) k3 bel lt3) (trodAll_cons_mk (Below.trod laidOut aK (of_decide_eq_true aK) k4 bel lt4) (trodAll_cons_mk (Below.trod laidOut aK (of_decide_eq_true aK) k5 bel lt5) trodAll_mk0)))))),rfl,bel.frame _,fun h=>by cases h⟩
theorem over:Rows.matrixFormsRow.holds Tryz.pinned (OpenSpec.ofChange Rows.matrixFormsSpec):=
 OpenClaim.holds_of_wide 3 Tryz.f3 rfl rfl rfl rfl rfl rfl rfl ⟨rfl,rfl,rfl,rfl,rfl⟩ rfl rfl rfl rfl rfl aK Tryz.func3 aK
  (of_decide_eq_true aK) (by unfold Func.isWrapper; first | (rw [if_pos (by decide +kernel)]; kernel_rfl) | (rw [if_neg (by decide +kernel)]; exact ⟨rfl,rfl⟩))
  (fun os started H enc _=>lifted os started H enc)
theorem proved:Rows.MatrixFormsSaid:=over
#print axioms proved
end Go.Proofs.YtflgngjocgiojaaGreat.matrixFormsDone
