import Derived.Test.YtflolbnnkbdmfaaGreatCut
set_option linter.all false
namespace Go.Proofs.YtflolbnnkbdmfaaGreat
open Go.RowKit
set_option maxHeartbeats 8000000
set_option maxRecDepth 100000
theorem plc_Check {w:World} {A:Option Addr} {n:Nat} {L:List Loc} (c:Nat) (h:LocsAt w A n L) (hn:n<=1000):Calls Tryz.prog 20 #[.slice A n c] w fun e w'=>e = .returned (.int .i64 (locC L))/\Below w.heap.size w w':=by
 obtain ⟨o,ho⟩:=Zx (locC L);rw [ho];have HO:=Zh ho;have q1:=plc_each c h hn;obtain ⟨e1,he1⟩:=Zx (locE L);rw [he1] at q1;have H:=Zh h;have HL:=Zh h.len;have Q1:=Zh q1;have HE:=Zh he1;clear ho q1 h he1;go_enter Tryz.func20,Tryz.ntmps20
 by_cases h6:n=6
 ·subst h6;go_wp2_with fail;refine Zd Q1.out ?_;rintro e w1 ⟨rfl,hb1⟩;have hw1:=hb1;clear hb1 Q1
  by_cases he:e1=0
  ·subst he;have H1:=Zh (H.out.below hw1);clear H;go_wp2_with fail;refine Zd (plc_rows c H1.out aO) ?_;rintro e w2 ⟨⟨v,rfl,hv⟩,hb2⟩;have hw2:=hw1.trans (hb2.mono hw1.size);obtain ⟨g,c9,rfl,_,_,hR⟩:=hv.rows (n:=6) (by rw [locM_len]; exact HL.out) aO;have q2:=matrix_Rank c9 hR (fun h=>rank_fine h);obtain ⟨rk,hrk⟩:=Zx (rankZ (locM L));obtain ⟨mc,hmc⟩:=Zx (matCheck (locM L));rw [hrk,hmc] at q2;have Q2:=Zh q2;have HRK:=Zh hrk;clear hb2 hw1 hv hR q2 hrk hmc H1;go_wp2_with fail;refine Zd Q2.out ?_;rintro e w3 ⟨rfl,hb3⟩;have hw3:=hw2.trans (hb3.mono hw2.size);clear hb3 hw2 Q2;have hC:o=if rk<6 then 20 else 0:=by
    rw [<- HO.out]; unfold locC; rw [if_pos HL.out,if_pos HE.out,HRK.out]
   have HC:=Zh hC;clear hC
   by_cases hlt:rk<6
   ·have hlti:(rk:Int)<6:=aO
    go_wp2;go_ret;exact ⟨ret_int (by rw [HC.out,if_pos hlt]),hw3⟩
   ·go_wp2;go_ret;exact ⟨ret_int (by rw [HC.out,if_neg hlt]),hw3⟩
  ·have hC:o=e1:=by
    rw [<- HO.out]; unfold locC; rw [if_pos HL.out,HE.out,if_neg he]
   have HC:=Zh hC;clear hC;have he2:(e1==0)=false:=by simpa using he
   go_wp2;go_ret;exact ⟨ret_int (by rw [HC.out]),hw1⟩
 ·have h6i:((n:Int)==6)=false:=aT
  have hC:o=2:=by
   rw [<- HO.out]; unfold locC; rw [if_neg (by rw [HL.out]; exact h6)]
  have HC:=Zh hC;clear hC h6;go_wp2;go_ret;exact ⟨ret_int (by rw [HC.out]),aBel⟩
theorem RowV.below {X:Nat->Prop} {v:Value} {Z:List Int} {w w':World} (h:RowV X v Z w) (hb:Below w.heap.size w w'):RowV X v Z w':=by
 obtain ⟨A,c,h1,h2,h3,h4,h5⟩:=h;exact ⟨A,c,h1,h2,h3,h4,h5.below hb⟩
theorem ownsRow_base {u:World} {b b':Nat} {e:TypeId} {s:Nat} {v:Value} {n:Nat} {xs:List Value} (h:u.ownsRow b e s v n xs) (hb:b'<=b):u.ownsRow b' e s v n xs:=by
 refine ⟨h.1,h.2.imp id fun ⟨g,cap,cur,h1,h2,h3⟩=>⟨g,cap,cur,h1,Zm hb h2,h3⟩⟩
theorem LocsAt.keeps {w u:World} {A:Option Addr} {n:Nat} {L:List Loc} (h:LocsAt w A n L) (hk:Keeps [] w u):LocsAt u A n L:=
 ⟨h.len,h.ok,fun h0=>by
  obtain ⟨b,off,e,hlt,hc⟩:=h.row h0;exact ⟨b,off,e,Zl hlt hk.1,hc.same (hk.2 b hlt aS)⟩⟩
theorem own_row_ne {u:World} {base n cap g:Nat} {xs:List Value} (h:u.ownsRow base 22 1 (.slice (some ⟨g,0,none⟩) n cap) n xs) (h0:0<n) (ho:Own u g nv6) (hx:∃ A m c,xs[0]?=some (.slice A m c)):False:=by
 have h1:=(ownsRow_cell h h0).2.2.2.2 0 aO;have h2:=ho.cell 0;obtain ⟨A,m,c,hx⟩:=hx;rw [h2,hx] at h1;cases h1
theorem first_slice {X:Nat->Prop} {w:World} {xs:List Value} {M:List (List Int)} (h:RowsW X w xs M) (h0:0<M.length):∃ A m c,xs[0]?=some (.slice A m c):=by
 obtain ⟨B,m,c,e,_⟩:=h.2 0 h0;exact ⟨B,m,c,e⟩
def pairB (T:List Nat) (cs:Array Value) (k:Nat):EBS T where
 val p:= .slice (some ⟨p.1,0,none⟩) 1 1
 R p u:=p.1∉T/\p.2∉T/\Own u p.1 #[.slice (some ⟨p.2,0,none⟩) k k]/\Own u p.2 cs
 st _ _ _ h k:=⟨h.1,h.2.1,h.2.2.1.upd k h.1,h.2.2.2.upd k h.2.1⟩
theorem pairB_val {T:List Nat} {cs:Array Value} {k:Nat} {p:Nat×Nat}:(pairB T cs k).val p = .slice (some ⟨p.1,0,none⟩) 1 1:=rfl
theorem make_pair {P:Program} {T:List Nat} {o:Oper} {A:Act} {u:World} {cs:Array Value} {k f2:Nat} {e:TypeId} (hrun:(execOp A.eval o).run P u = .ok (.value (.slice (some ⟨u.heap.size,0,none⟩) 1 1)) (u.alloc (.cells #[.slice (some ⟨f2,0,none⟩) k k] e))) (hT:u.heap.size∉T) (h2:f2∉T) (h:Own u f2 cs) :
 lateOp P o A u (fun v' u'=>∃ p:Nat×Nat,v'=(pairB T cs k).val p/\u.heap.size<=p.1/\p.1<u'.heap.size/\Below u.heap.size u u'/\(pairB T cs k).R p u'):=by
 unfold lateOp;rw [hrun];exact ⟨(u.heap.size,f2),rfl,Zr _,aS,(Zb _ _).alloc (Zr _) _,hT,h2,Own.new rfl,h.alloc _⟩
theorem plc_rows_nil (A:Option Addr) (c:Nat) (w:World):Calls Tryz.prog 79 #[.slice A 0 c] w fun e w'=>e = .returned (.slice none 0 0)/\Below w.heap.size w w':=by
 go_enter Tryz.func79,Tryz.ntmps79;go_wp2;go_loopw [3,10] (fun v i wr=>v = .slice none 0 0/\i = .int .i64 0/\Below w.heap.size w wr) (fun _ _ _=>0)
 case atStart=>exact ⟨rfl,rfl,Zb _ _⟩
 case round =>
  obtain ⟨rfl,rfl,hw⟩:=hrel;go_wp2;go_ret;exact ⟨rfl,hw⟩
def rowsB (base n:Nat) (M:List (List Int)):EBS [] where
 val p:= .slice (some ⟨p.1,0,none⟩) n p.2
 R p u:=RowsG base u (.slice (some ⟨p.1,0,none⟩) n p.2) M
 st _ _ _ h k:=h.below (Upd.below (Zb _ _) k (fun b hb=>by cases hb))
theorem rowsB_val {base n:Nat} {M:List (List Int)} {p:Nat×Nat}:(rowsB base n M).val p = .slice (some ⟨p.1,0,none⟩) n p.2:=rfl
def freeV (L:List Loc) (v:Value) (w:World):Prop:=
 (¬ (locF L=0/\kernF (locZ L)<6)/\v = .slice none 0 0)\/(locF L=0/\kernF (locZ L)<6/\∃ Z,KerZ (locZ L) Z (kernF (locZ L))/\RowV (fun _=>True) v Z w)
theorem zero6_I:I64L zero6:=fun i hi=>by rw [zero6_at]; omega
theorem freeV_below {L:List Loc} {v:Value} {w w':World} (h:freeV L v w) (hb:Below w.heap.size w w'):freeV L v w':=by
 rcases h with h | ⟨h1,h2,Z,h3,h4⟩
 ·exact .inl h
 ·exact .inr ⟨h1,h2,Z,h3,h4.below hb⟩
theorem plc_Free {w:World} {A:Option Addr} {n:Nat} {L:List Loc} (c:Nat) (h:LocsAt w A n L) (hn:n<=1000):Calls Tryz.prog 18 #[.slice A n c] w fun e w'=>(∃ v,e = .returned (.tuple #[v,.int .i64 (locF L)])/\freeV L v w')/\Below w.heap.size w w':=by
 obtain ⟨i0,hi,hz0,hz1,hz2⟩:=info_parts infoI;obtain ⟨i1,hi1,hy0,hy1,hy2'⟩:=info_parts infoIs;obtain ⟨o,ho⟩:=Zx (locF L);have HV:RowKit.Hid (∀ v w,((¬ (o=0/\kernF (locZ L)<6)/\v = .slice none 0 0)\/(o=0/\kernF (locZ L)<6/\∃ Z,KerZ (locZ L) Z (kernF (locZ L))/\RowV (fun _=>True) v Z w))->freeV L v w):=fun v w h=>by unfold freeV; rw [ho]; exact h
 rw [ho];have HO:=Zh ho;have q1:=plc_each c h hn;obtain ⟨e1,he1⟩:=Zx (locE L);rw [he1] at q1;have H:=Zh h;have HL:=Zh h.len;have Q1:=Zh q1;have HE:=Zh he1;clear ho q1 h he1;go_enter Tryz.func18,Tryz.ntmps18
 by_cases h6:6<n
 ·have h6i:(6:Int)<(n:Int):=aO
  have hC:o=2:=by
   rw [<- HO.out]; unfold locF; rw [if_neg (by rw [HL.out]; omega)]
  have hv:=HV.out (.slice none 0 0) w (.inl ⟨fun h=>aO,rfl⟩);have HC:=Zh hC;have HVV:=Zh hv;clear hC h6 hv;go_wp2;go_ret2;exact ⟨⟨.slice none 0 0,congrArg (fun x=>Ending.returned (.tuple #[.slice none 0 0,.int .i64 x])) HC.out.symm,HVV.out⟩,aBel⟩
 ·have h6i:¬ (6:Int)<(n:Int):=aO
  have hC:o=e1:=by
   rw [<- HO.out]; unfold locF; rw [if_pos (by rw [HL.out]; omega)]; exact HE.out
  subst hC;go_wp2_with fail;refine Zd Q1.out ?_;rintro e w1 ⟨rfl,hb1⟩;have hw1:=hb1;have H1:=Zh (H.out.below hb1);clear hb1 Q1 H
  by_cases he:o=0
  ·subst he;have hck:=check_locZ (L:=L) HE.out (by rw [HL.out]; omega);obtain ⟨x,hx,hker⟩:=kern_all hck;have hcz:=cols_locZ L;rw [hcz] at hker;obtain ⟨kf,hkf⟩:=Zx (kernF (locZ L));have HX:=Zh hx;have HK:=Zh hker;have HCK:=Zh hck;have HKF:=Zh hkf;clear hck hx hker hcz hkf
   by_cases h0:n=0
   ·subst h0;obtain rfl:L=[]:=List.eq_nil_of_length_eq_zero HL.out;have hnil:=plc_rows_nil A c;have HN:=Zh hnil;clear hnil;go_wp2;refine region_cut 6 (fun l a a' w'=>∃ v,(∃ x0 x1 x2 x3 x4,a'=putAll (l.take 6) [x0,x1,x2,x3,x4,.tuple #[v,.int .i64 0]] a)/\freeV [] v w'/\Below w1.heap.size w1 w') aK aK (fun listed hl1 hl2 hl3=>?_) (fun listed hl1 hl2 hl3 a' wd hK=>?_)
    ·refine any_gen (w:=w1) (T:=[]) 0 [.make 2 [] (ownB [] nv6 (fun p=>.slice (some ⟨p,0,none⟩) 6 6)),.make 3 [2] (pairB [] nv6 6)] 4 0 40 (fun _ _=>True) (fun _ _ _ _ _=>trivial) trivial aO aK (by rfl) (by rfl) ?_ ((Zb _ _).drew) hl1 hl2 hl3;unfold genWalk;apply Zs;apply Zi
     ·apply Piece.mk
      ·intro f v hv hr hne;simp only [TK,Nat.reduceSub,Nat.reduceAdd]
       repeat (go_big_quiet_step ((go_at_call 79; with_reducible exact lateB (HN.out _))))
       refine wpQuiet_nil ?_;exact rfl
      ·intro f; kernel_rfl
      ·intro f f' hf; kernel_rfl
     refine one_of (by rfl) ⟨fun f=>⟨rfl,fun u hu _=>?_⟩,?_⟩
     ·refine make_own (e:=3) (by (try simp only [LN]); (try simp only [ownB_val,appB_val,rowsB_val,pairB_val]); first | (go_simp; done) | (go_simp; kernel_rfl)) aS
     unfold genWalk;refine ⟨_,pz9,?_⟩;refine one_of (by rfl) ⟨fun f=>⟨rfl,fun u hu hm=>?_⟩,?_⟩
     ·obtain ⟨h2T,h2o⟩:=hm 2 aS;refine make_pair (e:=22) (f2:=(f 2).1) (by (try simp only [LN]); (try simp only [ownB_val,appB_val,rowsB_val,pairB_val]); go_simp) aS h2T h2o
     unfold genWalk;refine ⟨_,pz9,?_⟩;intro f9 u' hup hph hmade hdist;obtain ⟨⟨_,h2o⟩,_,_⟩:=hmade 2 aO rfl;obtain ⟨⟨_,_,h3c,h3z⟩,l3a,l3b⟩:=hmade 3 aO rfl;simp only [TK,Nat.reduceSub,Nat.reduceAdd]
     (try simp only [LN])
     (try simp only [ownB_val,appB_val,rowsB_val,pairB_val])
     clear hmade hdist h2o hph;obtain ⟨g2,hg2⟩:=Zx ((f9 2).1);obtain ⟨g3,hg3⟩:=Zx ((f9 3).1);obtain ⟨g4,hg4⟩:=Zx ((f9 3).2);rw [hg3,hg4] at h3c;rw [hg4] at h3z;rw [hg3] at l3a l3b;simp only [hg2,hg3];clear hg2 hg3 hg4;have hkT:=Upd.keeps (Keeps.refl _ _) hup;have hsu:=hup.size;obtain ⟨tA,htA⟩:=h3c;have hBu:Below w1.heap.size w1 u':=Upd.below (Zb _ _) hup (fun b hb=>by cases hb);clear hup;have hRG:RowsG w1.heap.size u' (.slice none 0 0) (locM []):=RowsG.nil _ _;obtain ⟨xs,hox,hrw⟩:=hRG;rw [locM_len,HL.out] at hox;have HRW:=Zh hrw;refine effc_mem (by rfl) (fun K hK=>?_);refine late_append _ _ 47 rfl w1.heap.size 22 i1 (.slice none 0 0) 1 24 Tryz.underlying47 hi1 hy0 hy1 hy2' rfl aO _ 0 xs (by rfl) hox ⟨g3,0,none⟩ 1 1 [.slice (some ⟨g4,0,none⟩) 6 6] (by rfl) rfl (World.news_of_block htA) ?_ aO (by unfold maxLen; omega) aO aO u'.heap.size rfl ?_
     ·intro y hy; simp at hy; subst hy; rfl
     intro g5 c5' ub ho4 hg4 hat4 hlt4;have hob:∀ b,((.slice none 0 0):Value).ownBlock=some b->w1.heap.size<=b:=fun b hb=>ownBlock_ge hox hb
     have hTb:Keeps [] w1 ub:=keeps_grown hkT hg4 (fun r' e=>.inr (hob r' e));have hB4:Below w1.heap.size w1 ub:=Below.grown hBu hg4 aO (fun b hb=>hob b hb);have hlu:=h3z.lt;have hgb:some g4≠((.slice none 0 0):Value).ownBlock:=fun e=>by
      cases e
     have hia:IntsAt u' (some ⟨g4,0,none⟩) 6 zero6:=ints_of_cells h3z rfl zero6_I (fun i hi=>by
      match i,hi with
      | 0,_=>rfl
      | 1,_=>rfl
      | 2,_=>rfl
      | 3,_=>rfl
      | 4,_=>rfl
      | 5,_=>rfl)
     have hG:=RowsW.grow (wr:=u') HRW.out (show (locM []).length=0 from by rw [locM_len]; exact HL.out) (Zr 6) aO (fun b off e=>by cases e; exact ⟨hlu,hgb⟩) hia hg4.size (fun b hlt hb=>hg4.block b hlt (fun e=>hb e)) (hat4.imp id fun h=>aO) ho4;obtain ⟨g9,c9,e9,hn9,hc9,hR9⟩:=hG.rows (n:=0+1) (by rw [List.length_append,locM_len,HL.out]; rfl) aO;cases e9;have HR9:=Zh hR9;have HB4:=Zh hB4;have hB4s:=hB4.size;clear hG hR9 ho4 hg4 hat4 hlt4 htA hkT hBu hox hob hgb hia hB4 h3z HRW hrw;refine hK _ _ hTb (fun uc huc=>?_);clear hK K;have q4:=matrix_Kernel c5' (HR9.out.below huc) HX.out;rw [show matCheck (locM []++[zero6])=0 from HCK.out,show cols (locM []++[zero6])=6 from cols_locZ _] at q4;have Q4:=Zh q4;have HB5:=Zh (HB4.out.trans (huc.mono hB4s));have hTc:=hTb.later huc;have hB5s:=HB5.out.size;clear q4 HR9 HB4 huc hTb;refine effc_mem (by rfl) (fun K hK=>?_)
     (try simp only [LN])
     go_simp;refine Zd Q4.out ?_;rintro e ud ⟨⟨v,rfl,hv⟩,hud⟩;have hF:freeV [] v ud:=by
      refine HV.out v ud ?_;rcases hv with ⟨h1,h2⟩ | ⟨h1,h2,h3⟩
      ·exact .inl ⟨fun h=>h1 ⟨by first | rfl | trivial,h.2⟩,h2⟩
      ·exact .inr ⟨by first | rfl | trivial,h2,_,HK.out h2,h3⟩
     have HF:=Zh hF;clear hv hF;refine ⟨_,rfl,?_⟩;refine hK _ _ (hTc.later hud) (fun ue hue=>?_);clear hK K;have HF2:=Zh (freeV_below HF.out hue);have hB6:=(HB5.out.trans (hud.mono hB5s)).trans (hue.mono (Zm hB5s hud.size));have HB6:=Zh hB6;clear HB5 hTc hud hue hB6 Q4 HF;refine effc_nil ?_
     (try simp only [LN])
     refine ⟨v,?_,HF2.out,HB6.out⟩;simp only [TK,putAll,Act.put,List.setIfInBounds_toArray,List.set_cons_zero,List.set_cons_succ]
     repeat apply Zs
     rfl
    ·obtain ⟨v,⟨x0,x1,x2,x3,x4,rfl⟩,hF,hbd⟩:=hK;simp only [TK,putAll,Act.put,List.setIfInBounds_toArray,List.set_cons_zero,List.set_cons_succ];have hwd:=hw1.trans (hbd.mono hw1.size);have HF:=Zh hF;clear hbd hF;refine any_gen (w:=wd) (T:=[]) 6 [] 8 0 40 (fun _ _=>True) (fun _ _ _ _ _=>trivial) trivial aO aK (by rfl) (by rfl) ?_ (Zb _ _) hl1 hl2 hl3;unfold genWalk;refine ⟨_,pz1,?_⟩;intro f9 u' hup hph hmade hdist;clear hph hmade hdist;have hBu:Below wd.heap.size wd u':=Upd.below (Zb _ _) hup (fun b hb=>by cases hb);have hkT:=Upd.keeps (Keeps.refl _ _) hup;simp only [TK,Nat.reduceSub,Nat.reduceAdd];refine effc_mem (by rfl) (fun K hK=>?_);go_simp;refine hK _ _ hkT (fun uc huc=>?_);clear hK K;refine effc_mem (by rfl) (fun K hK=>?_);go_simp;refine hK _ _ (hkT.later huc) (fun we hwe=>?_);clear hK K;have hbe:=(hBu.trans (huc.mono hBu.size)).trans (hwe.mono (Zm hBu.size huc.size));have hwe':=hwd.trans (hbe.mono hwd.size);have HFe:=Zh (freeV_below HF.out hbe);clear hBu hup hkT huc hwe hbe HF hwd;refine effc_nil ?_
     (try simp only [LN])
     go_wp2;go_ret2;exact ⟨⟨_,rfl,HFe.out⟩,hwe'⟩
   ·go_wp2;refine region_cut 6 (fun l a a' w'=>∃ v,(∃ x0 x1 x2 x3 x4,a'=putAll (l.take 6) [x0,x1,x2,x3,x4,.tuple #[v,.int .i64 0]] a)/\freeV L v w'/\Below w1.heap.size w1 w') aK aK (fun listed hl1 hl2 hl3=>?_) (fun listed hl1 hl2 hl3 a' wd hK=>?_)
    ·refine any_gen (w:=w1) (T:=[]) 0 [.make 1 [] (rowsB w1.heap.size n (locM L)),.make 2 [] (ownB [] nv6 (fun p=>.slice (some ⟨p,0,none⟩) 6 6)),.make 3 [2] (pairB [] nv6 6)] 4 0 40 (fun _ _=>True) (fun _ _ _ _ _=>trivial) trivial aO aK (by rfl) (by rfl) ?_ ((Zb _ _).drew) hl1 hl2 hl3;unfold genWalk;refine ⟨_,pz1,?_⟩;refine one_of (by rfl) ⟨fun f=>⟨rfl,fun u hu _=>?_⟩,?_⟩
     ·refine make_call (f:=79) (args:=#[.slice A n c]) (by (try simp only [LN]); (try simp only [ownB_val,appB_val,rowsB_val,pairB_val]); go_simp) ?_;have h1u:=H1.out.keeps hu;refine (plc_rows c h1u aO).mono ?_;rintro e w' ⟨⟨v,rfl,hv⟩,hb⟩;obtain ⟨g,c9,rfl,_,_,hR⟩:=hv.rows (n:=n) (by rw [locM_len]; exact HL.out) aO;obtain ⟨xs,hox,hrw⟩:=hv;have hgg:=ownBlock_ge hox (g:=g) rfl;have hgl:=ownBlock_lt hox (b:=g) rfl;exact ⟨(g,c9),rfl,hgg,hgl,hb,xs,ownsRow_base hox hu.1,hrw⟩
     unfold genWalk;refine ⟨_,pz9,?_⟩;refine one_of (by rfl) ⟨fun f=>⟨rfl,fun u hu _=>?_⟩,?_⟩
     ·refine make_own (e:=3) (by (try simp only [LN]); (try simp only [ownB_val,appB_val,rowsB_val,pairB_val]); first | (go_simp; done) | (go_simp; kernel_rfl)) aS
     unfold genWalk;refine ⟨_,pz9,?_⟩;refine one_of (by rfl) ⟨fun f=>⟨rfl,fun u hu hm=>?_⟩,?_⟩
     ·obtain ⟨h2T,h2o⟩:=hm 2 aS;refine make_pair (e:=22) (f2:=(f 2).1) (by (try simp only [LN]); (try simp only [ownB_val,appB_val,rowsB_val,pairB_val]); go_simp) aS h2T h2o
     unfold genWalk;refine ⟨_,pz9,?_⟩;intro f9 u' hup hph hmade hdist;have h1r:=(hmade 1 aO rfl).1;obtain ⟨⟨_,h2o⟩,_,_⟩:=hmade 2 aO rfl;obtain ⟨⟨_,_,h3c,h3z⟩,l3a,l3b⟩:=hmade 3 aO rfl;simp only [TK,Nat.reduceSub,Nat.reduceAdd]
     (try simp only [LN])
     (try simp only [ownB_val,appB_val,rowsB_val,pairB_val])
     clear hmade hdist h2o hph;obtain ⟨g1,hg1⟩:=Zx ((f9 1).1);obtain ⟨c1,hc1⟩:=Zx ((f9 1).2);obtain ⟨g2,hg2⟩:=Zx ((f9 2).1);obtain ⟨g3,hg3⟩:=Zx ((f9 3).1);obtain ⟨g4,hg4⟩:=Zx ((f9 3).2);have h1r:RowsG w1.heap.size u' (.slice (some ⟨(f9 1).1,0,none⟩) n (f9 1).2) (locM L):=h1r;rw [hg1,hc1] at h1r;rw [hg3,hg4] at h3c;rw [hg4] at h3z;rw [hg3] at l3a l3b;simp only [hg1,hc1,hg2,hg3];clear hg1 hc1 hg2 hg3 hg4;have hkT:=Upd.keeps (Keeps.refl _ _) hup;have hsu:=hup.size;obtain ⟨tA,htA⟩:=h3c;have hBu:Below w1.heap.size w1 u':=Upd.below (Zb _ _) hup (fun b hb=>by cases hb);clear hup;have hRG:=h1r;obtain ⟨xs,hox,hrw⟩:=hRG;rw [locM_len,HL.out] at hox;have HRW:=Zh hrw;refine effc_mem (by rfl) (fun K hK=>?_);refine late_append _ _ 47 rfl w1.heap.size 22 i1 (.slice none 0 0) 1 24 Tryz.underlying47 hi1 hy0 hy1 hy2' rfl aO _ n xs (by rfl) hox ⟨g3,0,none⟩ 1 1 [.slice (some ⟨g4,0,none⟩) 6 6] (by rfl) rfl (World.news_of_block htA) ?_ aO (by unfold maxLen; omega) aO aO u'.heap.size rfl ?_
     ·intro y hy; simp at hy; subst hy; rfl
     intro g5 c5' ub ho4 hg4 hat4 hlt4;have hob:∀ b,((.slice (some ⟨g1,0,none⟩) n c1):Value).ownBlock=some b->w1.heap.size<=b:=fun b hb=>ownBlock_ge hox hb
     have hTb:Keeps [] w1 ub:=keeps_grown hkT hg4 (fun r' e=>.inr (hob r' e));have hB4:Below w1.heap.size w1 ub:=Below.grown hBu hg4 aO (fun b hb=>hob b hb);have hlu:=h3z.lt;have hgb:some g4≠((.slice (some ⟨g1,0,none⟩) n c1):Value).ownBlock:=fun e=>by
      have e2:g4=g1:=Option.some.inj e; subst e2; exact own_row_ne hox aO h3z (first_slice HRW.out (by rw [locM_len,HL.out]; omega))
     have hia:IntsAt u' (some ⟨g4,0,none⟩) 6 zero6:=ints_of_cells h3z rfl zero6_I (fun i hi=>by
      match i,hi with
      | 0,_=>rfl
      | 1,_=>rfl
      | 2,_=>rfl
      | 3,_=>rfl
      | 4,_=>rfl
      | 5,_=>rfl)
     have hG:=RowsW.grow (wr:=u') HRW.out (show (locM L).length=n from by rw [locM_len]; exact HL.out) (Zr 6) aO (fun b off e=>by cases e; exact ⟨hlu,hgb⟩) hia hg4.size (fun b hlt hb=>hg4.block b hlt (fun e=>hb e)) (hat4.imp id fun h=>aO) ho4;obtain ⟨g9,c9,e9,hn9,hc9,hR9⟩:=hG.rows (n:=n+1) (by rw [List.length_append,locM_len,HL.out]; rfl) aO;cases e9;have HR9:=Zh hR9;have HB4:=Zh hB4;have hB4s:=hB4.size;clear hG hR9 ho4 hg4 hat4 hlt4 htA hkT hBu hox hob hgb hia hB4 h3z HRW hrw;refine hK _ _ hTb (fun uc huc=>?_);clear hK K;have q4:=matrix_Kernel c5' (HR9.out.below huc) HX.out;rw [show matCheck (locM L++[zero6])=0 from HCK.out,show cols (locM L++[zero6])=6 from cols_locZ _] at q4;have Q4:=Zh q4;have HB5:=Zh (HB4.out.trans (huc.mono hB4s));have hTc:=hTb.later huc;have hB5s:=HB5.out.size;clear q4 HR9 HB4 huc hTb;refine effc_mem (by rfl) (fun K hK=>?_)
     (try simp only [LN])
     go_simp;refine Zd Q4.out ?_;rintro e ud ⟨⟨v,rfl,hv⟩,hud⟩;have hF:freeV L v ud:=by
      refine HV.out v ud ?_;rcases hv with ⟨h1,h2⟩ | ⟨h1,h2,h3⟩
      ·exact .inl ⟨fun h=>h1 ⟨by first | rfl | trivial,h.2⟩,h2⟩
      ·exact .inr ⟨by first | rfl | trivial,h2,_,HK.out h2,h3⟩
     have HF:=Zh hF;clear hv hF;refine ⟨_,rfl,?_⟩;refine hK _ _ (hTc.later hud) (fun ue hue=>?_);clear hK K;have HF2:=Zh (freeV_below HF.out hue);have hB6:=(HB5.out.trans (hud.mono hB5s)).trans (hue.mono (Zm hB5s hud.size));have HB6:=Zh hB6;clear HB5 hTc hud hue hB6 Q4 HF;refine effc_nil ?_
     (try simp only [LN])
     refine ⟨v,?_,HF2.out,HB6.out⟩;simp only [TK,putAll,Act.put,List.setIfInBounds_toArray,List.set_cons_zero,List.set_cons_succ]
     repeat apply Zs
     rfl
    ·obtain ⟨v,⟨x0,x1,x2,x3,x4,rfl⟩,hF,hbd⟩:=hK;simp only [TK,putAll,Act.put,List.setIfInBounds_toArray,List.set_cons_zero,List.set_cons_succ];have hwd:=hw1.trans (hbd.mono hw1.size);have HF:=Zh hF;clear hbd hF;refine any_gen (w:=wd) (T:=[]) 6 [] 8 0 40 (fun _ _=>True) (fun _ _ _ _ _=>trivial) trivial aO aK (by rfl) (by rfl) ?_ (Zb _ _) hl1 hl2 hl3;unfold genWalk;refine ⟨_,pz1,?_⟩;intro f9 u' hup hph hmade hdist;clear hph hmade hdist;have hBu:Below wd.heap.size wd u':=Upd.below (Zb _ _) hup (fun b hb=>by cases hb);have hkT:=Upd.keeps (Keeps.refl _ _) hup;simp only [TK,Nat.reduceSub,Nat.reduceAdd];refine effc_mem (by rfl) (fun K hK=>?_);go_simp;refine hK _ _ hkT (fun uc huc=>?_);clear hK K;refine effc_mem (by rfl) (fun K hK=>?_);go_simp;refine hK _ _ (hkT.later huc) (fun we hwe=>?_);clear hK K;have hbe:=(hBu.trans (huc.mono hBu.size)).trans (hwe.mono (Zm hBu.size huc.size));have hwe':=hwd.trans (hbe.mono hwd.size);have HFe:=Zh (freeV_below HF.out hbe);clear hBu hup hkT huc hwe hbe HF hwd;refine effc_nil ?_
     (try simp only [LN])
     go_wp2;go_ret2;exact ⟨⟨_,rfl,HFe.out⟩,hwe'⟩
  ·have he2:(o==0)=false:=by simpa using he
   have hv:=HV.out (.slice none 0 0) w1 (.inl ⟨fun h=>he h.1,rfl⟩);have HVV:=Zh hv;clear hv he;go_wp2;go_ret2;exact ⟨⟨_,rfl,HVV.out⟩,hw1⟩
theorem valL_len (L:List Loc) (l:List Int):(valL L l).length=L.length:=by unfold valL; simp
theorem valL_at (L:List Loc) (l:List Int) {k:Nat} (hk:k<L.length):iAt (valL L l) k=(lAt L k).lo+nextV (l.drop k) ((lAt L k).hi - (lAt L k).lo+1):=by
 unfold valL iAt;rw [Ze,List.getElem?_map,List.getElem?_range hk];rfl
theorem valL_in (L:List Loc) (l:List Int) {k:Nat} (hk:k<L.length) (h:(lAt L k).lo<=(lAt L k).hi):(lAt L k).lo<=iAt (valL L l) k/\iAt (valL L l) k<=(lAt L k).hi:=by
 rw [valL_at L l hk];have:=nextV_bd (l.drop k) ((lAt L k).hi - (lAt L k).lo+1) aO;omega
def outB (L:List Loc) (b:List Int) (k:Nat):Bool:=decide (iAt b k<(lAt L k).lo) || decide ((lAt L k).hi<iAt b k)
def motC (L:List Loc) (b:List Int):Int:=if locC L=0 then (if b.length=6 then (if anyF (outB L b) 6=true then 3 else 0) else 4) else locC L
theorem motC_ok {L:List Loc} {b:List Int} (hC:locC L=0) (hb:b.length=6) (h:∀ k,k<6->(lAt L k).lo<=iAt b k/\iAt b k<=(lAt L k).hi):motC L b=0:=by
 unfold motC;rw [if_pos hC,if_pos hb,if_neg];rw [anyF_no fun k hk=>by
  unfold outB;have:=h k hk;rw [decide_eq_false aO,decide_eq_false aO]; rfl]
 decide
theorem motC_zero {L:List Loc} {b:List Int} (h:motC L b=0):locC L=0/\b.length=6/\anyF (outB L b) 6=false:=by
 unfold motC at h;split at h
 case isFalse hC=>exact absurd h hC
 rename_i hC
 split at h
 case isFalse=>omega
 rename_i hb
 split at h
 ·omega
 rename_i ha
 exact ⟨hC,hb,by simpa using ha⟩
theorem ex_out:motC exL [0,0,0,0,0,101]=3:=by
 unfold motC;rw [if_pos ex_C,if_pos (show ([0,0,0,0,0,101]:List Int).length=6 from rfl),if_pos (by decide +kernel)]
theorem ex_in:motC exL exV=0:=by
 unfold motC;rw [if_pos ex_C,if_pos (show exV.length=6 from rfl),if_neg (by decide +kernel)]
theorem lAt_ok {L:List Loc} (h:locC L=0) {k:Nat} (hk:k<6):(lAt L k).Ok:=by
 obtain ⟨hl,he,_⟩:=locC_zero h;refine locE_zero.1 he _ ?_;unfold lAt;rw [Ze,List.getElem?_eq_getElem aO];exact List.getElem_mem _
theorem sol_zero {L:List Loc} {b:List Int} (hC:locC L=0) (hb:b.length=6) (hs:∀ k,k<6 -> -10000<=iAt b k/\iAt b k<=10000):solveE (locM L) b=0:=by
 obtain ⟨hl,he,hr⟩:=locC_zero hC;have hne:L≠[]:=fun e=>by subst e; simp at hl
 have hck:=check_locM he aO hne;have hc:=cols_locM hne;have hml:(locM L).length=6:=(locM_len L).trans hl;rw [solveE_val hck (hc.trans hml.symm) (hb.trans hml.symm) (anyF_no fun i hi=>not_large (B:=10000) (hs i aO).1 (hs i aO).2 aO),if_neg aO]
theorem mot_small {L:List Loc} {b:List Int} (h:motC L b=0) {k:Nat} (hk:k<6):((lAt L k).lo<=iAt b k/\iAt b k<=(lAt L k).hi) /\ -10000<=iAt b k/\iAt b k<=10000:=by
 obtain ⟨hC,_,ha⟩:=motC_zero h;have h1:=anyF_none ha hk;have h2:=(lAt_ok hC hk).lh;unfold outB at h1;simp only [Bool.or_eq_false_iff,decide_eq_false_iff_not] at h1;omega
theorem mot_solve {L:List Loc} {b:List Int} (h:motC L b=0):solveE (locM L) b=0:=by
 obtain ⟨hC,hb,_⟩:=motC_zero h;exact sol_zero hC hb fun k hk=>(mot_small h hk).2
end Go.Proofs.YtflolbnnkbdmfaaGreat
