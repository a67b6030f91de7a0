import Derived.Test.YtflgngjocgiojaaGreatMatC
set_option linter.all false
namespace Go.Proofs.YtflgngjocgiojaaGreat
open Go.RowKit
set_option maxHeartbeats 8000000
set_option maxRecDepth 100000
def slC (z:Int) (b C:Nat):Value:=if fits z=true/\z≠0 then .slice (some ⟨b,0,none⟩) (digs z.natAbs).length C else .slice none 0 0
def numC (z:Int) (b C:Nat):Value:= .agg #[.bool (sgnN z),slC z b C]
def NumC (w:World) (b C:Nat) (z:Int):Prop:=fits z=true->z≠0->(digs z.natAbs).length<=C/\C<=9223372036854775807/\DigsAt w (some ⟨b,0,none⟩) (digs z.natAbs).length (digs z.natAbs)
theorem slC_form (z:Int) (b C:Nat):∃ A n c,slC z b C = .slice A n c:=by
 unfold slC;split
 ·exact ⟨_,_,_,rfl⟩
 ·exact ⟨_,_,_,rfl⟩
theorem slC_addr {z:Int} {b C n c:Nat} {a:Addr} (h:slC z b C = .slice (some a) n c):a=⟨b,0,none⟩:=by
 unfold slC at h;split at h
 ·injection h with h; injection h with h; exact h.symm
 ·injection h with h; cases h
theorem slC_zero (b C:Nat):slC 0 b C = .slice none 0 0:=by unfold slC; rw [if_neg aS]
theorem numC_zero (b C:Nat):numC 0 b C=zeroN:=by unfold numC; rw [slC_zero]; rfl
theorem numC_no {z:Int} (b C:Nat) (h:fits z=false):numC z b C=zeroN:=by
 unfold numC sgnN slC zeroN;rw [if_neg (by rw [h]; simp),h];rfl
theorem numC_yes {z:Int} (b C:Nat) (h:fits z=true) (h0:z≠0):numC z b C = .agg #[.bool (decide (z<0)),.slice (some ⟨b,0,none⟩) (digs z.natAbs).length C]:=by
 unfold numC sgnN slC;rw [if_pos ⟨h,h0⟩,h];rfl
theorem NumC.at_ {w:World} {b C:Nat} {z:Int} (h:NumC w b C z) (hf:fits z=true):NumAt w (numC z b C) z:=by
 by_cases h0:z=0
 ·subst h0;rw [numC_zero];exact num_zero w
 ·rw [numC_yes b C hf h0];have hl:(digs z.natAbs).length<=64:=of_decide_eq_true hf;obtain ⟨h1,h2,h3⟩:=h hf h0;exact ⟨_,_,_,rfl,h1,h2,hl,h3⟩
theorem NumC.below {w w':World} {b C:Nat} {z:Int} (h:NumC w b C z) (hb:Below w.heap.size w w'):NumC w' b C z:=fun h1 h2=>⟨(h h1 h2).1,(h h1 h2).2.1,(h h1 h2).2.2.below hb⟩
theorem NumC.far {w:World} {b C:Nat} {z:Int} (h:NumC w b C z) {p:Addr} (hp:b≠p.block) (x:Value):NumC (w.setCell p x) b C z:=fun h1 h2=>⟨(h h1 h2).1,(h h1 h2).2.1,(h h1 h2).2.2.same (by simp [World.setCell]) fun a e=>by
 cases e;exact Below.heap_setCell _ _ _ b hp⟩
theorem NumC.upd {T:List Nat} {w u:World} {b C:Nat} {z:Int} (h:NumC w b C z) (hT:b∉T) (k:Upd T w u):NumC u b C z:=fun h1 h2=>by
 obtain ⟨h3,h4,h5⟩:=h h1 h2;refine ⟨h3,h4,h5.len,h5.dg,fun hp=>?_⟩;obtain ⟨b',off,e,hlt,hc⟩:=h5.row hp;cases e;exact ⟨_,_,rfl,Zl hlt k.size,fun i hi=>(Zc (a:=⟨_,0+i,none⟩) (k.block _ hlt hT)).trans (hc i hi)⟩
theorem add_off (b off j:Nat):(⟨b,off,none⟩:Addr).add j=⟨b,off+j,none⟩:=by
 unfold Addr.add
 by_cases h:j=0
 ·rw [if_pos h,h]; rfl
 ·rw [if_neg h]
def RetM (w:World) (z:Int) (r:Ending) (w':World):Prop:=(∃ b C,r = .returned (.tuple #[numC z b C,.bool (fits z)])/\NumC w' b C z/\w.heap.size<=b/\b<w'.heap.size)/\Below w.heap.size w w'
def RetX (w:World) (z:Int) (r:Ending) (w':World):Prop:=(∃ b C,r = .returned (numC z b C)/\NumC w' b C z/\w.heap.size<=b/\b<w'.heap.size)/\Below w.heap.size w w'
theorem refD_at {D:List Nat} {i:Nat} (h:i<D.length):(D.map fun d=>Value.int .u32 ((d:Nat):Int))[i]?=some (.int .u32 (dAt D i:Nat)):=by
 rw [List.getElem?_map,List.getElem?_eq_getElem h,dAt_in h]; rfl
theorem own_grown {w w':World} {b:Nat} {cs:Array Value} {row:Option Nat} (h:Own w b cs) (hg:w.grownBy w' row) (hr:∀ r,row=some r->r≠b):Own w' b cs:=
 h.of_block (hg.block b h.lt (fun e=>hr b e.symm rfl))
theorem ref1_signed {w:World} {A:Option Addr} {n:Nat} {D:List Nat} {z:Int} {neg:Bool} (c:Nat) (hv:DigsAt w A n D) (hnc:n<=c) (hc:c<=9223372036854775807) (e:sg neg (vD D)=z) :
 Calls Tryz.prog 115 #[.bool neg,.slice A n c] w (RetM w z):=by
 unfold RetM;obtain ⟨i0,hi,hz0,hz1,hz2⟩:=infoU_parts;obtain ⟨ok,hok⟩:=Zx (fits z);rw [hok];have HZ:=Zh (Zi e hok);clear e;have HV:=Zh hv;clear hok hv;have hW:=(Zb w.heap.size w).alloc (Zr _) (.cells nz1 35);have o0:Own (w.alloc (.cells nz1 35)) w.heap.size nz1:=Own.new rfl;go_enter Tryz.func115,Tryz.ntmps115;go_wp2_with fail;have HT:=Zh (ref1_trim c (HV.out.below hW) hnc hc);refine Zd HT.out ?_;rintro e w2 ⟨rfl,hb2⟩;have hw2:=hW.trans (hb2.mono hW.size);have ht:=trim_sl (HV.out.below hw2) hnc hc;have o1:=o0.below hb2;have htl:=trim_len HV.out.dg HV.out.len;clear HT o0;generalize trimN D n=N at *;have hdg:DigsAt w2 A N (digs (vD D)):=by
  obtain ⟨A',n',c',e,_,_,h2⟩:=ht;cases e;exact h2
 have hok2:ok=decide (N<=64):=by rw [<- HZ.out.2,<- HZ.out.1,fits,sg_abs,htl]
 have HT:=Zh (Zi htl hdg);have HOK:=Zh hok2;clear ht htl hdg hok2 hb2 hW;have o1c:=o1.cell;have o1f:=o1.thaw;have o1z:=o1.lt
 by_cases h64:64<N
 ·have h64i:(64:Int)<(N:Int):=aO
  have hof:ok=false:=by rw [HOK.out]; exact decide_eq_false aO
  subst hof;go_wp2;refine retC (b:=w.heap.size) (v:= .tuple #[zeroN,.bool false]) ((o1.set 0 _).set 1 _) (fun w' hw'=>by simp [results,Tryz.results115,go_sem,hw',zeroN]) rfl ⟨⟨w.heap.size,0,by rw [numC_no _ _ HZ.out.2],fun h=>by (rw [HZ.out.2] at h; cases h),Zr _,by simp [World.setCell]; omega⟩,(hw2.setCell (Zr _) _).setCell (Zr _) _⟩
 ·have hot:ok=true:=by rw [HOK.out]; exact decide_eq_true aO
  subst hot
  by_cases h0:N=0
  ·subst h0;have e0:vD D=0:=digs_nil.1 (List.eq_nil_of_length_eq_zero HT.out.1.symm);have e1:z=0:=by
    rw [<- HZ.out.1,e0];unfold sg;split <;> rfl
   subst e1;go_wp2;refine retC (b:=w.heap.size) (v:= .tuple #[zeroN,.bool true]) ((o1.set 0 _).set 1 _) (fun w' hw'=>by simp [results,Tryz.results115,go_sem,hw',zeroN]) rfl ⟨⟨w.heap.size,0,by rw [numC_zero],fun _ h=>absurd rfl h,Zr _,by simp [World.setCell]; omega⟩,(hw2.setCell (Zr _) _).setCell (Zr _) _⟩
  ·have h0i:¬ (N:Int)=0:=aO
   obtain ⟨b,off,rfl,hbb,hcell⟩:=HT.out.2.row aO;have hs2:=hw2.size;have hrow0:(w2.alloc (.cells #[] 97)).ownsRow w2.heap.size 97 1 (.slice (some ⟨w2.heap.size,0,none⟩) 0 0) 0 []:=by
    have q:=World.ownsRow_lit (base:=w2.heap.size) (e:=97) (size:=1) w2 #[] 0 aS (by unfold maxLen; omega) aS;simpa using q
   have HROW:=Zh hrow0;have HC:=Zh hcell;clear hrow0 hcell;go_wp2_with (at_builtin; go_loud (refine wpList_append_lies _ rfl _ _ _ (by rfl) w2.heap.size 97 i0 (.int .u32 0) 1 4 Tryz.underlying33 hi hz0 hz1 hz2 rfl aO _ 0 [] (by rfl) HROW.out ⟨b,off,none⟩ N c ((digs (vD D)).map fun d=>Value.int .u32 ((d:Nat):Int)) (by rfl) (by rw [List.length_map,<- HT.out.1,Nat.mul_one]) ?c1 ?c2 aO ?c3 ?c4 ?c5 (w2.heap.size+1) aS ?_))
   case c1 =>
    intro j u hu;have hj:j<(digs (vD D)).length:=by
     apply Classical.byContradiction;intro h;rw [List.getElem?_eq_none (by rw [List.length_map]; omega)] at hu;cases hu
    rw [refD_at hj] at hu;cases hu;have q:=HC.out j (by rw [HT.out.1]; exact hj);rw [add_off b off j];exact (Zc (w:=w2) (a:=⟨b,off+j,none⟩) (((Zb w2.heap.size w2).alloc (Zr _) (.cells #[] 97)).block b hbb)).trans q
   case c2 =>
    intro u hu;obtain ⟨d,_,rfl⟩:=List.mem_map.1 hu;rfl
   case c3=>unfold maxLen; omega
   case c4=>omega
   case c5=>simp
   intro g cp w3 ho3 hg3 hat3 hlt3;have hob:∀ r,(Value.slice (some ⟨w2.heap.size,0,none⟩) 0 0).ownBlock=some r->w2.heap.size<=r:=fun r h=>ownBlock_ge HROW.out h
   have hB3:=Below.grown (hw2.alloc hs2 (.cells #[] 97)) hg3 aT (fun r h=>by have:=hob r h; omega);have o3:Own w3 w.heap.size nz1:=own_grown (o1.alloc _) hg3 (fun r h=>by have:=hob r h; omega);have hgz:w.heap.size<g:=by
    rcases hat3 with h | h
    ·have:=hob _ h; omega
    ·omega
   have e6:0<vD D:=by
    apply Classical.byContradiction;intro h;apply h0;rw [HT.out.1,show vD D=0 by omega];rfl
   have e7:decide (z<0)=neg:=by rw [<- HZ.out.1,sg_neg _ _ e6]
   have e8:z.natAbs=vD D:=by rw [<- HZ.out.1,sg_abs]
   have hdg3:N<=cp/\cp<=9223372036854775807/\DigsAt w3 (some ⟨g,0,none⟩) N (digs (vD D)):=by
    have ho3':w3.ownsRow w2.heap.size 97 1 (.slice (some ⟨g,0,none⟩) N cp) N ((digs (vD D)).map fun d=>Value.int .u32 ((d:Nat):Int)):=by simpa using ho3
    obtain ⟨_,_,q1,q2,q3⟩:=ownsRow_cell ho3' aO;unfold maxLen at q2;refine ⟨q1,q2,HT.out.1.symm,digs_dg _,fun _=>⟨g,0,rfl,hlt3,fun i hi=>?_⟩⟩;rw [Nat.zero_add,q3 i aO];exact refD_at (D:=digs (vD D)) (i:=i) (by rw [<- HT.out.1]; exact hi)
   have HE:=Zh (Zi e6 (Zi e7 e8));clear e6 e7 e8;have o3c:=o3.cell;have o3f:=o3.thaw;have HN:=Zh hdg3;have HB:=Zh hB3;clear ho3 hg3 hat3 hob hdg3 hB3 o1 o1c o1f HROW HC;go_wp2;refine retC (b:=w.heap.size) (v:= .tuple #[.agg #[.bool neg,.slice (some ⟨g,0,none⟩) N cp],.bool true]) ((o3.set 0 _).set 1 _) (fun w' hw'=>by simp [results,Tryz.results115,go_sem,hw',zeroN]) rfl ⟨⟨g,cp,?_,fun _ _=>?_,aO,by simp [World.setCell]; omega⟩,(HB.out.setCell (Zr _) _).setCell (Zr _) _⟩
   ·rw [numC_yes g cp HZ.out.2 (by have:=HE.out; omega),HE.out.2.1,HE.out.2.2,<- HT.out.1]
   ·rw [HE.out.2.2,<- HT.out.1];exact ⟨HN.out.1,HN.out.2.1,HN.out.2.2.same (by simp [World.setCell]) fun a e=>by
     cases e;exact (Below.heap_setCell _ _ _ g aT).trans (Below.heap_setCell _ _ _ g aT)⟩
theorem ref_right {w:World} {v:Value} {z:Int} (h:NumAt w v z):Calls Tryz.prog 88 #[v] w fun r w'=>r = .returned (.bool true)/\Below w.heap.size w w':=by
 have q:=ref1_Right h.raw.1;rw [h.raw.2] at q;exact q
theorem endX {w W:World} {z:Int} {s:Bool} {A:Option Addr} {n c b C B:Nat} (hB:w.heap.size<=B) (e1:sgnN z=s) (e2:slC z b C = .slice A n c) (hb:Below w.heap.size w W) (hn:NumC W b C z) (h1:B<b) (h2:b<W.heap.size) :
 RetX w z (.returned (.agg #[.bool s,.slice A n c])) ((W.setCell ⟨B,0,none⟩ (.bool s)).setCell ⟨B,1,none⟩ (.slice A n c)):=
 ⟨⟨b,C,by rw [numC,e1,e2],(hn.far aT _).far aT _,aO,by simp [World.setCell]; exact h2⟩,(hb.setCell hB _).setCell hB _⟩
theorem ref1_Of {w:World} (n:Int) (h1:-9223372036854775808<=n) (h2:n<=9223372036854775807):Calls Tryz.prog 78 #[.int .i64 n] w (RetX w n):=by
 obtain ⟨m,hm⟩:=Zx (n.natAbs);have hmb:m<18446744073709551616:=aO
 have HM:=Zh hm;have HF:Hid (fits n=true):=Zh (fits_small aO);have hW:=(Zb w.heap.size w).alloc (Zr _) (.cells nz1 35);have o2:Own (w.alloc (.cells nz1 35)) w.heap.size nz1:=Own.new rfl
 by_cases hn:n<0
 ·obtain ⟨x,hx⟩:=Zx (18446744073709551616 - m);have hc4:IntKind.u64.wrap n=(x:Int):=by rw [IntKind.wrap_u64]; omega
  have hc5:IntKind.u64.wrap (-(x:Int))=(m:Int):=by rw [IntKind.wrap_u64]; omega
  clear hm hx;go_enter Tryz.func78,Tryz.ntmps78;go_wp2_with fail;have hz0:=hW.size;generalize (w.alloc (.cells nz1 35))=W0 at *;refine Zd (ref1_digits m hmb) ?_;rintro e w2 ⟨⟨C,rfl,g1,g2,g3,g4⟩,hb2⟩;have hw2:=hW.trans (hb2.mono hz0);have p2:=o2.below hb2;have HG:=Zh g3;clear g3 hb2 o2 hW;go_wp2_with fail;have q:=ref1_signed (neg:=true) (z:=n) C HG.out g1 aO (by rw [digs_val]; have e:=HM.out; unfold sg; simp; omega);unfold RetM at q;rw [HF.out] at q;refine Zd q ?_;clear q;rintro e u6 ⟨⟨b,C2,rfl,hb1,hb2,hb3⟩,hb4⟩;obtain ⟨A9,n9,c9,hsl⟩:=slC_form n b C2;simp only [numC];rw [hsl];have hk:=(Zb u6.heap.size u6).alloc (Zr _) (.cells #[.bool (sgnN n),.slice A9 n9 c9] 35);have hw6:=hw2.trans (hb4.mono hw2.size);have hw7:=hw6.trans (hk.mono hw6.size);have p3:=(p2.below hb4).below hk;have N3:=Zh (Zi (hb1.below hk) (Zi hsl (show w.heap.size<b by have:=p2.lt; omega)));have hz6:b<(u6.alloc (.cells #[.bool (sgnN n),.slice A9 n9 c9] 35)).heap.size:=aT
  have p3c:=p3.cell;have p3f:=p3.thaw;clear hsl hb1 hb2 hb3 hb4 hk hw6 p2;go_wp2;refine retC (b:=w.heap.size) (v:= .agg #[.bool (sgnN n),.slice A9 n9 c9]) ((p3.set 0 _).set 1 _) (fun w' hw'=>by simp [results,Tryz.results78,go_sem,hw']) rfl (endX (Zr _) rfl N3.out.2.1 hw7 N3.out.1 N3.out.2.2 hz6)
 ·have hc4:IntKind.u64.wrap n=(m:Int):=by rw [IntKind.wrap_u64]; omega
  clear hm;go_enter Tryz.func78,Tryz.ntmps78;go_wp2_with fail;have hz0:=hW.size;generalize (w.alloc (.cells nz1 35))=W0 at *;refine Zd (ref1_digits m hmb) ?_;rintro e w2 ⟨⟨C,rfl,g1,g2,g3,g4⟩,hb2⟩;have hw2:=hW.trans (hb2.mono hz0);have p2:=o2.below hb2;have HG:=Zh g3;clear g3 hb2 o2 hW;go_wp2_with fail;have q:=ref1_signed (neg:=false) (z:=n) C HG.out g1 aO (by rw [digs_val]; have e:=HM.out; unfold sg; simp; omega);unfold RetM at q;rw [HF.out] at q;refine Zd q ?_;clear q;rintro e u6 ⟨⟨b,C2,rfl,hb1,hb2,hb3⟩,hb4⟩;obtain ⟨A9,n9,c9,hsl⟩:=slC_form n b C2;simp only [numC];rw [hsl];have hk:=(Zb u6.heap.size u6).alloc (Zr _) (.cells #[.bool (sgnN n),.slice A9 n9 c9] 35);have hw6:=hw2.trans (hb4.mono hw2.size);have hw7:=hw6.trans (hk.mono hw6.size);have p3:=(p2.below hb4).below hk;have N3:=Zh (Zi (hb1.below hk) (Zi hsl (show w.heap.size<b by have:=p2.lt; omega)));have hz6:b<(u6.alloc (.cells #[.bool (sgnN n),.slice A9 n9 c9] 35)).heap.size:=aT
  have p3c:=p3.cell;have p3f:=p3.thaw;clear hsl hb1 hb2 hb3 hb4 hk hw6 p2;go_wp2;refine retC (b:=w.heap.size) (v:= .agg #[.bool (sgnN n),.slice A9 n9 c9]) ((p3.set 0 _).set 1 _) (fun w' hw'=>by simp [results,Tryz.results78,go_sem,hw']) rfl (endX (Zr _) rfl N3.out.2.1 hw7 N3.out.1 N3.out.2.2 hz6)
theorem ref1_Cmp {w:World} {v1 v2:Value} {z1 z2:Int} (h1:NumAt w v1 z1) (h2:NumAt w v2 z2):Calls Tryz.prog 42 #[v1,v2] w fun r w'=>r = .returned (.int .i64 (ordI z1 z2))/\Below w.heap.size w w':=by
 have G1:=Zh h1;have G2:=Zh h2;obtain ⟨A1,n1,c1,rfl,hc1,hm1,hl1,d1⟩:=h1;obtain ⟨A2,n2,c2,rfl,hc2,hm2,hl2,d2⟩:=h2;obtain ⟨s1,hs1⟩:=Zx (decide (z1<0));obtain ⟨s2,hs2⟩:=Zx (decide (z2<0));rw [hs1] at G1 ⊢;rw [hs2] at G2 ⊢;obtain ⟨o,ho⟩:=Zx (ordI z1 z2);rw [ho];have HS:=Zh (Zi hs1 (Zi hs2 ho));have D1:=Zh d1;have D2:=Zh d2;clear d1 d2 hs1 hs2 ho;have hW:=(((Zb w.heap.size w).alloc (Zr _) (.cells #[.bool s1,.slice A1 n1 c1] 35)).alloc aS (.cells #[.bool s2,.slice A2 n2 c2] 35));have o3:Own ((w.alloc (.cells #[.bool s1,.slice A1 n1 c1] 35)).alloc (.cells #[.bool s2,.slice A2 n2 c2] 35)) w.heap.size #[.bool s1,.slice A1 n1 c1]:=aOwn;have o4:Own ((w.alloc (.cells #[.bool s1,.slice A1 n1 c1] 35)).alloc (.cells #[.bool s2,.slice A2 n2 c2] 35)) (w.heap.size+1) #[.bool s2,.slice A2 n2 c2]:=aOwn;go_enter Tryz.func42,Tryz.ntmps42;go_wp2_with fail;generalize ((w.alloc (.cells #[.bool s1,.slice A1 n1 c1] 35)).alloc (.cells #[.bool s2,.slice A2 n2 c2] 35))=W0 at *;refine Zd (ref_right (G1.out.below hW)) ?_;rintro e w1 ⟨rfl,hb1⟩;have hw1:=hW.trans (hb1.mono hW.size);have p3:=o3.below hb1;have p4:=o4.below hb1;have p4c:=p4.cell;clear hb1 o3 o4 hW;go_wp2_with fail;refine Zd (ref_right (G2.out.below hw1)) ?_;rintro e w2 ⟨rfl,hb1⟩;have hw2:=hw1.trans (hb1.mono hw1.size);replace p3:=p3.below hb1;replace p4:=p4.below hb1;replace p3c:=p3.cell;replace p4c:=p4.cell;clear hb1 hw1;cases s1 <;> cases s2
 ·go_wp2_with fail;have q:=ref1_compare c1 c2 (D1.out.below hw2) (D2.out.below hw2) aO aO;rw [ord_pp (of_decide_eq_false HS.out.1) (of_decide_eq_false HS.out.2.1),HS.out.2.2] at q;refine Zd q ?_;clear q;rintro e w3 ⟨rfl,hb⟩;have hw3:=hw2.trans (hb.mono hw2.size);go_wp2;go_ret;exact ⟨rfl,hw3⟩
 ·go_wp2;go_ret;exact ⟨by rw [<- HS.out.2.2,ordI_gt (by have:=of_decide_eq_false HS.out.1; have:=of_decide_eq_true HS.out.2.1; omega)]; rfl,hw2⟩
 ·go_wp2;go_ret;exact ⟨by rw [<- HS.out.2.2,ordI_lt (by have:=of_decide_eq_true HS.out.1; have:=of_decide_eq_false HS.out.2.1; omega)]; rfl,hw2⟩
 ·go_wp2_with fail;have q:=ref1_compare c2 c1 (D2.out.below hw2) (D1.out.below hw2) aO aO;have e:ordI (z2.natAbs:Nat) (z1.natAbs:Nat)=o:=by
   rw [<- HS.out.2.2];have e1:=of_decide_eq_true HS.out.1;have e2:=of_decide_eq_true HS.out.2.1;unfold ordI
   repeat' split
   all_goals omega
  rw [e] at q;clear e;refine Zd q ?_;clear q;rintro e w3 ⟨rfl,hb⟩;have hw3:=hw2.trans (hb.mono hw2.size);go_wp2;go_ret;exact ⟨rfl,hw3⟩
end Go.Proofs.YtflgngjocgiojaaGreat
