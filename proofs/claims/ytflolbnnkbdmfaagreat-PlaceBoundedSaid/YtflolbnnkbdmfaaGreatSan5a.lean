import Derived.Test.YtflolbnnkbdmfaaGreatRefB
set_option linter.all false
namespace Go.Proofs.YtflolbnnkbdmfaaGreat
open Go.RowKit
set_option maxHeartbeats 8000000
set_option maxRecDepth 100000
def slC (z:Int) (b C:Nat):Value:=if fits z=true/\z≠0 then .slice (some ⟨b,0,none⟩) (digs z.natAbs).length C else .slice none 0 0
def numC (z:Int) (b C:Nat):Value:= .agg #[.bool (sgnN z),slC z b C]
def NumC (w:World) (b C:Nat) (z:Int):Prop:=fits z=true->z≠0->(digs z.natAbs).length<=C/\C<=9223372036854775807/\DigsAt w (some ⟨b,0,none⟩) (digs z.natAbs).length (digs z.natAbs)
theorem slC_form (z:Int) (b C:Nat):∃ A n c,slC z b C = .slice A n c:=by
 unfold slC;split
 ·exact ⟨_,_,_,rfl⟩
 ·exact ⟨_,_,_,rfl⟩
theorem slC_zero (b C:Nat):slC 0 b C = .slice none 0 0:=by unfold slC; rw [if_neg aS]
theorem numC_zero (b C:Nat):numC 0 b C=zeroN:=by unfold numC; rw [slC_zero]; rfl
theorem numC_no {z:Int} (b C:Nat) (h:fits z=false):numC z b C=zeroN:=by
 unfold numC sgnN slC zeroN;rw [if_neg (by rw [h]; simp),h];rfl
theorem numC_yes {z:Int} (b C:Nat) (h:fits z=true) (h0:z≠0):numC z b C = .agg #[.bool (decide (z<0)),.slice (some ⟨b,0,none⟩) (digs z.natAbs).length C]:=by
 unfold numC sgnN slC;rw [if_pos ⟨h,h0⟩,h];rfl
theorem NumC.at_ {w:World} {b C:Nat} {z:Int} (h:NumC w b C z) (hf:fits z=true):NumAt w (numC z b C) z:=by
 by_cases h0:z=0
 ·subst h0;rw [numC_zero];exact num_zero w
 ·rw [numC_yes b C hf h0];have hl:(digs z.natAbs).length<=64:=of_decide_eq_true hf;obtain ⟨h1,h2,h3⟩:=h hf h0;exact ⟨_,_,_,rfl,h1,h2,hl,h3⟩
theorem NumC.below {w w':World} {b C:Nat} {z:Int} (h:NumC w b C z) (hb:Below w.heap.size w w'):NumC w' b C z:=fun h1 h2=>⟨(h h1 h2).1,(h h1 h2).2.1,(h h1 h2).2.2.below hb⟩
theorem NumC.far {w:World} {b C:Nat} {z:Int} (h:NumC w b C z) {p:Addr} (hp:b≠p.block) (x:Value):NumC (w.setCell p x) b C z:=fun h1 h2=>⟨(h h1 h2).1,(h h1 h2).2.1,(h h1 h2).2.2.same (by simp [World.setCell]) fun a e=>by
 cases e;exact Below.heap_setCell _ _ _ b hp⟩
theorem NumC.upd {T:List Nat} {w u:World} {b C:Nat} {z:Int} (h:NumC w b C z) (hT:b∉T) (k:Upd T w u):NumC u b C z:=fun h1 h2=>by
 obtain ⟨h3,h4,h5⟩:=h h1 h2;refine ⟨h3,h4,h5.len,h5.dg,fun hp=>?_⟩;obtain ⟨b',off,e,hlt,hc⟩:=h5.row hp;cases e;exact ⟨_,_,rfl,Zl hlt k.size,fun i hi=>(Zc (a:=⟨_,0+i,none⟩) (k.block _ hlt hT)).trans (hc i hi)⟩
theorem add_off (b off j:Nat):(⟨b,off,none⟩:Addr).add j=⟨b,off+j,none⟩:=by
 unfold Addr.add
 by_cases h:j=0
 ·rw [if_pos h,h]; rfl
 ·rw [if_neg h]
def RetM (w:World) (z:Int) (r:Ending) (w':World):Prop:=(∃ b C,r = .returned (.tuple #[numC z b C,.bool (fits z)])/\NumC w' b C z/\w.heap.size<=b/\b<w'.heap.size)/\Below w.heap.size w w'
def RetX (w:World) (z:Int) (r:Ending) (w':World):Prop:=(∃ b C,r = .returned (numC z b C)/\NumC w' b C z/\w.heap.size<=b/\b<w'.heap.size)/\Below w.heap.size w w'
theorem refD_at {D:List Nat} {i:Nat} (h:i<D.length):(D.map fun d=>Value.int .u32 ((d:Nat):Int))[i]?=some (.int .u32 (dAt D i:Nat)):=by
 rw [List.getElem?_map,List.getElem?_eq_getElem h,dAt_in h]; rfl
theorem own_grown {w w':World} {b:Nat} {cs:Array Value} {row:Option Nat} (h:Own w b cs) (hg:w.grownBy w' row) (hr:∀ r,row=some r->r≠b):Own w' b cs:=
 h.of_block (hg.block b h.lt (fun e=>hr b e.symm rfl))
theorem ref1_signed {w:World} {A:Option Addr} {n:Nat} {D:List Nat} {z:Int} {neg:Bool} (c:Nat) (hv:DigsAt w A n D) (hnc:n<=c) (hc:c<=9223372036854775807) (e:sg neg (vD D)=z) :
 Calls Tryz.prog 119 #[.bool neg,.slice A n c] w (RetM w z):=by
 unfold RetM;obtain ⟨i0,hi,hz0,hz1,hz2⟩:=infoU_parts;obtain ⟨ok,hok⟩:=Zx (fits z);rw [hok];have HZ:=Zh (Zi e hok);clear e;have HV:=Zh hv;clear hok hv;have hW:=(Zb w.heap.size w).alloc (Zr _) (.cells nz1 40);have o0:Own (w.alloc (.cells nz1 40)) w.heap.size nz1:=Own.new rfl;go_enter Tryz.func119,Tryz.ntmps119;go_wp2_with fail;have HT:=Zh (ref1_trim c (HV.out.below hW) hnc hc);refine Zd HT.out ?_;rintro e w2 ⟨rfl,hb2⟩;have hw2:=hW.trans (hb2.mono hW.size);have ht:=trim_sl (HV.out.below hw2) hnc hc;have o1:=o0.below hb2;have htl:=trim_len HV.out.dg HV.out.len;clear HT o0;generalize trimN D n=N at *;have hdg:DigsAt w2 A N (digs (vD D)):=by
  obtain ⟨A',n',c',e,_,_,h2⟩:=ht;cases e;exact h2
 have hok2:ok=decide (N<=64):=by rw [<- HZ.out.2,<- HZ.out.1,fits,sg_abs,htl]
 have HT:=Zh (Zi htl hdg);have HOK:=Zh hok2;clear ht htl hdg hok2 hb2 hW;have o1c:=o1.cell;have o1f:=o1.thaw;have o1z:=o1.lt
 by_cases h64:64<N
 ·have h64i:(64:Int)<(N:Int):=aO
  have hof:ok=false:=by rw [HOK.out]; exact decide_eq_false aO
  subst hof;go_wp2;refine retC (b:=w.heap.size) (v:= .tuple #[zeroN,.bool false]) ((o1.set 0 _).set 1 _) (fun w' hw'=>by simp [results,Tryz.results119,go_sem,hw',zeroN]) rfl ⟨⟨w.heap.size,0,by rw [numC_no _ _ HZ.out.2],fun h=>by (rw [HZ.out.2] at h; cases h),Zr _,by simp [World.setCell]; omega⟩,(hw2.setCell (Zr _) _).setCell (Zr _) _⟩
 ·have hot:ok=true:=by rw [HOK.out]; exact decide_eq_true aO
  subst hot
  by_cases h0:N=0
  ·subst h0;have e0:vD D=0:=digs_nil.1 (List.eq_nil_of_length_eq_zero HT.out.1.symm);have e1:z=0:=by
    rw [<- HZ.out.1,e0];unfold sg;split <;> rfl
   subst e1;go_wp2;refine retC (b:=w.heap.size) (v:= .tuple #[zeroN,.bool true]) ((o1.set 0 _).set 1 _) (fun w' hw'=>by simp [results,Tryz.results119,go_sem,hw',zeroN]) rfl ⟨⟨w.heap.size,0,by rw [numC_zero],fun _ h=>absurd rfl h,Zr _,by simp [World.setCell]; omega⟩,(hw2.setCell (Zr _) _).setCell (Zr _) _⟩
  ·have h0i:¬ (N:Int)=0:=aO
   obtain ⟨b,off,rfl,hbb,hcell⟩:=HT.out.2.row aO;have hs2:=hw2.size;have hrow0:(w2.alloc (.cells #[] 230)).ownsRow w2.heap.size 230 1 (.slice (some ⟨w2.heap.size,0,none⟩) 0 0) 0 []:=by
    have q:=World.ownsRow_lit (base:=w2.heap.size) (e:=230) (size:=1) w2 #[] 0 aS (by unfold maxLen; omega) aS;simpa using q
   have HROW:=Zh hrow0;have HC:=Zh hcell;clear hrow0 hcell;go_wp2_with (at_builtin; go_loud (refine wpList_append_lies _ rfl _ _ _ (by rfl) w2.heap.size 230 i0 (.int .u32 0) 1 4 Tryz.underlying38 hi hz0 hz1 hz2 rfl aO _ 0 [] (by rfl) HROW.out ⟨b,off,none⟩ N c ((digs (vD D)).map fun d=>Value.int .u32 ((d:Nat):Int)) (by rfl) (by rw [List.length_map,<- HT.out.1,Nat.mul_one]) ?c1 ?c2 aO ?c3 ?c4 ?c5 (w2.heap.size+1) aS ?_))
   case c1 =>
    intro j u hu;have hj:j<(digs (vD D)).length:=by
     apply Classical.byContradiction;intro h;rw [List.getElem?_eq_none (by rw [List.length_map]; omega)] at hu;cases hu
    rw [refD_at hj] at hu;cases hu;have q:=HC.out j (by rw [HT.out.1]; exact hj);rw [add_off b off j];exact (Zc (w:=w2) (a:=⟨b,off+j,none⟩) (((Zb w2.heap.size w2).alloc (Zr _) (.cells #[] 230)).block b hbb)).trans q
   case c2 =>
    intro u hu;obtain ⟨d,_,rfl⟩:=List.mem_map.1 hu;rfl
   case c3=>unfold maxLen; omega
   case c4=>omega
   case c5=>simp
   intro g cp w3 ho3 hg3 hat3 hlt3;have hob:∀ r,(Value.slice (some ⟨w2.heap.size,0,none⟩) 0 0).ownBlock=some r->w2.heap.size<=r:=fun r h=>ownBlock_ge HROW.out h
   have hB3:=Below.grown (hw2.alloc hs2 (.cells #[] 230)) hg3 aT (fun r h=>by have:=hob r h; omega);have o3:Own w3 w.heap.size nz1:=own_grown (o1.alloc _) hg3 (fun r h=>by have:=hob r h; omega);have hgz:w.heap.size<g:=by
    rcases hat3 with h | h
    ·have:=hob _ h; omega
    ·omega
   have e6:0<vD D:=by
    apply Classical.byContradiction;intro h;apply h0;rw [HT.out.1,show vD D=0 by omega];rfl
   have e7:decide (z<0)=neg:=by rw [<- HZ.out.1,sg_neg _ _ e6]
   have e8:z.natAbs=vD D:=by rw [<- HZ.out.1,sg_abs]
   have hdg3:N<=cp/\cp<=9223372036854775807/\DigsAt w3 (some ⟨g,0,none⟩) N (digs (vD D)):=by
    have ho3':w3.ownsRow w2.heap.size 230 1 (.slice (some ⟨g,0,none⟩) N cp) N ((digs (vD D)).map fun d=>Value.int .u32 ((d:Nat):Int)):=by simpa using ho3
    obtain ⟨_,_,q1,q2,q3⟩:=ownsRow_cell ho3' aO;unfold maxLen at q2;refine ⟨q1,q2,HT.out.1.symm,digs_dg _,fun _=>⟨g,0,rfl,hlt3,fun i hi=>?_⟩⟩;rw [Nat.zero_add,q3 i aO];exact refD_at (D:=digs (vD D)) (i:=i) (by rw [<- HT.out.1]; exact hi)
   have HE:=Zh (Zi e6 (Zi e7 e8));clear e6 e7 e8;have o3c:=o3.cell;have o3f:=o3.thaw;have HN:=Zh hdg3;have HB:=Zh hB3;clear ho3 hg3 hat3 hob hdg3 hB3 o1 o1c o1f HROW HC;go_wp2;refine retC (b:=w.heap.size) (v:= .tuple #[.agg #[.bool neg,.slice (some ⟨g,0,none⟩) N cp],.bool true]) ((o3.set 0 _).set 1 _) (fun w' hw'=>by simp [results,Tryz.results119,go_sem,hw',zeroN]) rfl ⟨⟨g,cp,?_,fun _ _=>?_,aO,by simp [World.setCell]; omega⟩,(HB.out.setCell (Zr _) _).setCell (Zr _) _⟩
   ·rw [numC_yes g cp HZ.out.2 (by have:=HE.out; omega),HE.out.2.1,HE.out.2.2,<- HT.out.1]
   ·rw [HE.out.2.2,<- HT.out.1];exact ⟨HN.out.1,HN.out.2.1,HN.out.2.2.same (by simp [World.setCell]) fun a e=>by
     cases e;exact (Below.heap_setCell _ _ _ g aT).trans (Below.heap_setCell _ _ _ g aT)⟩
theorem endX {w W:World} {z:Int} {s:Bool} {A:Option Addr} {n c b C B:Nat} (hB:w.heap.size<=B) (e1:sgnN z=s) (e2:slC z b C = .slice A n c) (hb:Below w.heap.size w W) (hn:NumC W b C z) (h1:B<b) (h2:b<W.heap.size) :
 RetX w z (.returned (.agg #[.bool s,.slice A n c])) ((W.setCell ⟨B,0,none⟩ (.bool s)).setCell ⟨B,1,none⟩ (.slice A n c)):=
 ⟨⟨b,C,by rw [numC,e1,e2],(hn.far aT _).far aT _,aO,by simp [World.setCell]; exact h2⟩,(hb.setCell hB _).setCell hB _⟩
theorem ref1_Of {w:World} (n:Int) (h1:-9223372036854775808<=n) (h2:n<=9223372036854775807):Calls Tryz.prog 47 #[.int .i64 n] w (RetX w n):=by
 obtain ⟨m,hm⟩:=Zx (n.natAbs);have hmb:m<18446744073709551616:=aO
 have HM:=Zh hm;have HF:Hid (fits n=true):=Zh (fits_small aO);have hW:=(Zb w.heap.size w).alloc (Zr _) (.cells nz1 40);have o2:Own (w.alloc (.cells nz1 40)) w.heap.size nz1:=Own.new rfl
 by_cases hn:n<0
 ·obtain ⟨x,hx⟩:=Zx (18446744073709551616 - m);have hc4:IntKind.u64.wrap n=(x:Int):=by rw [IntKind.wrap_u64]; omega
  have hc5:IntKind.u64.wrap (-(x:Int))=(m:Int):=by rw [IntKind.wrap_u64]; omega
  clear hm hx;go_enter Tryz.func47,Tryz.ntmps47;go_wp2_with fail;have hz0:=hW.size;generalize (w.alloc (.cells nz1 40))=W0 at *;refine Zd (ref1_digits m hmb) ?_;rintro e w2 ⟨⟨C,rfl,g1,g2,g3,g4⟩,hb2⟩;have hw2:=hW.trans (hb2.mono hz0);have p2:=o2.below hb2;have HG:=Zh g3;clear g3 hb2 o2 hW;go_wp2_with fail;have q:=ref1_signed (neg:=true) (z:=n) C HG.out g1 aO (by rw [digs_val]; have e:=HM.out; unfold sg; simp; omega);unfold RetM at q;rw [HF.out] at q;refine Zd q ?_;clear q;rintro e u6 ⟨⟨b,C2,rfl,hb1,hb2,hb3⟩,hb4⟩;obtain ⟨A9,n9,c9,hsl⟩:=slC_form n b C2;simp only [numC];rw [hsl];have hk:=(Zb u6.heap.size u6).alloc (Zr _) (.cells #[.bool (sgnN n),.slice A9 n9 c9] 40);have hw6:=hw2.trans (hb4.mono hw2.size);have hw7:=hw6.trans (hk.mono hw6.size);have p3:=(p2.below hb4).below hk;have N3:=Zh (Zi (hb1.below hk) (Zi hsl (show w.heap.size<b by have:=p2.lt; omega)));have hz6:b<(u6.alloc (.cells #[.bool (sgnN n),.slice A9 n9 c9] 40)).heap.size:=aT
  have p3c:=p3.cell;have p3f:=p3.thaw;clear hsl hb1 hb2 hb3 hb4 hk hw6 p2;go_wp2;refine retC (b:=w.heap.size) (v:= .agg #[.bool (sgnN n),.slice A9 n9 c9]) ((p3.set 0 _).set 1 _) (fun w' hw'=>by simp [results,Tryz.results47,go_sem,hw']) rfl (endX (Zr _) rfl N3.out.2.1 hw7 N3.out.1 N3.out.2.2 hz6)
 ·have hc4:IntKind.u64.wrap n=(m:Int):=by rw [IntKind.wrap_u64]; omega
  clear hm;go_enter Tryz.func47,Tryz.ntmps47;go_wp2_with fail;have hz0:=hW.size;generalize (w.alloc (.cells nz1 40))=W0 at *;refine Zd (ref1_digits m hmb) ?_;rintro e w2 ⟨⟨C,rfl,g1,g2,g3,g4⟩,hb2⟩;have hw2:=hW.trans (hb2.mono hz0);have p2:=o2.below hb2;have HG:=Zh g3;clear g3 hb2 o2 hW;go_wp2_with fail;have q:=ref1_signed (neg:=false) (z:=n) C HG.out g1 aO (by rw [digs_val]; have e:=HM.out; unfold sg; simp; omega);unfold RetM at q;rw [HF.out] at q;refine Zd q ?_;clear q;rintro e u6 ⟨⟨b,C2,rfl,hb1,hb2,hb3⟩,hb4⟩;obtain ⟨A9,n9,c9,hsl⟩:=slC_form n b C2;simp only [numC];rw [hsl];have hk:=(Zb u6.heap.size u6).alloc (Zr _) (.cells #[.bool (sgnN n),.slice A9 n9 c9] 40);have hw6:=hw2.trans (hb4.mono hw2.size);have hw7:=hw6.trans (hk.mono hw6.size);have p3:=(p2.below hb4).below hk;have N3:=Zh (Zi (hb1.below hk) (Zi hsl (show w.heap.size<b by have:=p2.lt; omega)));have hz6:b<(u6.alloc (.cells #[.bool (sgnN n),.slice A9 n9 c9] 40)).heap.size:=aT
  have p3c:=p3.cell;have p3f:=p3.thaw;clear hsl hb1 hb2 hb3 hb4 hk hw6 p2;go_wp2;refine retC (b:=w.heap.size) (v:= .agg #[.bool (sgnN n),.slice A9 n9 c9]) ((p3.set 0 _).set 1 _) (fun w' hw'=>by simp [results,Tryz.results47,go_sem,hw']) rfl (endX (Zr _) rfl N3.out.2.1 hw7 N3.out.1 N3.out.2.2 hz6)
def easyD (M:Nat):Prop:=M<18446744073709551616
theorem easyD.len {M:Nat} (h:easyD M):(digs M).length<=2:=digs_len.2 (by unfold easyD at h; omega)
theorem fits1:fits 1=true:=fits_small (by decide)
theorem ref3_whole {w:World} (n:Int) (h1:-9223372036854775808<=n) (h2:n<=9223372036854775807):Calls Tryz.prog 178 #[.int .i64 n] w (RetX w n):=by
 have hW:=(Zb w.heap.size w).alloc (Zr _) (.cells nz1 40);have o2:Own (w.alloc (.cells nz1 40)) w.heap.size nz1:=Own.new rfl;have hn:=Zh (Zi h1 h2);clear h1 h2;go_enter Tryz.func178,Tryz.ntmps178;go_wp2_with fail;generalize (w.alloc (.cells nz1 40))=W0 at *;refine Zd (ref1_Of n hn.out.1 hn.out.2) ?_;rintro e u6 ⟨⟨b,C,rfl,g1,g2,g3⟩,hb⟩;obtain ⟨A9,n9,c9,hsl⟩:=slC_form n b C;simp only [numC];rw [hsl];have hw5:=hW.trans (hb.mono hW.size);have p3:=o2.below hb;have N3:=Zh (Zi g1 (Zi hsl (show w.heap.size<b by have:=o2.lt; omega)));have p3c:=p3.cell;have p3f:=p3.thaw;clear hsl g1 g2 hb hW o2;go_wp2;refine retC (b:=w.heap.size) (v:= .agg #[.bool (sgnN n),.slice A9 n9 c9]) ((p3.set 0 _).set 1 _) (fun w' hw'=>by simp [results,Tryz.results178,go_sem,hw']) rfl (endX (Zr _) rfl N3.out.2.1 hw5 N3.out.1 N3.out.2.2 g3)
theorem ref3_sameNum {w:World} {v1 v2:Value} {s1 s2:Bool} {D1 D2:List Nat} (h1:RawAt w v1 s1 D1) (h2:RawAt w v2 s2 D2) :
 Calls Tryz.prog 216 #[v1,v2] w fun r w'=>r = .returned (.bool (decide (s1=s2/\D1=D2)))/\Below w.heap.size w w':=by
 obtain ⟨A1,n1,c1,rfl,hc1,hm1,d1⟩:=h1;obtain ⟨A2,n2,c2,rfl,hc2,hm2,d2⟩:=h2;have hl1:=d1.len;have hl2:=d2.len;have hW:=(((Zb w.heap.size w).alloc (Zr _) (.cells #[.bool s1,.slice A1 n1 c1] 40)).alloc aS (.cells #[.bool s2,.slice A2 n2 c2] 40));have o2:Own ((w.alloc (.cells #[.bool s1,.slice A1 n1 c1] 40)).alloc (.cells #[.bool s2,.slice A2 n2 c2] 40)) w.heap.size #[.bool s1,.slice A1 n1 c1]:=aOwn;have o3:Own ((w.alloc (.cells #[.bool s1,.slice A1 n1 c1] 40)).alloc (.cells #[.bool s2,.slice A2 n2 c2] 40)) (w.heap.size+1) #[.bool s2,.slice A2 n2 c2]:=aOwn
 by_cases hs:s1=s2
 ·by_cases hn:n1=n2
  ·subst hs;subst hn;have hsb:(s1==s1)=true:=by cases s1 <;> rfl
   obtain ⟨o,ho⟩:=Zx (decide (s1=s1/\D1=D2));rw [ho];have hnm:(n1:Int)<=9223372036854775807:=aO
   have HL:=Zh (Zi hl1 (Zi hl2 ho));have H1:=Zh d1;have H2:=Zh d2;clear d1 d2 hl1 hl2 ho;go_enter Tryz.func216,Tryz.ntmps216;go_wp2;generalize ((w.alloc (.cells #[.bool s1,.slice A1 n1 c1] 40)).alloc (.cells #[.bool s1,.slice A2 n1 c2] 40))=W0 at *;go_loopw [5] (fun i wr=>∃ k:Nat,k<=n1/\i = .int .i64 k/\(∀ i,i<k->dAt D1 i=dAt D2 i)/\Below w.heap.size w wr/\Own wr w.heap.size #[.bool s1,.slice A1 n1 c1]/\Own wr (w.heap.size+1) #[.bool s1,.slice A2 n1 c2]) (fun i _=>n1 - (intOf i).toNat)
   case atStart=>exact ⟨0,Nat.zero_le _,rfl,fun i a=>aO,hW,o2,o3⟩
   case round =>
    clear hW o2 o3;obtain ⟨k,hk,rfl,hall,hw,o2,o3⟩:=hrel;have HA:=Zh hall;clear hall;have o2c:=o2.cell
    by_cases hkn:k<n1
    ·have hkni:(k:Int)<(n1:Int):=aO
     obtain ⟨d,hd⟩:=Zx (dAt D1 k);obtain ⟨e,he⟩:=Zx (dAt D2 k);obtain ⟨b,off,hA,hb,a1⟩:=(H1.out.below hw).cells hkn hd;obtain ⟨b2,off2,hA2,hb2,a2⟩:=(H2.out.below hw).cells hkn he;subst hA;subst hA2;have HD:=Zh (Zi hd he);clear hd he;go_wp2
     by_cases heq:d=e
     ·subst heq;refine region_late 11 [] aK aK (by rfl) ?_;apply Zs;refine ⟨fun v hv hne=>?_,fun u hu=>?_⟩
      ·simp only [TK];have f1:=fun x:Later [] wr v=>(x.cell b (off+k) hb aS).trans a1
       have f2:=fun x:Later [] wr v=>(x.cell b2 (off2+k) hb2 aS).trans a2
       have g1:=fun x=>(o2.later (v:=v) (T:=[]) aS x).cell
       have g2:=fun x=>(o3.later (v:=v) (T:=[]) aS x).cell
       exact qz
      ·simp only [TK];refine late_nil ?_
       (try simp only [LN])
       have hw2:=hw.trans (hu.mono hw.size);have p2:=o2.below hu;have p3:=o3.below hu;clear o2 o3 o2c;go_wp2;go_roundw
       case rel=>exact ⟨k+1,aO,by go_num,fun i a=>by
        rcases Nat.eq_or_lt_of_le (Nat.lt_succ_iff.1 a) with h | h
        ·rw [h,HD.out.1,HD.out.2]
        ·exact HA.out i h,hw2,p2,p3⟩
       case measure=>simp [intOf]; omega
     ·have hbe:((d:Int)==(e:Int))=false:=aT
      have hof:o=false:=by
       rw [<- HL.out.2.2];refine decide_eq_false fun ⟨_,h⟩=>heq ?_
       rw [<- HD.out.1,<- HD.out.2,h]
      subst hof;refine region_late 11 [] aK aK (by rfl) ?_;apply Zs;refine ⟨fun v hv hne=>?_,fun u hu=>?_⟩
      ·simp only [TK];have f1:=fun x:Later [] wr v=>(x.cell b (off+k) hb aS).trans a1
       have f2:=fun x:Later [] wr v=>(x.cell b2 (off2+k) hb2 aS).trans a2
       have g1:=fun x=>(o2.later (v:=v) (T:=[]) aS x).cell
       have g2:=fun x=>(o3.later (v:=v) (T:=[]) aS x).cell
       exact qz
      ·simp only [TK];refine late_nil ?_
       (try simp only [LN])
       have hw2:=hw.trans (hu.mono hw.size);go_wp2;go_ret;exact ⟨rfl,hw2⟩
    ·obtain rfl:k=n1:=aO
     have hkni:¬ (k:Int)<(k:Int):=aO
     have hot:o=true:=by
      rw [<- HL.out.2.2];exact decide_eq_true ⟨by first | trivial | rfl,eq_of_dAt (by rw [HL.out.1,HL.out.2.1]) (fun i hi=>HA.out i (by rw [HL.out.1] at hi; exact hi))⟩
     subst hot;go_wp2;go_ret;exact ⟨rfl,hw⟩
  ·rw [sameRaw (by rw [hl1,hl2]; exact fun h=>hn h.2)];subst hs;have hni:¬ (n1:Int)=(n2:Int):=aO
   clear d1 d2 hl1 hl2;go_enter Tryz.func216,Tryz.ntmps216;go_wp2;go_ret;exact ⟨rfl,hW⟩
 ·rw [sameRaw fun h=>hs h.1];clear d1 d2 hl1 hl2;go_enter Tryz.func216,Tryz.ntmps216;cases s1 <;> cases s2
  ·exact absurd rfl hs
  ·go_wp2;go_ret;exact ⟨rfl,hW⟩
  ·go_wp2;go_ret;exact ⟨rfl,hW⟩
  ·exact absurd rfl hs
theorem num_sameV {w:World} {v1 v2:Value} {z1 z2:Int} (h1:NumAt w v1 z1) (h2:NumAt w v2 z2):Calls Tryz.prog 216 #[v1,v2] w fun r w'=>r = .returned (.bool (decide (z1=z2)))/\Below w.heap.size w w':=by
 have q:=ref3_sameNum h1.raw.1 h2.raw.1;have e:decide (decide (z1<0)=decide (z2<0)/\digs z1.natAbs=digs z2.natAbs)=decide (z1=z2):=by
  refine decide_eq_decide.2 ⟨fun ⟨a,b⟩=>?_,fun h=>by rw [h]; exact ⟨rfl,rfl⟩⟩;have b2:=congrArg vD b;rw [digs_val,digs_val] at b2;have a2:(z1<0)↔(z2<0):=decide_eq_decide.1 a;omega
 rw [e] at q;exact q
theorem num_sameQ {w:World} {v1 v2:Value} {z1 z2:Int} (h1:NumAt w v1 z1) (h2:NumAt w v2 z2):Calls Tryz.prog 85 #[v1,v2] w fun r w'=>r = .returned (.bool (decide (z1=z2)))/\Below w.heap.size w w':=by
 have q:=ref1_Same h1.raw.1 h2.raw.1;have e:decide (decide (z1<0)=decide (z2<0)/\digs z1.natAbs=digs z2.natAbs)=decide (z1=z2):=by
  refine decide_eq_decide.2 ⟨fun ⟨a,b⟩=>?_,fun h=>by rw [h]; exact ⟨rfl,rfl⟩⟩;have b2:=congrArg vD b;rw [digs_val,digs_val] at b2;have a2:(z1<0)↔(z2<0):=decide_eq_decide.1 a;omega
 rw [e] at q;exact q
theorem ref3_Same {w:World} {v1 v2:Value} {p q p' q':Int} (h1:RatAt w v1 p q) (h2:RatAt w v2 p' q'):Calls Tryz.prog 151 #[v1,v2] w fun r w'=>r = .returned (.bool (decide (p=p')&&decide (q=q')))/\Below w.heap.size w w':=by
 obtain ⟨s1,A1,n1,c1,s2,A2,n2,c2,rfl,g1,g2⟩:=h1;obtain ⟨s3,A3,n3,c3,s4,A4,n4,c4,rfl,g3,g4⟩:=h2;obtain ⟨a,ha⟩:=Zx (decide (p=p'));obtain ⟨b,hb⟩:=Zx (decide (q=q'));rw [ha,hb];have G1:=Zh g1;have G2:=Zh g2;have G3:=Zh g3;have G4:=Zh g4;have HA:=Zh (Zi ha hb);clear g1 g2 g3 g4 ha hb;have hW:=((Zb w.heap.size w).alloc (Zr _) (.cells #[.bool s1,.slice A1 n1 c1,.bool s2,.slice A2 n2 c2] 42)).alloc aS (.cells #[.bool s3,.slice A3 n3 c3,.bool s4,.slice A4 n4 c4] 42);have o1:Own ((w.alloc (.cells #[.bool s1,.slice A1 n1 c1,.bool s2,.slice A2 n2 c2] 42)).alloc (.cells #[.bool s3,.slice A3 n3 c3,.bool s4,.slice A4 n4 c4] 42)) w.heap.size #[.bool s1,.slice A1 n1 c1,.bool s2,.slice A2 n2 c2]:=aOwn;have o2:Own ((w.alloc (.cells #[.bool s1,.slice A1 n1 c1,.bool s2,.slice A2 n2 c2] 42)).alloc (.cells #[.bool s3,.slice A3 n3 c3,.bool s4,.slice A4 n4 c4] 42)) (w.heap.size+1) #[.bool s3,.slice A3 n3 c3,.bool s4,.slice A4 n4 c4]:=aOwn;go_enter Tryz.func151,Tryz.ntmps151;go_wp2_with fail;generalize ((w.alloc (.cells #[.bool s1,.slice A1 n1 c1,.bool s2,.slice A2 n2 c2] 42)).alloc (.cells #[.bool s3,.slice A3 n3 c3,.bool s4,.slice A4 n4 c4] 42))=W0 at *;have x:=num_sameV (G1.out.below hW) (G3.out.below hW);rw [HA.out.1] at x;refine Zd x ?_;clear x;rintro e u1 ⟨rfl,hb⟩;have hw1:=hW.trans (hb.mono hW.size);have p1:=o1.below hb;have p2:=o2.below hb;have p1c:=p1.cell;have p2c:=p2.cell;clear hb o1 o2 hW;cases a
 ·go_wp2;go_ret;exact ⟨rfl,hw1⟩
 ·go_wp2_with fail;have x:=num_sameV (G2.out.below hw1) (G4.out.below hw1);rw [HA.out.2] at x;refine Zd x ?_;clear x;rintro e u2 ⟨rfl,hb⟩;have hw2:=hw1.trans (hb.mono hw1.size);go_wp2;go_ret;exact ⟨rfl,hw2⟩
theorem RatsA.at_ {w:World} {b off n:Nat} {Q:Nat->QI} (h:RatsA w (some ⟨b,off,none⟩) n Q) {i:Nat} (hi:i<n):b<w.heap.size/\∃ s1 A1 n1 c1 s2 A2 n2 c2,w.cell? ⟨b,off+i*4,none⟩=some (.bool s1)/\w.cell? ⟨b,off+i*4+1,none⟩=some (.slice A1 n1 c1)/\w.cell? ⟨b,off+i*4+2,none⟩=some (.bool s2)/\w.cell? ⟨b,off+i*4+3,none⟩=some (.slice A2 n2 c2)/\RatAt w (.agg #[.bool s1,.slice A1 n1 c1,.bool s2,.slice A2 n2 c2]) (Q i).1 (Q i).2:=by
 obtain ⟨b',off',e,hlt,hc⟩:=h aO;cases e;obtain ⟨s1,A1,n1,c1,s2,A2,n2,c2,e1,e2,e3,e4,h1,h2⟩:=hc i hi;exact ⟨hlt,s1,A1,n1,c1,s2,A2,n2,c2,e1,e2,e3,e4,_,_,_,_,_,_,_,_,rfl,h1,h2⟩
def numCB (T:List Nat) (z:Int):EBS T where
 val p:=numC z p.1 p.2
 R p u:=p.1∉T/\NumC u p.1 p.2 z
 st _ _ _ h k:=⟨h.1,h.2.upd h.1 k⟩
theorem numCB_val {T:List Nat} {z:Int} {p:Nat×Nat}:(numCB T z).val p=numC z p.1 p.2:=rfl
def ratC (p q:Int) (b1 C1 b2 C2:Nat):Value:= .agg #[.bool (sgnN p),slC p b1 C1,.bool (sgnN q),slC q b2 C2]
theorem NumC.at2 {w:World} {b C:Nat} {z:Int} (h:NumC w b C z) (hf:fits z=true) {A:Option Addr} {n c:Nat} (e:slC z b C = .slice A n c):NumAt w (.agg #[.bool (sgnN z),.slice A n c]) z:=by
 have:=h.at_ hf;rw [numC,e] at this;exact this
def pk3 (C1 b2 C2:Nat):Nat:=C1+18446744073709551616*(C2+18446744073709551616*b2)
def un1 (p:Nat):Nat:=p%18446744073709551616
def un2 (p:Nat):Nat:=p / 18446744073709551616%18446744073709551616
def un3 (p:Nat):Nat:=p / 18446744073709551616 / 18446744073709551616
theorem un_pk {C1 b2 C2:Nat} (h1:C1<18446744073709551616) (h2:C2<18446744073709551616):un1 (pk3 C1 b2 C2)=C1/\un2 (pk3 C1 b2 C2)=C2/\un3 (pk3 C1 b2 C2)=b2:=by
 unfold un1 un2 un3 pk3;refine ⟨aO,aO,aO⟩
theorem NumC.cap {w:World} {b C:Nat} {z:Int} (h:NumC w b C z):∃ C',C'<18446744073709551616/\slC z b C'=slC z b C/\NumC w b C' z:=by
 by_cases h1:fits z=true/\z≠0
 ·exact ⟨C,by have:=(h h1.1 h1.2).2.1; omega,rfl,h⟩
 ·refine ⟨0,aO,?_,fun a b=>absurd ⟨a,b⟩ h1⟩;unfold slC;rw [if_neg h1,if_neg h1]
theorem NumC.apart {w:World} {b C:Nat} {z:Int} (h:NumC w b C z) (hf:fits z=true) (h0:z≠0) {e:Nat} {cs:Array Value} (ho:Own w e cs) (hn:noU cs):b≠e:=fun he=>by
 subst he;obtain ⟨_,_,h3⟩:=h hf h0;have hp:0<(digs z.natAbs).length:=by
  rcases Nat.eq_zero_or_pos (digs z.natAbs).length with h4 | h4
  ·have:=digs_nil.1 (List.eq_nil_of_length_eq_zero h4);omega
  ·exact h4
 obtain ⟨b',off,e',_,hc⟩:=h3.row hp;cases e';have h4:=hc 0 hp;rw [ho.cell] at h4;exact hn _ _ h4
theorem num_sameR {w:World} {v1 v2:Value} {z:Int} (h1:NumAt w v1 z) (h2:NumAt w v2 z):Calls Tryz.prog 85 #[v1,v2] w fun r w'=>r = .returned (.bool true)/\Below w.heap.size w w':=by
 have q:=num_sameQ h1 h2;rw [decide_eq_true rfl] at q;exact q
theorem RatAt.keeps {w u:World} {v:Value} {p q:Int} (h:RatAt w v p q) (hk:Keeps [] w u):RatAt u v p q:=by
 obtain ⟨s1,A1,n1,c1,s2,A2,n2,c2,e,h1,h2⟩:=h;exact ⟨s1,A1,n1,c1,s2,A2,n2,c2,e,h1.keeps hk,h2.keeps hk⟩
theorem NumsX.at_ {X:Nat->Prop} {w:World} {b off n:Nat} {Z:List Int} (h:NumsX X w (some ⟨b,off,none⟩) n Z) {i:Nat} (hi:i<n):b<w.heap.size/\∃ s B m c,w.cell? ⟨b,off+i*2,none⟩=some (.bool s)/\w.cell? ⟨b,off+i*2+1,none⟩=some (.slice B m c)/\NumAt w (.agg #[.bool s,.slice B m c]) (zAt Z i):=by
 obtain ⟨b',off',e,hlt,_,hc⟩:=h.row aO;cases e;obtain ⟨s,B,m,c,e1,e2,_,h1⟩:=hc i hi;exact ⟨hlt,s,B,m,c,e1,e2,h1⟩
end Go.Proofs.YtflolbnnkbdmfaaGreat
namespace Go.Proofs.YtflolbnnkbdmfaaGreat
theorem rowF_sys1 {M:List (List Int)} {b:List Int} (hb:b.length=M.length) {i:Nat} (hi:i<M.length) (hw:(rAt M i).length=cols M):(∀ j,j<cols M->rowF (sysL M b M.length) i j=iAt (rAt M i) j)/\rowF (sysL M b M.length) i (cols M)=iAt b i:=by
 unfold rowF;rw [rAt_sysL M b hi];unfold sysR;rw [if_pos aO];unfold zAt iAt;refine ⟨fun j hj=>?_,?_⟩
 ·rw [Ze,List.getElem?_append_left aO,<- Ze]
 ·rw [Ze,List.getElem?_append_right aO,hw,Nat.sub_self];rfl
theorem rankS_Z {M:List (List Int)} {b:List Int} (h:matCheck M=0) (hb:b.length=M.length):rankS M b=rankZ M:=by
 obtain ⟨_,_,h3,_⟩:=matCheck_ok h;have hr:rankS M b=(runB ⟨sysL M b M.length,1,0⟩ (cols M)).a:=by
  unfold rankS;simpa using leadsB_len ⟨sysL M b M.length,1,0⟩ (cols M)
 obtain ⟨a1,a2⟩:=rankZ_fact h;obtain ⟨b1,b2⟩:=fact_stage (wide_sys1 h3 hb) (c:=cols M) aO;rw [sysL_len] at b1 b2;rw [hr];refine Nat.le_antisymm (b2 _ ?_) (a2 _ ?_)
 ·exact a1.congr fun i hi j hj=>(rowF_sys1 hb hi (h3 i hi)).1 j hj
 ·exact b1.congr fun i hi j hj=>((rowF_sys1 hb hi (h3 i hi)).1 j hj).symm
structure SolZ (M:List (List Int)) (b:List Int) (x:Nat->QI) (N:Nat->Int) (D:Int):Prop where
 ne:D≠0
 dsm:D.natAbs<2^300
 nsm:∀ c,(N c).natAbs<2^300
 eq:∀ c,x c=toQ (N c) D
 row:∀ y,y<M.length->sumF (fun c=>iAt (rAt M y) c*N c) (cols M)=D*iAt b y
theorem solve_mean {M:List (List Int)} {b:List Int} (h1:matCheck M=0) (h2:cols M=M.length) (h3:b.length=M.length) (h4:anyF (fun k=>largeI (iAt b k)) b.length=false) :
 ∃ x,FineS M b x/\(rankZ M=M.length->∃ N D,SolZ M b x N D):=by
 obtain ⟨hn,hk8,hw0,_⟩:=matCheck_ok h1;have hw:=wide_sys1 hw0 h3;obtain ⟨π,cs,hI,hl⟩:=InvB.run2 hw (cols M) aO;have he:=ent_sys1 h1 h3 h4;have hale:=hI.a_le;rw [sysL_len] at hale;have hra:rankS M b=(runB ⟨sysL M b M.length,1,0⟩ (cols M)).a:=by
  unfold rankS;have:=leadsB_len ⟨sysL M b M.length,1,0⟩ (cols M);simpa using this
 have key:¬ rankS M b<M.length->BackQ (runB ⟨sysL M b M.length,1,0⟩ (cols M)).L (fun k=>toQ (cramN M.length (fun i=>rowF (sysL M b M.length) (π i)) M.length k) (cramD M.length (fun i=>rowF (sysL M b M.length) (π i)))) M.length M.length/\∃ N D,SolZ M b (fun k=>toQ (cramN M.length (fun i=>rowF (sysL M b M.length) (π i)) M.length k) (cramD M.length (fun i=>rowF (sysL M b M.length) (π i)))) N D:=fun hr=>by
  have hid:=inc_id (cs:=cs) (n:=M.length) (fun t ht=>by have:=hI.col t aO; omega) (fun t u h5 h6=>hI.inc t u h5 aO);obtain ⟨hB,hD,hN,hDs⟩:=back_ok (L:=(runB ⟨sysL M b M.length,1,0⟩ (cols M)).L) (O:=fun i=>rowF (sysL M b M.length) (π i)) (cs:=cs) (f:=M.length) (last:=M.length) (wd:=cols M+1) aO aO aO hid (fun t ht=>hI.nz t aO) (fun k hk j hj=>hI.high k aO j hj) (fun i hi c hc=>he _ (hI.perm i (by rw [sysL_len]; omega)) c hc);refine ⟨hB,_,_,hD,hDs,hN,fun c=>rfl,fun y hy=>?_⟩;have hyl:y<(sysL M b M.length).length:=by rw [sysL_len]; exact hy
  obtain ⟨i,hi,rfl⟩:=hI.sur y hyl;rw [sysL_len] at hi;have h5:=cram_row (O:=fun i=>rowF (sysL M b M.length) (π i)) (f:=M.length) (l:=M.length) (i:=i) hi;obtain ⟨e1,e2⟩:=rowF_sys1 h3 hy (hw0 _ hy);rw [h2] at e2;rw [<- e2,<- h5,h2];refine sumF_eq fun c hc=>?_
  rw [e1 c aO];grind
 by_cases hr:rankS M b<M.length
 ·refine ⟨fun _=>(0,1),fun _ _ _ _=>⟨solve_fine h1 h2 h3 h4,fun h=>absurd hr h⟩,fun h=>?_⟩;rw [rankS_Z h1 h3] at hr;omega
 ·obtain ⟨k1,k2⟩:=key hr;exact ⟨_,fun _ _ _ _=>⟨solve_fine h1 h2 h3 h4,fun _=>k1⟩,fun _=>k2⟩
theorem full_unique {M:List (List Int)} (h:matCheck M=0) (hc:cols M=M.length) (hr:rankZ M=M.length) (W:Nat->Int) (hW:∀ y,y<M.length->sumF (fun c=>iAt (rAt M y) c*W c) (cols M)=0):∀ c,c<cols M->W c=0:=by
 obtain ⟨_,_,h3,_⟩:=matCheck_ok h;obtain ⟨π,cs,hI⟩:=InvB.run (wide_sys h3) (cols M) (Zr _);have ha:(runB ⟨sysL M [] M.length,1,0⟩ (cols M)).a=M.length:=(rankZ_A h).symm.trans hr;have hnz:=hI.nz;have hcol:=hI.col;have hinc:=hI.inc;have hperm:=hI.perm;rw [ha] at hnz hcol hinc;rw [sysL_len] at hperm;have hid:=inc_id (cs:=cs) (n:=M.length) (fun t ht=>by have:=hcol t ht; omega) hinc;have hnz2:∀ t,t<=M.length->minD t (fun i=>rowF (sysL M [] M.length) (π i)) id≠0:=fun t ht=>by
  have e:minD t (fun i=>rowF (sysL M [] M.length) (π i)) id=minD t (fun i=>rowF (sysL M [] M.length) (π i)) cs:=minD_eq (fun _ _=>rfl) (fun b hb=>(hid b aO).symm);rw [e];exact hnz t ht
 rw [hc] at hW ⊢;refine indep (transp_ne hnz2) W (fun t ht=>?_);rw [<- hW (π t) (hperm t ht)];refine sumF_eq fun c hc=>?_
 show W c*rowF (sysL M [] M.length) (π t) c=_;rw [rowF_sys (hperm t ht)];exact Int.mul_comm _ _
end Go.Proofs.YtflolbnnkbdmfaaGreat
namespace Go.Proofs.YtflolbnnkbdmfaaGreat
open Go.RowKit
theorem RatsO.rats {W:World} {b n:Nat} {x:Nat->QI} (h:RatsO W b x 0 n):RatsA W (some ⟨b,0,none⟩) n x:=fun _=>by
 obtain ⟨cs,ho,hz,hc⟩:=h;have ho':Own W b cs:=⟨_,ho⟩;refine ⟨b,0,rfl,ho'.lt,fun i hi=>?_⟩;obtain ⟨s1,A1,n1,c1,s2,A2,n2,c2,e1,e2,e3,e4,hr⟩:=hc i (Nat.zero_le _) hi;refine ⟨s1,A1,n1,c1,s2,A2,n2,c2,?_,?_,?_,?_,hr.2.2.1,hr.2.2.2⟩
 ·rw [Nat.zero_add,ho'.cell]; exact e1
 ·rw [Nat.zero_add,ho'.cell]; exact e2
 ·rw [Nat.zero_add,ho'.cell]; exact e3
 ·rw [Nat.zero_add,ho'.cell]; exact e4
theorem RatsA.congr {W:World} {A:Option Addr} {n:Nat} {x y:Nat->QI} (h:RatsA W A n x) (e:∀ i,i<n->y i=x i):RatsA W A n y:=fun h0=>by
 obtain ⟨b,off,e1,hlt,hc⟩:=h h0;refine ⟨b,off,e1,hlt,fun i hi=>?_⟩;obtain ⟨s1,A1,n1,c1,s2,A2,n2,c2,a1,a2,a3,a4,h1,h2⟩:=hc i hi;rw [e i hi];exact ⟨s1,A1,n1,c1,s2,A2,n2,c2,a1,a2,a3,a4,h1,h2⟩
end Go.Proofs.YtflolbnnkbdmfaaGreat
