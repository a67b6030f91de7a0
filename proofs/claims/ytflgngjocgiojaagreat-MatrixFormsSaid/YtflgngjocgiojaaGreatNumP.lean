import Derived.Test.YtflgngjocgiojaaGreatNumK
set_option linter.all false
namespace Go.Proofs.YtflgngjocgiojaaGreat
open Go.RowKit
set_option maxHeartbeats 8000000
set_option maxRecDepth 100000
def sg (neg:Bool) (M:Nat):Int:=if neg then -(M:Int) else M
def NumAt (w:World) (v:Value) (z:Int):Prop:=∃ A n c,v = .agg #[.bool (decide (z<0)),.slice A n c]/\n<=c/\c<=9223372036854775807/\n<=64/\DigsAt w A n (digs z.natAbs)
def zeroN:Value:= .agg nz1
theorem num_zero (w:World):NumAt w zeroN 0:=⟨none,0,0,rfl,aO,aO,aO,DigsAt.nil w none⟩
theorem sg_abs (neg:Bool) (M:Nat):(sg neg M).natAbs=M:=by
 unfold sg;split <;> omega
theorem sg_neg (neg:Bool) (M:Nat) (h:0<M):decide (sg neg M<0)=neg:=by
 unfold sg;cases neg <;> simp <;> omega
def fits (z:Int):Bool:=decide ((digs z.natAbs).length<=64)
def sgnN (z:Int):Bool:=fits z&&decide (z<0)
def slN (z:Int) (b:Nat):Value:=if fits z=true/\z≠0 then .slice (some ⟨b,0,none⟩) (digs z.natAbs).length (digs z.natAbs).length else .slice none 0 0
def numV (z:Int) (b:Nat):Value:= .agg #[.bool (sgnN z),slN z b]
def NumO (w:World) (b:Nat) (z:Int):Prop:=fits z=true->z≠0->OwnD w b (digs z.natAbs)
theorem numV_no {z:Int} (b:Nat) (h:fits z=false):numV z b=zeroN:=by
 unfold numV sgnN slN zeroN;rw [if_neg (by rw [h]; simp),h];rfl
theorem numV_yes {z:Int} (b:Nat) (h:fits z=true) (h0:z≠0):numV z b = .agg #[.bool (decide (z<0)),.slice (some ⟨b,0,none⟩) (digs z.natAbs).length (digs z.natAbs).length]:=by
 unfold numV sgnN slN;rw [if_pos ⟨h,h0⟩,h];rfl
theorem NumO.at_ {w:World} {b:Nat} {z:Int} (h:NumO w b z) (hf:fits z=true):NumAt w (numV z b) z:=by
 by_cases h0:z=0
 ·subst h0;exact num_zero w
 ·rw [numV_yes b hf h0];have hl:(digs z.natAbs).length<=64:=of_decide_eq_true hf;exact ⟨_,_,_,rfl,Zr _,aO,hl,(h hf h0).digs (digs_dg _)⟩
theorem NumO.below {w w':World} {b:Nat} {z:Int} (h:NumO w b z) (hb:Below w.heap.size w w'):NumO w' b z:=fun h1 h2=>(h h1 h2).below hb
theorem NumO.far {w:World} {b:Nat} {z:Int} (h:NumO w b z) {p:Addr} (hp:b≠p.block) (x:Value):NumO (w.setCell p x) b z:=fun h1 h2=>(h h1 h2).far hp x
theorem NumAt.below {w w':World} {v:Value} {z:Int} (h:NumAt w v z) (hb:Below w.heap.size w w'):NumAt w' v z:=by
 obtain ⟨A,n,c,e,h1,h2,h3,h4⟩:=h;exact ⟨A,n,c,e,h1,h2,h3,h4.below hb⟩
theorem make_u32s (n:Nat) (h:n<=100000) (w:World):(Instr.makeSlice 33 (.int .i64 (n:Nat)) (.int .i64 (n:Nat))).run Tryz.prog w = .ok (.slice (some ⟨w.heap.size,0,none⟩) n n) (w.alloc (.cells (encU (List.replicate n 0)) 97)):=by
 obtain ⟨i,hi,hz,hs,hb⟩:=infoU_parts;have q:=run_make (P:=Tryz.prog) w 33 97 i (.int .u32 0) aK hi hz .i64 .i64 n n aO (Int.le_refl _) (by rw [hb]; omega) aO;rw [hs] at q;simp only [Int.toNat_natCast] at q;rw [made_encU] at q;exact q
theorem mag_number {w:World} {A:Option Addr} {n:Nat} {D:List Nat} (c:Nat) (neg:Bool) (hv:DigsAt w A n D) (hnc:n<=c) (hc:c<=9223372036854775807) :
 Calls Tryz.prog 61 #[.slice A n c,.bool neg] w fun r w'=>(∃ b,r = .returned (.tuple #[numV (sg neg (vD D)) b,.bool (fits (sg neg (vD D)))])/\w.heap.size<=b/\b<w'.heap.size/\NumO w' b (sg neg (vD D)))/\Below w.heap.size w w':=by
 obtain ⟨z,hz⟩:=Zx (sg neg (vD D));obtain ⟨ok,hok⟩:=Zx (fits (sg neg (vD D)));rw [hok,hz];have HZ:=Zh (Zi hz hok);clear hz hok;have HV:=Zh hv;clear hv;have htr:=fun u hu=>mag_trim (w:=u) c (HV.out.below hu) hnc hc
 go_enter Tryz.func61,Tryz.ntmps61;go_wp2_with fail;have hW:=(Zb w.heap.size w).alloc (Zr _) (.cells nz1 35);refine Zd (htr _ hW) ?_;rintro e w2 ⟨rfl,hb2⟩;have hw2:=hW.trans (hb2.mono aS);have ht:=trim_sl (HV.out.below (hW.trans (hb2.mono aS))) hnc hc;have o1:Own w2 w.heap.size nz1:=(Own.new rfl).below hb2;have htl:=trim_len HV.out.dg HV.out.len;generalize trimN D n=N at *;have hdg:DigsAt w2 A N (digs (vD D)):=by
  obtain ⟨A',n',c',e,_,_,h2⟩:=ht;cases e;exact h2
 have HT:=Zh (Zi htl hdg);have hok2:ok=decide (N<=64):=by rw [<- HZ.out.2,fits,sg_abs,htl]
 have HOK:=Zh hok2;clear ht htl hdg htr hok2;have o1c:=o1.cell;have o1f:=o1.thaw;have o1z:=o1.lt
 by_cases h64:64<N
 ·have h64i:(64:Int)<(N:Int):=aO
  go_wp2;have e2:ok=false:=by rw [HOK.out]; simp; omega
  have e3:fits z=false:=by rw [<- HZ.out.1,HZ.out.2,e2]
  refine retC (b:=w.heap.size) (v:= .tuple #[zeroN,.bool false]) ((o1.set 0 _).set 1 _) (fun w' hw'=>by simp [results,Tryz.results61,go_sem,hw',zeroN]) rfl ⟨⟨w.heap.size,?_,Zr _,aT,fun h=>by rw [e3] at h; cases h⟩,(hw2.setCell (Zr _) _).setCell (Zr _) _⟩;rw [e2,numV_no _ e3]
 ·by_cases h0:N=0
  ·subst h0;go_wp2;have e0:vD D=0:=digs_nil.1 (List.eq_nil_of_length_eq_zero HT.out.1.symm);have e1:z=0:=by
    rw [<- HZ.out.1,e0];unfold sg;split <;> rfl
   have e2:ok=true:=by rw [HOK.out]; rfl
   refine retC (b:=w.heap.size) (v:= .tuple #[zeroN,.bool true]) ((o1.set 0 _).set 1 _) (fun w' hw'=>by simp [results,Tryz.results61,go_sem,hw',zeroN]) rfl ⟨⟨w.heap.size,?_,Zr _,aT,fun _ h=>absurd e1 h⟩,(hw2.setCell (Zr _) _).setCell (Zr _) _⟩;rw [e2,e1];rfl
  ·have h0i:¬ (N:Int)=0:=aO
   have hmk:=fun w=>make_u32s N aO w
   have hz2:=hw2.size;have hW3:=hw2.alloc hz2 (.cells (encU (List.replicate N 0)) 97);have hO:OwnD (w2.alloc (.cells (encU (List.replicate N 0)) 97)) w2.heap.size (List.replicate N 0):=OwnD.new _ _;have hd3:=HT.out.2.below ((Zb _ _).alloc (Zr _) (.cells (encU (List.replicate N 0)) 97));have HOW:=Zh (Zi hO (Zi hW3 hd3));have o2:=o1.below ((Zb _ _).alloc (Zr _) (.cells (encU (List.replicate N 0)) 97));clear hO hW3 hd3 o1c o1f;go_wp2_with (refine wpList_copy_digs rfl (.tmp 20) (.tmp 21) 33 99 (by rfl) aK aK w2.heap.size N N A N c (by rfl) (by rfl) (List.replicate N 0) (digs (vD D)) HOW.out.1 List.length_replicate HOW.out.2.2 (Zr _) w2.heap.size (w2.alloc (.cells (encU (List.replicate N 0)) 97)) (Zb _ _) (Zr _) ?_);intro w3 oo hb3;clear hmk;have o3:Own w3 w.heap.size nz1:=o2.of_block (hb3.block _ o1z);have o3c:=o3.cell;have o3f:=o3.thaw;have hb9:=HOW.out.2.1.trans (hb3.mono hz2);have HW9:=Zh (Zi oo hb9);clear oo hb9 hb3 o2 HOW;go_wp2;have e2:fits z=true:=by rw [<- HZ.out.1,HZ.out.2,HOK.out,decide_eq_true aO]
   have e3:z.natAbs=vD D:=by rw [<- HZ.out.1,sg_abs]
   have e4:0<vD D:=by
    apply Classical.byContradiction;intro h;apply h0;rw [HT.out.1,show vD D=0 by omega];rfl
   have e5:z≠0:=aO
   have e6:decide (z<0)=neg:=by rw [<- HZ.out.1,sg_neg _ _ e4]
   refine retC (b:=w.heap.size) (v:= .tuple #[.agg #[.bool neg,.slice (some ⟨w2.heap.size,0,none⟩) N N],.bool true]) ((o3.set 0 _).set 1 _) (fun w' hw'=>by simp [results,Tryz.results61,go_sem,hw',zeroN]) rfl ⟨⟨w2.heap.size,?_,hz2,?_,fun _ _=>?_⟩,(HW9.out.2.setCell (Zr _) _).setCell (Zr _) _⟩
   ·rw [HOK.out,decide_eq_true aO,numV_yes _ e2 e5,e3,e6,<- HT.out.1]
   ·have:=ownD_lt HW9.out.1; simp; exact this
   ·rw [e3];exact (HW9.out.1.far aT _).far aT _
def RawAt (w:World) (v:Value) (neg:Bool) (D:List Nat):Prop:=∃ A n c,v = .agg #[.bool neg,.slice A n c]/\n<=c/\c<=9223372036854775807/\DigsAt w A n D
def rightN (neg:Bool) (D:List Nat):Bool:=if D.length=0 then !neg else decide (D.length<=64)&&decide (dAt D (D.length - 1)≠0)
theorem NumAt.raw {w:World} {v:Value} {z:Int} (h:NumAt w v z):RawAt w v (decide (z<0)) (digs z.natAbs)/\rightN (decide (z<0)) (digs z.natAbs)=true:=by
 obtain ⟨A,n,c,e,h1,h2,h3,h4⟩:=h;refine ⟨⟨A,n,c,e,h1,h2,h4⟩,?_⟩;unfold rightN;rw [h4.len]
 by_cases h0:n=0
 ·rw [if_pos h0];have e0:z.natAbs=0:=digs_nil.1 (List.eq_nil_of_length_eq_zero (by rw [h4.len]; exact h0));have:z=0:=aO
  rw [this]; rfl
 ·rw [if_neg h0];have hne:digs z.natAbs≠[]:=fun e=>by have:=h4.len; rw [e] at this; simp at this; omega
  have hc:=digs_canon z.natAbs hne;rw [List.getLast_eq_getElem,dAt_in] at hc;rw [h4.len] at hc;simp [h3,hc]
theorem RawAt.num {w:World} {v:Value} {neg:Bool} {D:List Nat} (h:RawAt w v neg D) (hr:rightN neg D=true):NumAt w v (sg neg (vD D))/\D=digs (vD D):=by
 obtain ⟨A,n,c,e,h1,h2,h4⟩:=h;have hl:=h4.len;unfold rightN at hr;rw [hl] at hr
 by_cases h0:n=0
 ·rw [if_pos h0] at hr;have hD:D=[]:=List.eq_nil_of_length_eq_zero aO;subst hD;have:neg=false:=by simpa using hr
  subst this;subst h0;exact ⟨⟨A,0,c,e,h1,h2,aO,h4⟩,rfl⟩
 ·rw [if_neg h0] at hr;simp only [Bool.and_eq_true,decide_eq_true_eq] at hr;have hne:D≠[]:=fun e=>by rw [e] at hl; simp at hl; omega
  have hcan:Canon D:=fun hne=>by
   rw [List.getLast_eq_getElem,dAt_in,hl];exact hr.2
  have hdd:digs (vD D)=D:=(canon_digs h4.dg hcan).symm;have hp:0<vD D:=by
   apply Classical.byContradiction;intro h;rw [show vD D=0 by omega] at hdd;exact hne hdd.symm
  refine ⟨⟨A,n,c,?_,h1,h2,hr.1,?_⟩,hdd.symm⟩
  ·rw [sg_neg _ _ hp]; exact e
  ·rw [sg_abs,hdd]; exact h4
theorem num_Right {w:World} {v:Value} {neg:Bool} {D:List Nat} (hv:RawAt w v neg D) :
 Calls Tryz.prog 66 #[v] w fun r w'=>r = .returned (.bool (rightN neg D))/\Below w.heap.size w w':=by
 obtain ⟨ok,hok⟩:=Zx (rightN neg D);rw [hok];obtain ⟨A,n,c,rfl,h1,h2,h4⟩:=hv;unfold rightN at hok;rw [h4.len] at hok;have hW:=(Zb w.heap.size w).alloc (Zr _) (.cells #[.bool neg,.slice A n c] 35);have HV:=Zh (Zi h4 hok);clear h4 hok
 by_cases h0:n=0
 ·subst h0;have hok:=HV.out.2;rw [if_pos rfl] at hok;subst hok;clear HV;go_enter Tryz.func66,Tryz.ntmps66;cases neg
  ·go_wp2;go_ret;exact ⟨rfl,hW⟩
  ·go_wp2;go_ret;exact ⟨rfl,hW⟩
 ·obtain ⟨p,hp⟩:=Zx (n - 1);have hpi:(n:Int) - 1=(p:Int):=aO
  have hpl:(p:Int)<(n:Int):=aO
  obtain ⟨d,hd⟩:=Zx (dAt D p);obtain ⟨b,off,hA,hb,a1⟩:=(HV.out.1.below hW).cells (k:=p) aO hd;subst hA;have hok:=HV.out.2;rw [if_neg h0,hp,hd] at hok
  by_cases h64:n<=64
  ·have h64i:(n:Int)<=(64:Int):=aO
   have hok2:decide (d≠0)=ok:=by rw [<- hok]; simp [h64]
   have HOK:=Zh hok2;clear hok hok2 hd HV;go_enter Tryz.func66,Tryz.ntmps66;go_wp2;go_ret;exact ⟨by rw [<- HOK.out]; exact congrArg (fun b=>Ending.returned (.bool b)) (by
    rcases Nat.eq_zero_or_pos d with h | h
    ·subst h; rfl
    ·have e1:d≠0:=aO
     have e2:(d:Int)≠0:=aO
     rw [decide_eq_true e1];exact bne_iff_ne.2 e2),hW⟩
  ·have h64i:¬ (n:Int)<=(64:Int):=aO
   have hok2:ok=false:=by rw [<- hok]; simp; omega
   subst hok2;clear hok hd HV a1;go_enter Tryz.func66,Tryz.ntmps66;go_wp2;go_ret;exact ⟨rfl,hW⟩
theorem sum_same {z1 z:Int} {M2:Nat} (h:z1+sg (decide (z1<0)) M2=z):sg (decide (z1<0)) (z1.natAbs+M2)=z:=by
 rw [<- h];unfold sg
 by_cases h1:z1<0
 ·simp [h1]; omega
 ·simp [h1]; omega
theorem sum_less {z1 z:Int} {neg:Bool} {M2:Nat} (hn:decide (z1<0)≠neg) (h:z1+sg neg M2=z) (hl:z1.natAbs<M2):sg neg (M2 - z1.natAbs)=z:=by
 rw [<- h];unfold sg
 by_cases h1:z1<0
 ·simp [h1] at hn; simp [hn]; omega
 ·simp [h1] at hn; simp [hn]; omega
theorem sum_more {z1 z:Int} {neg:Bool} {M2:Nat} (hn:decide (z1<0)≠neg) (h:z1+sg neg M2=z) (hl:¬ z1.natAbs<M2):sg (decide (z1<0)) (z1.natAbs - M2)=z:=by
 rw [<- h];unfold sg
 by_cases h1:z1<0
 ·simp [h1] at hn; simp [h1,hn]; omega
 ·simp [h1] at hn; simp [h1,hn]; omega
theorem slN_form (z:Int) (b:Nat):∃ A n c,slN z b = .slice A n c:=by
 unfold slN;split
 ·exact ⟨_,_,_,rfl⟩
 ·exact ⟨_,_,_,rfl⟩
def RetN (w:World) (z:Int) (r:Ending) (w':World):Prop:=(∃ b,r = .returned (.tuple #[numV z b,.bool (fits z)])/\w.heap.size<=b/\b<w'.heap.size/\NumO w' b z)/\Below w.heap.size w w'
theorem RetN.hop {w w1 w2:World} {z:Int} {r:Ending} (h:RetN w1 z r w2) (hb:Below w.heap.size w w1):RetN w z r w2:=by
 obtain ⟨⟨b,e,h1,h2,h3⟩,h4⟩:=h;exact ⟨⟨b,e,Zm hb.size h1,h2,h3⟩,hb.trans (h4.mono hb.size)⟩
theorem DigsAt.number {w:World} {A:Option Addr} {n:Nat} {D:List Nat} {z:Int} {neg:Bool} (c:Nat) (hv:DigsAt w A n D) (hnc:n<=c) (hc:c<=9223372036854775807) (e:sg neg (vD D)=z) :
 Calls Tryz.prog 61 #[.slice A n c,.bool neg] w (RetN w z):=by
 subst e;exact mag_number c neg hv hnc hc
theorem RawAt.below {w w':World} {v:Value} {neg:Bool} {D:List Nat} (h:RawAt w v neg D) (hb:Below w.heap.size w w'):RawAt w' v neg D:=by
 obtain ⟨A,n,c,e,h1,h2,h4⟩:=h;exact ⟨A,n,c,e,h1,h2,h4.below hb⟩
theorem right_ok {w:World} {v:Value} {neg:Bool} {D:List Nat} (h:RawAt w v neg D/\rightN neg D=true):Calls Tryz.prog 66 #[v] w fun r w'=>r = .returned (.bool true)/\Below w.heap.size w w':=by
 have q:=num_Right h.1;rw [h.2] at q;exact q
def noU (cs:Array Value):Prop:=∀ (i:Nat) (d:Int),cs[i]?≠some (.int .u32 d)
theorem noU_zero:noU nz1:=fun i d h=>by
 match i with
 | 0=>cases h
 | 1=>cases h
 | i+2=>simp at h
theorem DigsAt.keepU {T:List Nat} {w u:World} {A:Option Addr} {n:Nat} {D:List Nat} (h:DigsAt w A n D) (hk:Keeps T w u) (hT:∀ b∈T,∃ cs,Own w b cs/\noU cs):DigsAt u A n D:=
 ⟨h.len,h.dg,fun h1=>by
  obtain ⟨b,off,rfl,hlt,hc⟩:=h.row h1;have hb:b∉T:=fun hm=>by
   obtain ⟨cs,ho,hn⟩:=hT b hm;have h2:=hc 0 h1;rw [ho.cell] at h2;exact hn _ _ h2
  exact ⟨b,off,rfl,Zl hlt hk.1,fun i hi=>(Zc (w:=w) (a:=⟨b,off+i,none⟩) (hk.2 b hlt hb)).trans (hc i hi)⟩⟩
theorem digs_mono {M N:Nat} (h:M<=N):(digs M).length<=(digs N).length:=by
 apply Classical.byContradiction;intro h2;have:=digs_lt (m:=N) (n:=M) aO;omega
def newB (T:List Nat) (N:Nat):EBS T where
 val p:= .slice (some ⟨p.1,0,none⟩) (digs N).length p.2
 R p u:=p.1∉T/\(digs N).length<=p.2/\p.2<=2001/\DigsAt u (some ⟨p.1,0,none⟩) (digs N).length (digs N)
 st _ _ _ h k:=by
  obtain ⟨h1,h2,h3,h4⟩:=h;refine ⟨h1,h2,h3,h4.len,h4.dg,fun hp=>?_⟩;obtain ⟨b,off,e,hlt,hc⟩:=h4.row hp;cases e;exact ⟨_,_,rfl,Zl hlt k.size,fun i hi=>(Zc (a:=⟨_,0+i,none⟩) (k.block _ hlt h1)).trans (hc i hi)⟩
theorem newB_val {T:List Nat} {N:Nat} {p:Nat×Nat}:(newB T N).val p = .slice (some ⟨p.1,0,none⟩) (digs N).length p.2:=rfl
def numB (T:List Nat) (z:Int):EBS T where
 val p:= .tuple #[numV z p.1,.bool (fits z)]
 R p u:=p.1∉T/\NumO u p.1 z
 st _ _ _ h k:=⟨h.1,fun h1 h2=>(h.2 h1 h2).upd k h.1⟩
theorem numB_val {T:List Nat} {z:Int} {p:Nat×Nat}:(numB T z).val p = .tuple #[numV z p.1,.bool (fits z)]:=rfl
theorem VB1:(∀ (T:List Nat) (N:Nat) (p:Nat×Nat),(newB T N).val p = .slice (some ⟨p.1,0,none⟩) (digs N).length p.2)/\(∀ (T:List Nat) (z:Int) (p:Nat×Nat),(numB T z).val p = .tuple #[numV z p.1,.bool (fits z)])/\∀ (T:List Nat) (cs:Array Value) (v:Nat->Value) (p:Nat×Nat),(ownB T cs v).val p=v p.1:=⟨fun _ _ _=>rfl,fun _ _ _=>rfl,fun _ _ _ _=>rfl⟩
theorem num_sum {w:World} {v1 v2:Value} {z1 z2:Int} (neg:Bool) (h1:NumAt w v1 z1) (h2:NumAt w v2 z2):Calls Tryz.prog 114 #[v1,v2,.bool neg] w (RetN w (z1+sg neg z2.natAbs)):=by
 obtain ⟨z,hz⟩:=Zx (z1+sg neg z2.natAbs);rw [hz];obtain ⟨r1,k1⟩:=h1.raw;obtain ⟨r2,k2⟩:=h2.raw;obtain ⟨A1,n1,c1,rfl,hc1,hm1,hl1,d1⟩:=h1;obtain ⟨A2,n2,c2,rfl,hc2,hm2,hl2,d2⟩:=h2;obtain ⟨s1,hs1⟩:=Zx (decide (z1<0));obtain ⟨s2,hs2⟩:=Zx (decide (z2<0));rw [hs1] at r1 k1 ⊢;rw [hs2] at r2 k2 ⊢;have H:=Zh (Zi hz hs1);have D1:=Zh d1;have D2:=Zh d2;have R1:=Zh (Zi r1 k1);have R2:=Zh (Zi r2 k2);clear hz hs1 hs2 d1 d2 r1 k1 r2 k2;go_enter Tryz.func114,Tryz.ntmps114;have hW:=((((Zb w.heap.size w).alloc (Zr _) (.cells #[.bool s1,.slice A1 n1 c1] 35)).alloc aS (.cells #[.bool s2,.slice A2 n2 c2] 35)).alloc aT (.cells nz1 35));go_wp2_with fail;have o3:Own (((w.alloc (.cells #[.bool s1,.slice A1 n1 c1] 35)).alloc (.cells #[.bool s2,.slice A2 n2 c2] 35)).alloc (.cells nz1 35)) w.heap.size #[.bool s1,.slice A1 n1 c1]:=aOwn;have o4:Own (((w.alloc (.cells #[.bool s1,.slice A1 n1 c1] 35)).alloc (.cells #[.bool s2,.slice A2 n2 c2] 35)).alloc (.cells nz1 35)) (w.heap.size+1) #[.bool s2,.slice A2 n2 c2]:=aOwn;have o6:Own (((w.alloc (.cells #[.bool s1,.slice A1 n1 c1] 35)).alloc (.cells #[.bool s2,.slice A2 n2 c2] 35)).alloc (.cells nz1 35)) (w.heap.size+1+1) nz1:=aOwn;generalize (((w.alloc (.cells #[.bool s1,.slice A1 n1 c1] 35)).alloc (.cells #[.bool s2,.slice A2 n2 c2] 35)).alloc (.cells nz1 35))=W0 at *;refine Zd (right_ok ⟨R1.out.1.below hW,R1.out.2⟩) ?_;rintro e u1 ⟨rfl,hb1⟩;have hz0:=hW.size;have hW1:=hW.trans (hb1.mono hz0);have p3:=o3.below hb1;have p4:=o4.below hb1;have p6:=o6.below hb1;clear o3 o4 o6 hb1;have p4c:=p4.cell;go_wp2_with fail;refine Zd (right_ok ⟨R2.out.1.below hW1,R2.out.2⟩) ?_;rintro e u2 ⟨rfl,hb2⟩;have hz1:=hW1.size;have hW2:=hW1.trans (hb2.mono hz1);have o3:=p3.below hb2;have o4:=p4.below hb2;have o6:=p6.below hb2;clear p3 p4 p6 p4c hb2 hW1;have E1:=Zh (D1.out.below hW2);have E2:=Zh (D2.out.below hW2);clear D1 D2 R1 R2 hz0 hz1 hW;go_wp2;refine region_late 4 [] aK aK (by rfl) ?_;apply Zs;refine ⟨fun v hv hne=>?_,fun u hu=>?_⟩
 ·simp only [TK];have d3:=fun y=>(o3.later (v:=v) (T:=[]) aS y).cell
  have d4:=fun y=>(o4.later (v:=v) (T:=[]) aS y).cell
  exact qz
 simp only [TK];refine late_mem (fun K hK=>?_);go_simp;refine hK _ _ (Keeps.of_below hu) (fun u3 hu3=>?_);clear hK K;replace hu:=hu.trans (hu3.mono hu.size);clear hu3;refine late_mem (fun K hK=>?_);go_simp;refine hK _ _ (Keeps.of_below hu) (fun u4 hu4=>?_);clear hK K;replace hu:=hu.trans (hu4.mono hu.size);have hWW:=hW2.trans (hu.mono hW2.size);have hzW:=hWW.size;have p3:=o3.below hu;have p6:=o6.below hu;have p3c:=p3.cell;have X1:=Zh (E1.out.below hu);have X2:=Zh (E2.out.below hu);clear E1 E2 hu hu4 o3 o4 o6 hW2;refine late_nil ?_
 (try simp only [LN])
 by_cases hs:s1=neg
 ·subst hs;go_wp2_with fail;refine Zd (mag_plus c1 c2 X1.out X2.out aO aO) ?_;rintro e w5 ⟨⟨C,rfl,hC1,hC2,hd5,hz5⟩,hb5⟩;have hwN:=hWW.trans (hb5.mono hzW);have hzN:=hwN.size;have o6:=p6.below hb5;have o6z:=o6.lt;have D5:=Zh hd5;clear p6 hb5 hd5;go_wp2_with fail;refine Zd (D5.out.number (z:=z) C hC1 aO (by rw [digs_val]; rw [digs_val,digs_val]; have e:=H.out.1; rw [<- H.out.2] at e ⊢; exact sum_same e)) ?_;rintro e w9 ⟨⟨b,rfl,hb1,hb2,hb3⟩,hb4⟩;have hbB:=hwN.trans (hb4.mono hzN);have q6:=o6.below hb4;have q6c:=q6.cell;have q6f:=q6.thaw;have HB:=Zh (Zi hb1 (Zi hb2 hb3));clear o6 hb1 hb2 hb3 hb4;obtain ⟨A9,n9,c9,hsl⟩:=slN_form z b;simp only [numV];rw [hsl];have HSL:=Zh hsl;clear hsl;go_wp2;refine retC (b:=w.heap.size+1+1) (v:= .tuple #[.agg #[.bool (sgnN z),.slice A9 n9 c9],.bool (fits z)]) ((q6.set 0 _).set 1 _) (fun w' hw'=>by simp [results,Tryz.results114,go_sem,hw']) rfl ⟨⟨b,by rw [numV,HSL.out],Zm hzN HB.out.1,by simp; exact HB.out.2.1,(HB.out.2.2.far (by simp; have:=HB.out.1; omega) _).far (by simp; have:=HB.out.1; omega) _⟩,(hbB.setCell aT _).setCell aT _⟩
 ·have hne:(s1==neg)=false:=by simpa using hs
  have HNE:=Zh hs;clear hs;go_wp2_with fail;refine Zd (mag_compare c1 c2 X1.out X2.out aO aO hc1 hm1) ?_;rintro e v4 ⟨rfl,hv4⟩;replace hWW:=hWW.trans (hv4.mono hzW);replace hzW:=hWW.size;replace p3:=p3.below hv4;replace p6:=p6.below hv4;replace p6z:=p6.lt;replace X1:=Zh (X1.out.below hv4);replace X2:=Zh (X2.out.below hv4);clear hv4
  by_cases hl:z1.natAbs<z2.natAbs
  ·rw [ordI_lt aO];have HL:=Zh hl;clear hl;go_wp2_with fail;refine Zd (mag_minus c2 c1 X2.out X1.out aO (by have:=X1.out.len; have:=X2.out.len; have:=digs_mono (Nat.le_of_lt HL.out); omega) (by rw [digs_val,digs_val]; exact Nat.le_of_lt HL.out)) ?_;rintro e w5 ⟨⟨C,rfl,hC1,hC2,hd5,hz5⟩,hb5⟩;have hwN:=hWW.trans (hb5.mono hzW);have hzN:=hwN.size;have o6:=p6.below hb5;have o6z:=o6.lt;have D5:=Zh hd5;clear p6 p6z hb5 hd5;go_wp2_with fail;refine Zd (D5.out.number (z:=z) C hC1 aO (by rw [digs_val]; rw [digs_val,digs_val]; have e:=H.out.1; have k:=HNE.out; rw [<- H.out.2] at k; exact sum_less k e HL.out)) ?_;rintro e w9 ⟨⟨b,rfl,hb1,hb2,hb3⟩,hb4⟩;have hbB:=hwN.trans (hb4.mono hzN);have q6:=o6.below hb4;have q6c:=q6.cell;have q6f:=q6.thaw;have HB:=Zh (Zi hb1 (Zi hb2 hb3));clear o6 hb1 hb2 hb3 hb4;obtain ⟨A9,n9,c9,hsl⟩:=slN_form z b;simp only [numV];rw [hsl];have HSL:=Zh hsl;clear hsl;go_wp2;refine retC (b:=w.heap.size+1+1) (v:= .tuple #[.agg #[.bool (sgnN z),.slice A9 n9 c9],.bool (fits z)]) ((q6.set 0 _).set 1 _) (fun w' hw'=>by simp [results,Tryz.results114,go_sem,hw']) rfl ⟨⟨b,by rw [numV,HSL.out],Zm hzN HB.out.1,by simp; exact HB.out.2.1,(HB.out.2.2.far (by simp; have:=HB.out.1; omega) _).far (by simp; have:=HB.out.1; omega) _⟩,(hbB.setCell aT _).setCell aT _⟩
  ·obtain ⟨o,ho⟩:=Zx (ordI (z1.natAbs:Nat) (z2.natAbs:Nat));have ho2:¬ o<0:=by
    rw [<- ho];unfold ordI;rw [if_neg aO];split <;> omega
   rw [ho];have HL:=Zh hl;clear hl ho;obtain ⟨N,hN⟩:=Zx (z1.natAbs - z2.natAbs);have HN:=Zh hN;clear hN;go_wp2;have hTu:∀ u:World,Keeps [w.heap.size+1+1] v4 u->u.heap.size∉[w.heap.size+1+1]:=fun u hu hm=>by
    have h1:=List.mem_singleton.1 hm;have h2:=hu.1;omega
   have hTb:∀ b,b∈[w.heap.size+1+1]->b<v4.heap.size:=fun b hm=>by
    have h1:=List.mem_singleton.1 hm;omega
   have hTn:∀ b∈[w.heap.size+1+1],∃ cs,Own v4 b cs/\noU cs:=fun b hm=>by
    have h1:=List.mem_singleton.1 hm;subst h1;exact ⟨_,p6,noU_zero⟩
   have hwT:∀ u,Upd [w.heap.size+1+1] v4 u->Below w.heap.size w u:=fun u hu=>Upd.below hWW hu aT
   refine region_gen (T:=[w.heap.size+1+1]) [.make 2 [] (newB _ N),.make 5 [2] (numB _ z),.need 6 [5]] 8 0 40 (fun _ u=>Own u (w.heap.size+1+1) nz1) (fun _ _ _ h k=>h.below k) p6 aK aK (by rfl) ?_;unfold genWalk;refine ⟨_,pz1,?_⟩;refine one_of (by rfl) ⟨fun f=>⟨rfl,fun u hu _=>?_⟩,?_⟩
   ·refine make_call (f:=129) (args:=#[.slice A1 n1 c1,.slice A2 n2 c2]) (by (try simp only [LN]); (try simp only [newB_val,numB_val]); go_simp) ?_;have q:=mag_minus (w:=u) c1 c2 (X1.out.keepU hu hTn) (X2.out.keepU hu hTn) aO (by have:=X1.out.len; have:=X2.out.len; have:=digs_mono (Nat.le_of_not_lt HL.out); omega) (by rw [digs_val,digs_val]; exact Nat.le_of_not_lt HL.out);rw [digs_val,digs_val,HN.out] at q;refine q.mono ?_;rintro e wx ⟨⟨C,rfl,q1,q2,q3,q4⟩,hbx⟩;exact ⟨(u.heap.size,C),rfl,Zr _,q4,hbx,hTu u hu,q1,q2,q3⟩
   have q_d3:=fun v y=>(p3.later (v:=v) (T:=[w.heap.size+1+1]) aT y).cell
   unfold genWalk;refine ⟨_,pz12,?_⟩;refine one_of (by rfl) ⟨fun f=>⟨rfl,fun u hu hm=>?_⟩,?_⟩
   ·refine make_call (f:=61) (args:=#[.slice (some ⟨(f 2).1,0,none⟩) (digs N).length (f 2).2,.bool s1]) (by (try simp only [LN]); (try simp only [newB_val,numB_val]); go_simp) ?_;have hR:(newB [w.heap.size+1+1] N).R (f 2) u:=hm 2 aS;obtain ⟨r0,r1,r2,r3⟩:=hR;have q:=r3.number (z:=z) (f 2).2 r1 aO (neg:=s1) (by rw [digs_val,<- HN.out]; have e:=H.out.1; have k:=HNE.out; rw [<- H.out.2] at k ⊢; exact sum_more k e HL.out);refine q.mono ?_;rintro e wx ⟨⟨b,rfl,q1,q2,q3⟩,hbx⟩;exact ⟨(b,0),rfl,q1,q2,hbx,fun hm=>absurd (hTb b hm) (by have:=hu.1; omega),q3⟩
   unfold genWalk;refine ⟨_,pz12,?_⟩;unfold genWalk;refine ⟨_,pz12,?_⟩;intro f u' hup hph hmade hdist;obtain ⟨⟨hT9,oN⟩,loN,hiN⟩:=hmade 5 aO rfl;replace oN:NumO u' (f 5).1 z:=oN;clear hmade hdist;simp only [TK,Nat.reduceSub,Nat.reduceAdd]
   (try simp only [LN])
   (try simp only [newB_val,numB_val])
   generalize (f 5).1=b9 at *;generalize (f 2).1=b8 at *;generalize (f 2).2=c8 at *;clear f;have q6:Own u' (w.heap.size+1+1) nz1:=hph;have hwu:Below w.heap.size w u':=hwT u' hup;clear hph;obtain ⟨A9,n9,c9,hsl⟩:=slN_form z b9;simp only [numV];rw [hsl];have HSL:=Zh hsl;clear hsl;have q6c:=q6.cell;have q6f:=q6.thaw;have hkT:=Upd.keeps (Keeps.refl _ _) hup;refine effc_mem (by rfl) (fun K hK=>?_);go_simp;refine hK _ _ ((hkT.set aS _).set aS _) (fun u1 hu1=>?_);clear hK K;have hwu1:Below w.heap.size w u1:=((hwu.setCell aT _).setCell aT _).trans (hu1.mono (by simp [World.setCell]; exact hwu.size));have q7:=((q6.set 0 (.bool (sgnN z))).set 1 (.slice A9 n9 c9)).below hu1;have oN1:=NumO.below (NumO.far (p:=⟨w.heap.size+1+1,1,none⟩) (NumO.far (p:=⟨w.heap.size+1+1,0,none⟩) oN aT (.bool (sgnN z))) aT (.slice A9 n9 c9)) hu1;have hlt1:b9<u1.heap.size:=by have:=hu1.size; simp [World.setCell] at this; omega
   have hk1:=(((hkT.set aS _).set aS _).later hu1);clear q6 q6c q6f oN hu1;refine effc_mem (by rfl) (fun K hK=>?_);go_simp;refine hK _ _ hk1 (fun u2 hu2=>?_);clear hK K;have q8:=q7.below hu2;have oN2:=oN1.below hu2;have hwu2:=hwu1.trans (hu2.mono hwu1.size);have hlt2:=Zl hlt1 hu2.size;refine effc_nil ?_
   (try simp only [LN])
   go_wp2;refine retC (b:=w.heap.size+1+1) (v:= .tuple #[.agg #[.bool (sgnN z),.slice A9 n9 c9],.bool (fits z)]) q8 (fun w' hw'=>by simp [results,Tryz.results114,go_sem,hw']) rfl ⟨⟨b9,by rw [numV,HSL.out],?_,hlt2,oN2⟩,hwu2⟩;omega
end Go.Proofs.YtflgngjocgiojaaGreat
