import Derived.Test.YtflgngjocgiojaaGreatNumE
set_option linter.all false
namespace Go.Proofs.YtflgngjocgiojaaGreat
open Go.RowKit
set_option maxHeartbeats 8000000
set_option maxRecDepth 100000
theorem mag_plus {w:World} {A1 A2:Option Addr} {n1 n2:Nat} {D1 D2:List Nat} (c1 c2:Nat) (h1:DigsAt w A1 n1 D1) (h2:DigsAt w A2 n2 D2) (hm:n1<=1000) (hm2:n2<=1000) :
 Calls Tryz.prog 128 #[.slice A1 n1 c1,.slice A2 n2 c2] w fun e w'=>NewD w (vD D1+vD D2) e w'/\Below w.heap.size w w':=by
 have hl1:=h1.len;have hl2:=h2.len;have H1:=Zh h1;have H2:=Zh h2;have HL:=Zh (Zi hl1 hl2);clear h1 h2 hl1 hl2;go_enter Tryz.func128,Tryz.ntmps128
 by_cases hsw:n1<n2
 ·have hswi:(n1:Int)<(n2:Int):=aO
  have hle:n1<=n2:=aO
  have hmk:=fun w=>make_mag (n2+1) aO w
  have hcast:((n2+1:Nat):Int)=(n2:Int)+1:=aO
  rw [hcast] at hmk;obtain ⟨N,hN⟩:=Zx (n2+1);rw [hN] at hmk;have hNi:(n2:Int)<(N:Int):=aO
  go_wp2;have hw:=(Zb w.heap.size w).alloc (Zr _) (.cells (encU (List.replicate N 0)) 97);have oo:OwnD (w.alloc (.cells (encU (List.replicate N 0)) 97)) w.heap.size (List.replicate N 0):=OwnD.new _ _;generalize (w.alloc (.cells (encU (List.replicate N 0)) 97))=w1 at *;clear hmk;go_loopw [6,23] (fun c i wr=>∃ (k s:Nat) (R:List Nat),k<=n2/\i = .int .i64 k/\c = .int .u32 s/\s<=1/\R.length=k/\Dg R/\vD R+4294967296^k*s=vD (D2.take k)+vD (D1.take k)/\Below w.heap.size w wr/\OwnD wr w.heap.size (R++List.replicate (N - k) 0)) (fun _ i _=>n2 - (intOf i).toNat)
  case atStart=>exact ⟨0,0,[],aO,rfl,rfl,aO,rfl,Dg.nil,by simp [vD_nil],hw,by simpa using oo⟩
  case round =>
   clear hw oo;obtain ⟨k,s,R,hk,rfl,rfl,hs1,hR,hdg,hval,hw,oo⟩:=hrel;have HV:=Zh hval;have HD:=Zh (Zi hR hdg);clear hval hR hdg;have oof:=Own.thaw oo
   by_cases hlt:k<n2
   ·have hlt2:(k:Int)<(n2:Int):=aO
    have hltN:(k:Int)<(N:Int):=aO
    have hltNn:k<N:=aO
    obtain ⟨d,hd⟩:=Zx (dAt D2 k);obtain ⟨e,he⟩:=Zx (dAt D1 k);obtain ⟨b,off,hA,hb,a1⟩:=(H2.out.below hw).cells hlt hd;subst hA;have hd1:d<4294967296:=by rw [<- hd]; exact H2.out.dg.at_ k
    have he1:e<4294967296:=by rw [<- he]; exact H1.out.dg.at_ k
    have hsub:=fun W=>bits_Add32 d e s hd1 he1 hs1 W
    obtain ⟨r,hr⟩:=Zx ((d+e+s)%4294967296);obtain ⟨t,ht⟩:=Zx ((d+e+s) / 4294967296);have hrs:r+4294967296*t=d+e+s:=aO
    have hr1:r<4294967296:=aO
    have ht1:t<=1:=aO
    rw [hr,ht] at hsub;have HSUB:=Zh hsub;have HN:=Zh (add_step (B:=4294967296) (k:=k) rfl HV.out hrs);have HNV:Hid (vD (R++[r])+4294967296^(k+1)*t=vD (D2.take (k+1))+vD (D1.take (k+1))):=Zh (by
     rw [vD_snoc,vD_take',vD_take',hd,he,HD.out.1]; exact HN.out)
    have HNR:Hid ((R++[r]).length=k+1/\Dg (R++[r])):=Zh ⟨by rw [List.length_append,HD.out.1]; rfl,HD.out.2.append (Dg.one hr1)⟩;have HSE:=Zh (set_rep (r:=r) HD.out.1 hltNn);have ooL:k<(R++List.replicate (N - k) 0).length:=by rw [List.length_append,List.length_replicate,HD.out.1]; omega
    obtain ⟨z,hz⟩:=Zx (dAt (R++List.replicate (N - k) 0) k);have oc:=oo.cell ooL hz;clear hr ht hd hsub hrs HN hz ooL HV HD
    by_cases hk2:k<n1
    ·have hk2i:(k:Int)<(n1:Int):=aO
     obtain ⟨b2,off2,hA,hb2,a2⟩:=(H1.out.below hw).cells hk2 he;subst hA;clear he;go_wp2_with fail;refine Zd (HSUB.out _) ?_;rintro e w2 ⟨rfl,rfl⟩;go_wp2;go_roundw
     case rel=>exact ⟨k+1,t,R++[r],aO,by go_num,rfl,ht1,HNR.out.1,HNR.out.2,HNV.out,hw.setCell (Zr _) _,oo.set HSE.out⟩
     case measure=>simp [intOf]; omega
    ·have hk2i:¬ (k:Int)<(n1:Int):=aO
     obtain rfl:0=e:=by rw [<- he,dAt_out (by rw [HL.out.1]; omega)]
     clear he;go_wp2_with fail;refine Zd (HSUB.out _) ?_;rintro e w2 ⟨rfl,rfl⟩;go_wp2;go_roundw
     case rel=>exact ⟨k+1,t,R++[r],aO,by go_num,rfl,ht1,HNR.out.1,HNR.out.2,HNV.out,hw.setCell (Zr _) _,oo.set HSE.out⟩
     case measure=>simp [intOf]; omega
   ·obtain rfl:k=n2:=aO
    obtain ⟨hR,hdg⟩:=HD.out;have hval:=HV.out;rw [List.take_of_length_le (by rw [HL.out.2]; exact Zr _),List.take_of_length_le (by rw [HL.out.1]; exact hle)] at hval;have HSE:=Zh (set_rep (n:=N) (r:=s) hR aO);have hvR:vD (R++[s])=vD D1+vD D2:=by rw [vD_snoc,hR,hval]; exact Nat.add_comm _ _
    have hdR:Dg (R++[s]):=hdg.append (Dg.one aO);have HVR:=Zh hvR;have HDR:=Zh hdR;have ooL:k<(R++List.replicate (N - k) 0).length:=by rw [List.length_append,List.length_replicate,hR]; omega
    obtain ⟨z,hz⟩:=Zx (dAt (R++List.replicate (N - k) 0) k);have oc:=oo.cell ooL hz;have hw2:=hw.setCell (p:=⟨w.heap.size,k,none⟩) (Zr _) (.int .u32 (s:Nat));have oo2:OwnD (wr.setCell ⟨w.heap.size,k,none⟩ (.int .u32 (s:Nat))) w.heap.size (R++[s]):=by
     refine oo.set ?_;rw [HSE.out,show N - (k+1)=0 by omega,List.replicate_zero,List.append_nil]
    have hlen:(R++[s]).length=N:=by rw [List.length_append,hR]; exact hN
    have HO2:=Zh oo2;have HLT:=Zh (Own.lt oo2);have HW2:=Zh hw2;have HLN:=Zh hlen;clear hval hvR hdR hR hdg HV HD hz ooL oo2 hw2 hlen HSE;go_wp2_with fail;generalize (wr.setCell ⟨w.heap.size,k,none⟩ (.int .u32 (s:Nat)))=w3 at *;have hdig:=HO2.out.digs HDR.out;rw [HLN.out] at hdig;have HG:=Zh hdig;clear hdig;refine Zd (mag_trim N HG.out (Zr _) aO) ?_;rintro e w2 ⟨rfl,hbx⟩;have hwe:=HW2.out.trans (hbx.mono HW2.out.size);go_wp2;go_ret;exact ⟨NewD.of (HG.out.below hbx) aO HVR.out (Zl HLT.out hbx.size),hwe⟩
 ·have hswi:¬ (n1:Int)<(n2:Int):=aO
  have hle:n2<=n1:=aO
  have hmk:=fun w=>make_mag (n1+1) aO w
  have hcast:((n1+1:Nat):Int)=(n1:Int)+1:=aO
  rw [hcast] at hmk;obtain ⟨N,hN⟩:=Zx (n1+1);rw [hN] at hmk;have hNi:(n1:Int)<(N:Int):=aO
  go_wp2;have hw:=(Zb w.heap.size w).alloc (Zr _) (.cells (encU (List.replicate N 0)) 97);have oo:OwnD (w.alloc (.cells (encU (List.replicate N 0)) 97)) w.heap.size (List.replicate N 0):=OwnD.new _ _;generalize (w.alloc (.cells (encU (List.replicate N 0)) 97))=w1 at *;clear hmk;go_loopw [6,23] (fun c i wr=>∃ (k s:Nat) (R:List Nat),k<=n1/\i = .int .i64 k/\c = .int .u32 s/\s<=1/\R.length=k/\Dg R/\vD R+4294967296^k*s=vD (D1.take k)+vD (D2.take k)/\Below w.heap.size w wr/\OwnD wr w.heap.size (R++List.replicate (N - k) 0)) (fun _ i _=>n1 - (intOf i).toNat)
  case atStart=>exact ⟨0,0,[],aO,rfl,rfl,aO,rfl,Dg.nil,by simp [vD_nil],hw,by simpa using oo⟩
  case round =>
   clear hw oo;obtain ⟨k,s,R,hk,rfl,rfl,hs1,hR,hdg,hval,hw,oo⟩:=hrel;have HV:=Zh hval;have HD:=Zh (Zi hR hdg);clear hval hR hdg;have oof:=Own.thaw oo
   by_cases hlt:k<n1
   ·have hlt2:(k:Int)<(n1:Int):=aO
    have hltN:(k:Int)<(N:Int):=aO
    have hltNn:k<N:=aO
    obtain ⟨d,hd⟩:=Zx (dAt D1 k);obtain ⟨e,he⟩:=Zx (dAt D2 k);obtain ⟨b,off,hA,hb,a1⟩:=(H1.out.below hw).cells hlt hd;subst hA;have hd1:d<4294967296:=by rw [<- hd]; exact H1.out.dg.at_ k
    have he1:e<4294967296:=by rw [<- he]; exact H2.out.dg.at_ k
    have hsub:=fun W=>bits_Add32 d e s hd1 he1 hs1 W
    obtain ⟨r,hr⟩:=Zx ((d+e+s)%4294967296);obtain ⟨t,ht⟩:=Zx ((d+e+s) / 4294967296);have hrs:r+4294967296*t=d+e+s:=aO
    have hr1:r<4294967296:=aO
    have ht1:t<=1:=aO
    rw [hr,ht] at hsub;have HSUB:=Zh hsub;have HN:=Zh (add_step (B:=4294967296) (k:=k) rfl HV.out hrs);have HNV:Hid (vD (R++[r])+4294967296^(k+1)*t=vD (D1.take (k+1))+vD (D2.take (k+1))):=Zh (by
     rw [vD_snoc,vD_take',vD_take',hd,he,HD.out.1]; exact HN.out)
    have HNR:Hid ((R++[r]).length=k+1/\Dg (R++[r])):=Zh ⟨by rw [List.length_append,HD.out.1]; rfl,HD.out.2.append (Dg.one hr1)⟩;have HSE:=Zh (set_rep (r:=r) HD.out.1 hltNn);have ooL:k<(R++List.replicate (N - k) 0).length:=by rw [List.length_append,List.length_replicate,HD.out.1]; omega
    obtain ⟨z,hz⟩:=Zx (dAt (R++List.replicate (N - k) 0) k);have oc:=oo.cell ooL hz;clear hr ht hd hsub hrs HN hz ooL HV HD
    by_cases hk2:k<n2
    ·have hk2i:(k:Int)<(n2:Int):=aO
     obtain ⟨b2,off2,hA,hb2,a2⟩:=(H2.out.below hw).cells hk2 he;subst hA;clear he;go_wp2_with fail;refine Zd (HSUB.out _) ?_;rintro e w2 ⟨rfl,rfl⟩;go_wp2;go_roundw
     case rel=>exact ⟨k+1,t,R++[r],aO,by go_num,rfl,ht1,HNR.out.1,HNR.out.2,HNV.out,hw.setCell (Zr _) _,oo.set HSE.out⟩
     case measure=>simp [intOf]; omega
    ·have hk2i:¬ (k:Int)<(n2:Int):=aO
     obtain rfl:0=e:=by rw [<- he,dAt_out (by rw [HL.out.2]; omega)]
     clear he;go_wp2_with fail;refine Zd (HSUB.out _) ?_;rintro e w2 ⟨rfl,rfl⟩;go_wp2;go_roundw
     case rel=>exact ⟨k+1,t,R++[r],aO,by go_num,rfl,ht1,HNR.out.1,HNR.out.2,HNV.out,hw.setCell (Zr _) _,oo.set HSE.out⟩
     case measure=>simp [intOf]; omega
   ·obtain rfl:k=n1:=aO
    obtain ⟨hR,hdg⟩:=HD.out;have hval:=HV.out;rw [List.take_of_length_le (by rw [HL.out.1]; exact Zr _),List.take_of_length_le (by rw [HL.out.2]; exact hle)] at hval;have HSE:=Zh (set_rep (n:=N) (r:=s) hR aO);have hvR:vD (R++[s])=vD D1+vD D2:=by rw [vD_snoc,hR,hval]
    have hdR:Dg (R++[s]):=hdg.append (Dg.one aO);have HVR:=Zh hvR;have HDR:=Zh hdR;have ooL:k<(R++List.replicate (N - k) 0).length:=by rw [List.length_append,List.length_replicate,hR]; omega
    obtain ⟨z,hz⟩:=Zx (dAt (R++List.replicate (N - k) 0) k);have oc:=oo.cell ooL hz;have hw2:=hw.setCell (p:=⟨w.heap.size,k,none⟩) (Zr _) (.int .u32 (s:Nat));have oo2:OwnD (wr.setCell ⟨w.heap.size,k,none⟩ (.int .u32 (s:Nat))) w.heap.size (R++[s]):=by
     refine oo.set ?_;rw [HSE.out,show N - (k+1)=0 by omega,List.replicate_zero,List.append_nil]
    have hlen:(R++[s]).length=N:=by rw [List.length_append,hR]; exact hN
    have HO2:=Zh oo2;have HLT:=Zh (Own.lt oo2);have HW2:=Zh hw2;have HLN:=Zh hlen;clear hval hvR hdR hR hdg HV HD hz ooL oo2 hw2 hlen HSE;go_wp2_with fail;generalize (wr.setCell ⟨w.heap.size,k,none⟩ (.int .u32 (s:Nat)))=w3 at *;have hdig:=HO2.out.digs HDR.out;rw [HLN.out] at hdig;have HG:=Zh hdig;clear hdig;refine Zd (mag_trim N HG.out (Zr _) aO) ?_;rintro e w2 ⟨rfl,hbx⟩;have hwe:=HW2.out.trans (hbx.mono HW2.out.size);go_wp2;go_ret;exact ⟨NewD.of (HG.out.below hbx) aO HVR.out (Zl HLT.out hbx.size),hwe⟩
theorem dAt_set {L:List Nat} {i j r:Nat} (h:i<L.length):dAt (L.set i r) j=if j=i then r else dAt L j:=by
 unfold dAt;rw [Ze,Ze,List.getElem?_set]
 by_cases e:i=j
 ·subst e; simp [h]
 ·rw [if_neg e,if_neg (fun h=>e h.symm)]
theorem Dg.set {L:List Nat} (h:Dg L) (i r:Nat) (hr:r<4294967296):Dg (L.set i r):=fun d hd=>by
 rcases List.mem_or_eq_of_mem_set hd with h1 | h1
 ·exact h d h1
 ·rw [h1]; exact hr
theorem vD_set {L:List Nat} {j:Nat} (r:Nat) (h:j<L.length):vD (L.set j r)+4294967296^j*dAt L j=vD L+4294967296^j*r:=by
 have:=valD_set 4294967296 L j r h;rw [dAt_in h] at this;exact this
theorem Dg.zeros (n:Nat):Dg (List.replicate n 0):=fun d hd=>by rw [List.eq_of_mem_replicate hd]; omega
theorem dAt_zeros (n i:Nat):dAt (List.replicate n 0) i=0:=by
 unfold dAt; rw [Ze,List.getElem?_replicate]; split <;> rfl
theorem vD_zeros (n:Nat):vD (List.replicate n 0)=0:=valD_zeros _ n
structure TimesAt (D1 D2 L:List Nat) (n i k x c:Nat):Prop where
 len:L.length=n
 dg:Dg L
 val:vD L+4294967296^(i+k)*c=vD (D1.take i)*vD D2+4294967296^i*(x*vD (D2.take k))
 zero:∀ j,i+D2.length<=j->dAt L j=0
theorem TimesAt.step {D1 D2 L:List Nat} {n i k x c d y r s:Nat} (t:TimesAt D1 D2 L n i k x c) (hj:i+k<n) (hk:k<D2.length) (hd:dAt L (i+k)=d) (hy:dAt D2 k=y) (hr:r<4294967296) (hrs:r+4294967296*s=c+d+x*y) :
 TimesAt D1 D2 (L.set (i+k) r) n i (k+1) x s:=by
 refine ⟨by rw [List.length_set]; exact t.len,t.dg.set _ _ hr,?_,fun j hj2=>?_⟩
 ·have h1:=vD_set (L:=L) (j:=i+k) r (by rw [t.len]; exact hj);rw [hd] at h1;have h2:=mul_step h1 hrs t.val;have e1:4294967296^(i+(k+1))=4294967296^(i+k)*4294967296:=by rw [<- Nat.add_assoc,Nat.pow_succ]
  rw [e1,h2,vD_take',hy,Nat.pow_add];grind
 ·rw [dAt_set (by rw [t.len]; exact hj),if_neg aO];exact t.zero j hj2
theorem TimesAt.done {D1 D2 L:List Nat} {n i x c:Nat} (t:TimesAt D1 D2 L n i D2.length x c) (hj:i+D2.length<n) (hx:dAt D1 i=x) (hc:c<4294967296) :
 TimesAt D1 D2 (L.set (i+D2.length) c) n (i+1) 0 0 0:=by
 refine ⟨by rw [List.length_set]; exact t.len,t.dg.set _ _ hc,?_,fun j hj2=>?_⟩
 ·have h1:=vD_set (L:=L) (j:=i+D2.length) c (by rw [t.len]; exact hj);rw [t.zero _ (Zr _),Nat.mul_zero,Nat.add_zero,t.val,List.take_length] at h1;rw [h1,vD_take',hx,Nat.mul_zero,Nat.zero_mul,Nat.mul_zero,Nat.add_zero,Nat.add_zero,Nat.add_mul,Nat.mul_assoc]
 ·rw [dAt_set (by rw [t.len]; exact hj),if_neg aO];exact t.zero j aO
theorem TimesAt.next {D1 D2 L:List Nat} {n i:Nat} (t:TimesAt D1 D2 L n i 0 0 0) (x:Nat):TimesAt D1 D2 L n i 0 x 0:=
 ⟨t.len,t.dg,by have:=t.val; simp [vD_nil] at this ⊢; exact this,t.zero⟩
theorem prod_lt {x y:Nat} (hx:x<4294967296) (hy:y<4294967296):x*y<=18446744065119617025:=by
 have h1:=Nat.mul_le_mul_right y (show x<=4294967295 by omega);omega
theorem mag_times {w:World} {A1 A2:Option Addr} {n1 n2:Nat} {D1 D2:List Nat} (c1 c2:Nat) (h1:DigsAt w A1 n1 D1) (h2:DigsAt w A2 n2 D2) (hm:n1<=1000) (hm2:n2<=1000) :
 Calls Tryz.prog 127 #[.slice A1 n1 c1,.slice A2 n2 c2] w fun e w'=>NewD w (vD D1*vD D2) e w'/\Below w.heap.size w w':=by
 have hl1:=h1.len;have hl2:=h2.len;have H1:=Zh h1;have H2:=Zh h2;have HL:=Zh (Zi hl1 hl2);clear h1 h2 hl1 hl2;have hmi2:(n2:Int)<=1000:=aO
 have hmk:=fun w=>make_mag (n1+n2) aO w
 obtain ⟨N,hN⟩:=Zx (n1+n2);have hcast:((n1+n2:Nat):Int)=(n1:Int)+(n2:Int):=aO
 rw [hcast,hN] at hmk;have HN:=Zh hN;clear hN hcast;go_enter Tryz.func127,Tryz.ntmps127;go_wp2;have hw:=(Zb w.heap.size w).alloc (Zr _) (.cells (encU (List.replicate N 0)) 97);have oo:OwnD (w.alloc (.cells (encU (List.replicate N 0)) 97)) w.heap.size (List.replicate N 0):=OwnD.new _ _;generalize (w.alloc (.cells (encU (List.replicate N 0)) 97))=w1 at *;clear hmk;go_loopw [19] (fun i wr=>∃ (k:Nat) (L:List Nat),k<=n1/\i = .int .i64 k/\TimesAt D1 D2 L N k 0 0 0/\Below w.heap.size w wr/\OwnD wr w.heap.size L) (fun i _=>n1 - (intOf i).toNat)
 case atStart=>exact ⟨0,_,aO,rfl,⟨List.length_replicate,Dg.zeros _,by simp [vD_zeros,vD_nil],fun j _=>dAt_zeros _ _⟩,hw,oo⟩
 case round =>
  clear hw oo;obtain ⟨i,L,hk,rfl,ht,hw,oo⟩:=hrel;have HT:=Zh ht;clear ht
  by_cases hlt:i<n1
  ·have hlt2:(i:Int)<(n1:Int):=aO
   obtain ⟨x,hx⟩:=Zx (dAt D1 i);obtain ⟨b,off,hA,hb,a1⟩:=(H1.out.below hw).cells hlt hx;subst hA;have hx1:x<4294967296:=by rw [<- hx]; exact H1.out.dg.at_ i
   have HX:=Zh hx;clear hx;go_wp2;go_loopw [8,26] (fun c j wr=>∃ (k s:Nat) (L:List Nat),k<=n2/\j = .int .i64 k/\c = .int .u64 s/\s<4294967296/\TimesAt D1 D2 L N i k x s/\Below w.heap.size w wr/\OwnD wr w.heap.size L) (fun _ j _=>n2 - (intOf j).toNat)
   case atStart=>exact ⟨0,0,L,aO,rfl,rfl,aO,HT.out.next x,hw,oo⟩
   case round =>
    clear hw oo HT a1;obtain ⟨k,c,L,hk,rfl,rfl,hc1,ht,hw,oo⟩:=hrel;have HT:=Zh ht;have oof:=Own.thaw oo;have hll:=ht.len;clear ht
    by_cases hlk:k<n2
    ·have hlk2:(k:Int)<(n2:Int):=aO
     obtain ⟨y,hy⟩:=Zx (dAt D2 k);obtain ⟨b2,off2,hA,hb2,a2⟩:=(H2.out.below hw).cells hlk hy;subst hA;have hy1:y<4294967296:=by rw [<- hy]; exact H2.out.dg.at_ k
     obtain ⟨j,hj⟩:=Zx (i+k);have hjN:j<N:=by have:=HN.out; omega
     have hjNi:(j:Int)<(N:Int):=aO
     have hji:(i:Int)+(k:Int)=(j:Int):=aO
     obtain ⟨d,hd⟩:=Zx (dAt L j);have oc:=oo.cell (by rw [hll]; exact hjN) hd;have hd1:d<4294967296:=by rw [<- hd]; exact HT.out.dg.at_ j
     obtain ⟨p,hp⟩:=Zx (x*y);have hpb:p<=18446744065119617025:=by rw [<- hp]; exact prod_lt hx1 hy1
     have hpi:(x:Int)*(y:Int)=(p:Int):=by rw [<- hp]; exact (Int.natCast_mul x y).symm
     obtain ⟨S,hS⟩:=Zx (c+(d+p));have hSb:S<18446744073709551616:=aO
     have hSi:(c:Int)+((d:Int)+(p:Int))=(S:Int):=aO
     obtain ⟨r,hr⟩:=Zx (S%4294967296);obtain ⟨s,hs⟩:=Zx (S / 4294967296);have hri:(S:Int)%4294967296=(r:Int):=aO
     have hsi:(S:Int) / 4294967296=(s:Int):=aO
     have hr1:r<4294967296:=aO
     have hs1:s<4294967296:=aO
     have HNT:=Zh (HT.out.step (r:=r) (s:=s) (d:=d) (by rw [hj]; exact hjN) (by rw [HL.out.2]; exact hlk) (by rw [hj]; exact hd) hy hr1 (by rw [hp]; omega));rw [hj] at HNT;clear hy hd hp hS hr hs hj HT;go_wp2;go_roundw
     case rel=>exact ⟨k+1,s,L.set j r,aO,by go_num,rfl,hs1,HNT.out,hw.setCell (Zr _) _,oo.set rfl⟩
     case measure=>simp [intOf]; omega
    ·obtain rfl:k=n2:=aO
     obtain ⟨j,hj⟩:=Zx (i+k);have hjN:j<N:=by have:=HN.out; omega
     have hjNi:(j:Int)<(N:Int):=aO
     have hji:(i:Int)+(k:Int)=(j:Int):=aO
     obtain ⟨d,hd⟩:=Zx (dAt L j);have oc:=oo.cell (by rw [hll]; exact hjN) hd;have ht2:=HT.out;rw [<- HL.out.2] at ht2;have ht3:=ht2.done (by rw [HL.out.2,hj]; exact hjN) HX.out hc1;rw [HL.out.2,hj] at ht3;have HNT:=Zh ht3;clear ht2 ht3 hj hd HT;go_wp2;go_roundw
     case rel=>exact ⟨i+1,L.set j c,aO,by go_num,HNT.out,hw.setCell (Zr _) _,oo.set rfl⟩
     case measure=>simp [intOf]; omega
  ·obtain rfl:i=n1:=aO
   have hval:=HT.out.val;rw [List.take_of_length_le (by rw [HL.out.1]; exact Zr _)] at hval;have hvR:vD L=vD D1*vD D2:=by simp at hval; exact hval
   have hdig:=oo.digs HT.out.dg;rw [HT.out.len] at hdig;have HG:=Zh hdig;have HVR:=Zh hvR;have HLT:=Zh (Own.lt oo);have hNb:N<=2000:=by have:=HN.out; omega
   clear hval hvR hdig HT;go_wp2_with fail;refine Zd (mag_trim N HG.out (Zr _) aO) ?_;rintro e w2 ⟨rfl,hbx⟩;have hwe:=hw.trans (hbx.mono hw.size);go_wp2;go_ret;exact ⟨NewD.of (HG.out.below hbx) aO HVR.out (Zl HLT.out hbx.size),hwe⟩
section
variable {P:Program} {ops:Array Oper} {Q:Exit->Act->World->Prop} {r:Nat}
theorem upon_lift {n:Nat} {o:Oper} {a:Act} {K:Act->World->Prop} {x:Result Next} (h:o.upon P a K Q x):o.uponIn (Fence.wide.inRound r) n P a K Q x:=by
 have hd:∀ k:Nat,((Fence.wide.inRound r).depth.isSome=true->1<=k):=fun k e=>absurd e (by simp [Fence.wide])
 cases x with
 | ok y w' =>
  cases y with
  | value v=>exact h
  | skip=>exact h
  | defer d=>exact h
  | enter f args=>exact ⟨hd n,CallsIn.inRound r (callsIn_wide.2 h)⟩
  | row row args=>exact ⟨hd n,fun c cs _=>let ⟨v,w2,h1,h2⟩:=h c cs; ⟨v,w2,h1,stepsIn_wide.2 h2⟩⟩
  | _=>exact False.elim h
 | halt hh w'=>cases hh <;> first | exact h | exact False.elim h
def noDefer (l:List Oper):Bool:=l.all fun o=>match o.op with
 | .defer _=>false
 | _=>true
theorem wpAny_lift {l:List Oper} {n:Nat} {md:Region.Mode} (hd:noDefer l=true) (hQ:¬ LetsOut Q):∀ (fuel:Nat) (listed:Array Bool) (a:Act) (w:World),wpAny P md l.toArray Q fuel listed a w->wpAnyIn (Fence.wide.inRound r) n P md l.toArray Q fuel listed a w
 | 0,_,_,_,h=>h
 | fuel+1,listed,a,w,h=>⟨h.1,fun i hi=>by
  have h2:=h.2 i hi;unfold wpOp at h2;unfold wpOpIn;cases ho:l.toArray[i]? with
  | none =>
   rw [ho] at h2;exact wpAny_lift hd hQ fuel _ a w h2
  | some o =>
   rw [ho] at h2;simp only [] at h2 ⊢
   by_cases hw:Region.wanted o (yielded l.toArray a.tmps)=true
   ·rw [if_pos hw] at h2 ⊢;rcases h2 with h3 | h3
    ·refine ⟨fun _ _=>trivial,?_⟩;have hne:∀ c,o.op ≠ .defer c:=fun c e=>by
      have hm:o∈l:=by
       have:=Array.mem_of_getElem? ho;simpa using this
      have:=List.all_eq_true.1 hd o hm;rw [e] at this;cases this
     rw [Oper.semAt_eq _ _ _ hne];have h4:o.wp P a w (wpAnyIn (Fence.wide.inRound r) n P md l.toArray Q fuel (listed.setIfInBounds i true)) Q:=Oper.wp_mono (fun a w h=>wpAny_lift hd hQ fuel _ a w h) h3;exact upon_lift h4
    ·exact absurd h3.2 hQ
   ·rw [if_neg hw] at h2 ⊢;exact ⟨fun _ _=>trivial,wpAny_lift hd hQ fuel _ _ w h2⟩⟩
theorem region_sink_round {id k:Nat} {a:Act} {w:World} {l:List Oper} (n:Nat) (T:List Nat) (hm:P.follows .mixedOrders=true) (hB:lateFit l n (l.length - n)=true) (hp:placesFit (l.take n) a.tmps.size=true) (hd:noDefer l=true) (hQ:¬ LetsOut Q)
 (h:∃ A,(∀ v,Keeps T w v->Nonempty (Later T w v)->wpQuiet P l.toArray (fun w'=>∃ x:Later T w v,w'=x.u) (fun a'=>a'=A) (l.take n) a) /\
  (∀ u,Below w.heap.size w u->wpSink P l.toArray n true T w (Q .normal) (l.drop n) A u)):(Code.region id l.toArray true).wpIn (Fence.wide.inRound r) k P Q a w:=by
 refine wpIn_region_any hm (wpAny_lift hd hQ _ _ _ _ ?_);have hnl:n+(l.length - n)<=l.length:=by simp only [lateFit,Bool.and_eq_true,decide_eq_true_eq] at hB; exact hB.2
 have e1:l.drop (n+(l.length - n))=[]:=List.drop_eq_nil_of_le aO;have e2:(l.drop n).take (l.length - n)=l.drop n:=List.take_of_length_le aS;have e3:(n+(l.length - n)==l.length)=true:=aT
 refine sink_any n (l.length - n) T hB ?_ ?_
 ·rw [e1,List.append_nil]; exact hp
 ·rw [e1,List.append_nil,e2,e3]; exact h
end
end Go.Proofs.YtflgngjocgiojaaGreat
namespace Go.Proofs.YtflgngjocgiojaaGreat
set_option maxRecDepth 100000
set_option maxHeartbeats 8000000
open Go.RowKit
attribute [local go_sem] Oper.semAt_some
theorem OwnD.far {w:World} {b:Nat} {L:List Nat} (h:OwnD w b L) {p:Addr} (hp:b≠p.block) (x:Value):OwnD (w.setCell p x) b L:=Own.far h hp x
theorem drop_set {L:List Nat} {j d:Nat} (h:j<L.length):(L.set j d).drop j=d::L.drop (j+1):=by
 rw [List.drop_eq_getElem_cons (by rw [List.length_set]; exact h),List.getElem_set_self,List.drop_set_of_lt aO]
theorem boxB {w w':World} {b:Nat} {t:TypeId} {v:Value} (h:Boxed w b t v) (hb:Below w.heap.size w w'):Boxed w' b t v:=(hb.block b h.lt).trans h
theorem boxF {w:World} {b:Nat} {t:TypeId} {v:Value} (h:Boxed w b t v) {p:Addr} (hp:b≠p.block) (x:Value):Boxed (w.setCell p x) b t v:=(Below.heap_setCell w p x b hp).trans h
theorem ownD_lt {w:World} {b:Nat} {L:List Nat} (h:OwnD w b L):b<w.heap.size:=Own.lt h
theorem mag_small {w:World} {A:Option Addr} {n:Nat} {D:List Nat} (c o:Nat) (hv:DigsAt w A n D) (hn:n<=1000) (hc1:n<=c) (hc2:c<=9223372036854775807) (ho0:0<o) (ho1:o<4294967296) :
 Calls Tryz.prog 106 #[.slice A n c,.int .u32 o] w fun r w'=>(∃ v,r = .returned (.tuple #[v,.int .u32 (vD D%o:Nat)])/\SlD w' v (vD D / o))/\Below w.heap.size w w':=by
 have hl:=hv.len;have HV:=Zh hv;have HL:=Zh hl;have HA:=Zh hv.under;clear hv hl;have hmk:=fun w=>make_mag n aO w
 refine (callsIn_wide (n:=5)).1 ?_;refine callsIn_of_wp_marks Tryz.func106 rfl trivial ?_ rfl;simp only [Tryz.ntmps106,List.size_toArray,List.length_cons,List.length_nil,Nat.reduceAdd,Nat.reduceSub,Array.replicate_succ,Array.replicate_zero,List.push_toArray,List.append_toArray,List.nil_append,List.cons_append];gi_wp2_with fail;refine ⟨trivial,(callsIn_wide.2 (mag_down A n c _)).mono ?_⟩;rintro e w2 ⟨rfl,rfl⟩;gi_wp2;have bO:=((((Boxed.new w 97 (.int .u32 (o:Nat))).alloc (.cells (encU (List.replicate n 0)) 97)).alloc (.cells #[.slice (some ⟨w.heap.size+1,0,none⟩) n n] 99)).alloc (.cells #[.int .u32 0] 97)).alloc (.cells #[.slice A n c] 99);have bQ:=(((OwnD.new (w:=w.alloc (.cells #[.int .u32 (o:Nat)] 97)) (List.replicate n 0) 97).alloc (.cells #[.slice (some ⟨w.heap.size+1,0,none⟩) n n] 99)).alloc (.cells #[.int .u32 0] 97)).alloc (.cells #[.slice A n c] 99);have bS:=((Boxed.new ((w.alloc (.cells #[.int .u32 (o:Nat)] 97)).alloc (.cells (encU (List.replicate n 0)) 97)) 99 (.slice (some ⟨w.heap.size+1,0,none⟩) n n)).alloc (.cells #[.int .u32 0] 97)).alloc (.cells #[.slice A n c] 99);have bR:=(Boxed.new (((w.alloc (.cells #[.int .u32 (o:Nat)] 97)).alloc (.cells (encU (List.replicate n 0)) 97)).alloc (.cells #[.slice (some ⟨w.heap.size+1,0,none⟩) n n] 99)) 97 (.int .u32 0)).alloc (.cells #[.slice A n c] 99);have bN:=Boxed.new ((((w.alloc (.cells #[.int .u32 (o:Nat)] 97)).alloc (.cells (encU (List.replicate n 0)) 97)).alloc (.cells #[.slice (some ⟨w.heap.size+1,0,none⟩) n n] 99)).alloc (.cells #[.int .u32 0] 97)) 99 (.slice A n c);simp only [World.size_alloc] at bQ bS bR bN;have hB0:Below w.heap.size w (((((w.alloc (.cells #[.int .u32 (o:Nat)] 97)).alloc (.cells (encU (List.replicate n 0)) 97)).alloc (.cells #[.slice (some ⟨w.heap.size+1,0,none⟩) n n] 99)).alloc (.cells #[.int .u32 0] 97)).alloc (.cells #[.slice A n c] 99)):=(((((Zb _ _).alloc (Zr _) _).alloc aS _).alloc aT _).alloc aT _).alloc aT _;have hsz:(((((w.alloc (.cells #[.int .u32 (o:Nat)] 97)).alloc (.cells (encU (List.replicate n 0)) 97)).alloc (.cells #[.slice (some ⟨w.heap.size+1,0,none⟩) n n] 99)).alloc (.cells #[.int .u32 0] 97)).alloc (.cells #[.slice A n c] 99)).heap.size=w.heap.size+1+1+1+1+1:=aS
 have hv1:=HV.out.below hB0;generalize (((((w.alloc (.cells #[.int .u32 (o:Nat)] 97)).alloc (.cells (encU (List.replicate n 0)) 97)).alloc (.cells #[.slice (some ⟨w.heap.size+1,0,none⟩) n n] 99)).alloc (.cells #[.int .u32 0] 97)).alloc (.cells #[.slice A n c] 99))=W0 at *;clear hmk;have hdg:=hv1.dg;have hseq:=down_fix (5 - 1) (w.heap.size+1+1+1+1) n c aO A D W0 bN hv1 hn hc1 hc2;clear HV;refine wpIn_rangeFunc_ownH rfl aO (gf:=132) (lb:=#[.pointer (some ⟨w.heap.size+1+1+1+1,0,none⟩)]) rfl trivial (enters_of Tryz.func132 aK rfl)
  hseq (fun h k x=>k (h x)) (fun W l o o' hl ho hc _ h=>⟨box_put h.1 aO,digs_put h.2 ho hc⟩) (Zb _ _) (fun _=>rfl)
  (fun pre W=>∃ (r:Nat) (L:List Nat),Boxed W w.heap.size 97 (.int .u32 (o:Nat))/\OwnD W (w.heap.size+1) L/\Boxed W (w.heap.size+1+1) 99 (.slice (some ⟨w.heap.size+1,0,none⟩) n n)/\Boxed W (w.heap.size+1+1+1) 97 (.int .u32 (r:Nat))/\r<o/\L.length=n/\Dg L /\
   (∀ j,pre.map Fin.val++dn j=dn n->vD (D.drop j)=vD (L.drop j)*o+r)/\Below w.heap.size w W)
  (fun _ _ _=>False)
  (fun _ _ _ _ ⟨r,L,h1,h2,h3,h4,h5,h6,h7,h8,h9⟩ hg hr=>⟨r,L,boxed_own' () _ _ _ h1 hg hr,own_own () _ _ _ h2 hg hr,boxed_own' () _ _ _ h3 hg hr,boxed_own' () _ _ _ h4 hg hr,h5,h6,h7,h8,ownFrom_below (Zr _) aO () _ _ _ h9 hg hr⟩)
  (fun _ _ _ _ _ h _ _=>h)
  ⟨0,List.replicate n 0,bO,bQ,bS,bR,ho0,List.length_replicate,Dg.zeros _,(fun j hj=>by
   have e:j=n:=by
    have:=congrArg List.length hj;rw [List.map_nil,List.nil_append,dn_len,dn_len] at this;exact this
   rw [e,List.drop_of_length_le (by rw [HL.out]; exact Zr _),List.drop_of_length_le (by rw [List.length_replicate]; exact Zr _)]; simp [vD_nil]),hB0⟩
  (fun x a' W=>a'={ tmps:=#[.slice A n c,.int .u32 (o:Nat),undef,.pointer (some ⟨w.heap.size,0,none⟩),.slice none 0 0,.int .u32 0,.pointer (some ⟨w.heap.size+1+1,0,none⟩),.pointer (some ⟨w.heap.size+1+1+1,0,none⟩),.int .i64 (x.val:Nat),.int .u32 (dAt D x.val:Nat),.slice A n c,.int .i64 (n:Nat),.slice (some ⟨w.heap.size+1,0,none⟩) n n,.slice A n c,.func (.func 132) #[] #[.pointer (some ⟨w.heap.size+1+1+1+1,0,none⟩)],.int .i64 (x.val:Nat),.int .u32 (dAt D x.val:Nat),undef,undef,undef,undef,undef,undef,undef,undef,undef,undef,undef,undef,undef],defers:=[] })
  (fun x a' _ X Y row hs hg hr=>hs)
  ?assign ?body ?done ?stop
 case assign =>
  rintro l pre x W K ⟨r,L,h1,h2,h3,h4,h5,h6,h7,h8,h9⟩ hK;gi_wp2;exact hK _ _ ((KeepsOthers.refl _).from _) (fun h=>h) ⟨r,L,h1,h2,h3,h4,h5,h6,h7,h8,h9⟩ rfl
 case body =>
  rintro l pre x a' W hl ⟨_,_⟩ ⟨r,L,h1,h2,h3,h4,h5,h6,h7,h8,h9⟩ rfl hlt;have HX:=Zh x.isLt;obtain ⟨d,hd⟩:=Zx (dAt D x.val);have hd1:d<4294967296:=by rw [<- hd]; exact hdg.at_ _
  rw [hd];obtain ⟨k,hk⟩:=Zx (x.val);rw [hk] at HX hd ⊢;have hkn:(k:Int)<(n:Int):=by have:=HX.out; omega
  have hkn2:k<n:=HX.out;obtain ⟨q,hq⟩:=Zx ((r*4294967296+d) / o);obtain ⟨e,he⟩:=Zx ((r*4294967296+d)%o);have hdiv:=fun W=>bits_Div32 r d o h5 hd1 ho1 W
  rw [hq,he] at hdiv;have hq1:q<4294967296:=by rw [<- hq]; exact (Nat.div_lt_iff_lt_mul ho0).2 (by have:=Nat.mul_le_mul_right 4294967296 (show r+1<=o by omega); omega)
  have he1:e<o:=by rw [<- he]; exact Nat.mod_lt _ ho0
  have HE:Hid (r*4294967296+d=q*o+e):=Zh (by have:=Nat.div_add_mod (r*4294967296+d) o; rw [hq,he] at this; rw [Nat.mul_comm q o]; exact this.symm);have HDIV:=Zh hdiv;have HH:=Zh h8;have HD:=Zh hd;have HK:=Zh hk;clear hdiv h8 hd hk hq he;have z2:=ownD_lt h2;have b2:=h9.size;gi_wp2;refine region_sink_round 10 [w.heap.size+1] aK aK (by rfl) aK (by rintro ⟨_,_,h⟩; exact h) ?_;apply Zs;refine ⟨fun v hv hne=>?_,fun u hu=>?_⟩
  ·simp only [TK];have d1:=fun y=>((box_own h1).later (v:=v) (T:=[w.heap.size+1]) (by first | (simp; done) | (simp; omega)) y).cell
   have d3:=fun y=>((box_own h3).later (v:=v) (T:=[w.heap.size+1]) (by first | (simp; done) | (simp; omega)) y).cell
   have d4:=fun y=>((box_own h4).later (v:=v) (T:=[w.heap.size+1]) (by first | (simp; done) | (simp; omega)) y).cell
   repeat (go_big_quiet_step ((go_at_call 130; with_reducible exact lateB (HDIV.out _))))
   refine wpQuiet_nil ?_;exact rfl
  ·simp only [TK];have u1:=boxB h1 hu;have u2:=OwnD.below h2 hu;have u3:=boxB h3 hu;have u4:=boxB h4 hu;obtain ⟨z,hz⟩:=Zx (dAt L k);have c2:=u2.cell (by rw [h6]; exact hkn2) hz;have f2:=Own.thaw u2;have hbu:=h9.trans (hu.mono b2);refine sink_mem (fun K hK=>?_);go_simp;refine hK _ _ ((Keeps.of_below hu).set aS _) (fun u5 hu5=>?_);clear hK K;have v2:=OwnD.below (u2.set (L':=L.set k q) rfl) hu5;have v1:=boxB (boxF (p:=⟨w.heap.size+1,k,none⟩) u1 aS (.int .u32 (q:Nat))) hu5;have v3:=boxB (boxF (p:=⟨w.heap.size+1,k,none⟩) u3 aS (.int .u32 (q:Nat))) hu5;have v4:=boxB (boxF (p:=⟨w.heap.size+1,k,none⟩) u4 aT (.int .u32 (q:Nat))) hu5;have hbv:Below w.heap.size w u5:=(hbu.setCell aS _).trans (hu5.mono (by simp [World.setCell]; have:=hu.size; omega));have hkp:∀ X:World,Below W.heap.size W X->KeepsOthers W X:=fun X hX=>KeepsOthers.of_grownBy (below_grown hX) (fun _ _ e=>by cases e)
   have hk1:KeepsOthers W u5:=((hkp u hu).trans (KeepsOthers.setCell u ⟨w.heap.size+1,k,none⟩ (.int .u32 (q:Nat)))).trans (KeepsOthers.of_grownBy (below_grown hu5) (fun _ _ e=>by cases e));have hA1:∀ Y:World,DigsAt Y A n D->∀ p:Addr,w.heap.size<=p.block->DigsAt (Y.setCell p (.int .u32 (q:Nat))) A n D:=fun Y h p hp=>h.far (fun b off e h1=>by have:=HA.out b off e h1; omega) _
   have hA2:∀ Y:World,DigsAt Y A n D->∀ p:Addr,w.heap.size<=p.block->DigsAt (Y.setCell p (.int .u32 (e:Nat))) A n D:=fun Y h p hp=>h.far (fun b off e h1=>by have:=HA.out b off e h1; omega) _
   have hG:Boxed W (w.heap.size+1+1+1+1) 99 (.slice A n c)/\DigsAt W A n D->Boxed u5 (w.heap.size+1+1+1+1) 99 (.slice A n c)/\DigsAt u5 A n D:=fun h =>
    ⟨boxB (boxF (p:=⟨w.heap.size+1,k,none⟩) (boxB h.1 hu) aT (.int .u32 (q:Nat))) hu5,(hA1 _ (h.2.below hu) ⟨w.heap.size+1,k,none⟩ aS).below hu5⟩
   have HG:=Zh hG;have HK1:=Zh hk1;clear u1 u2 u3 u4 hG hk1 hbu c2 f2;have c4:=v4.cell;have f4:=v4.frozen;refine sink_all aK (fun K hK=>?_);go_simp;refine hK _ _ ?_;clear hK K;refine sink_nil ?_
   (try simp only [LN])
   gi_wp2;refine ⟨(HK1.out.trans (KeepsOthers.setCell _ _ _)).from _,fun h=>⟨boxF (HG.out h).1 aS _,hA2 _ (HG.out h).2 _ aT⟩,e,L.set k q,boxF v1 aT _,OwnD.far v2 aS _,boxF v3 aS _,v4.set _,he1,by rw [List.length_set]; exact h6,h7.set _ _ hq1,?_,hbv.setCell aT _⟩;intro j hj;rw [List.map_append,List.map_cons,List.map_nil,HK.out] at hj;obtain ⟨j1,rfl,j3⟩:=dn_step hj;have hz:=HH.out (k+1) j1;rw [drop_dAt (by rw [HL.out]; exact j3),drop_set (by rw [h6]; exact j3),vD_cons,vD_cons,HD.out,hz];have:=HE.out;grind
 case done =>
  rintro D' ys W hD hys ⟨r,L,h1,h2,h3,h4,h5,h6,h7,h8,h9⟩ hK;have hv:=h8 0 (by rw [hys]; exact List.append_nil _);rw [List.drop_zero,List.drop_zero] at hv;obtain ⟨hq,hr⟩:=div_of hv h5;have HQ:=Zh (Zi hq hr);have hdig:=h2.digs h7;rw [h6] at hdig;have HT:=Zh hdig;have b2:=h9.size;have hDl:=(Zt.1 hK).1;clear hv hq hr h8 hdig;gi_wp2;refine wpIn_wide.2 ?_;refine region_late 5 [] aK aK (by rfl) ?_;apply Zs;refine ⟨fun v hv hne=>?_,fun u hu=>?_⟩
  ·simp only [TK];have d3:=fun y=>((box_own h3).later (v:=v) (T:=[]) aS y).cell
   have d4:=fun y=>((box_own h4).later (v:=v) (T:=[]) aS y).cell
   repeat (go_big_quiet_step ((go_at_call 103; with_reducible exact lateB (mag_trim n (HT.out.later _) (Zr _) aO))))
   refine wpQuiet_nil ?_;exact rfl
  ·simp only [TK];refine late_nil ?_
   (try simp only [LN])
   have hK2:=(hu.block D' hDl).trans hK;have hdg2:=HT.out.below hu;have hb9:=h9.trans (hu.mono b2);gi_wp2;refine ⟨aS,.inl ⟨_,_,rfl,run_takeDeferred hK2,?_⟩⟩;refine ⟨_,by simp [results,Tryz.results106,go_sem]; exact rfl,?_⟩;obtain ⟨hq,hr⟩:=HQ.out;rw [hq,hr];exact ⟨⟨_,rfl,trim_sl (digs_put hdg2 hK2 rfl) (Zr _) aO⟩,hb9.trans (belowK_b (w:=w) (Zr _) _ D' _ _ (by have:=h9.size; omega) hK2 rfl rfl)⟩
 case stop =>
  rintro D' cd pre W hD hpre hf hK;exact hf.elim
end Go.Proofs.YtflgngjocgiojaaGreat
