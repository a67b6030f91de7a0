import Derived.Test.YtflgngjocgiojaaGreatRefP
set_option linter.all false
namespace Go.Proofs.YtflgngjocgiojaaGreat
open Go.RowKit
set_option maxRecDepth 100000 in
set_option maxHeartbeats 2000000 in
theorem ref5_Columns {w:World} {A:Option Addr} {n:Nat} {M:List (List Int)} (c:Nat) (h:RowsAt w A n M) :
 Calls Tryz.prog 52 #[.slice A n c] w fun e w'=>e = .returned (.int .i64 (cols M:Nat))/\Below w.heap.size w w':=by
 obtain ⟨E,hc,hr⟩:=h.pick;have hl:=h.len;have hW:=Zb w.heap.size w
 by_cases h0:n=0
 ·subst h0;obtain rfl:M=[]:=List.eq_nil_of_length_eq_zero hl;clear hc hr h;go_enter Tryz.func52,Tryz.ntmps52;go_wp2;go_ret;exact ⟨rfl,hW⟩
 ·obtain ⟨b,off,rfl,hb,hcell⟩:=hc aO;have q:=hcell 0 aO;rw [Nat.add_zero] at q;have q2:=(hr 0 aO).2.2.len;obtain ⟨e1,he⟩:=Zx (E 0);rw [he] at q q2;obtain ⟨m,hm⟩:=Zx (cols M);have hm2:e1.2.1=m:=by rw [<- q2]; exact hm
  rw [hm];rw [hm2] at q;clear hcell hr h hc hl q2 he hm hm2;have hn0:((n:Int)==0)=false:=beq_eq_false_iff_ne.2 aO;have hn1:(0:Int)<(n:Int):=aO
  go_enter Tryz.func52,Tryz.ntmps52;go_wp2;go_ret;exact ⟨rfl,hW⟩
set_option maxRecDepth 100000 in
set_option maxHeartbeats 2000000 in
theorem ref5_ranged {w:World} {A:Option Addr} {n:Nat} {l:List Int} (c:Nat) (h:IntsAt w A n l) (hn:n<=1000000) :
 Calls Tryz.prog 84 #[.slice A n c] w fun e w'=>e = .returned (.bool (!anyF (fun k=>largeI (iAt l k)) n))/\Below w.heap.size w w':=by
 obtain ⟨o,ho⟩:=Zx ((!anyF (fun k=>largeI (iAt l k)) n));rw [ho];have HO:=Zh ho;have H:=Zh h;clear ho h;have hW:=Zb w.heap.size w;go_enter Tryz.func84,Tryz.ntmps84;go_wp2;go_loopw [3] (fun i wr=>∃ k:Nat,k<=n/\i = .int .i64 k/\wr=w/\∀ j,j<k->largeI (iAt l j)=false) (fun i _=>n - (intOf i).toNat)
 case atStart=>exact ⟨0,aO,rfl,rfl,fun j hj=>aO⟩
 case round =>
  obtain ⟨k,hk,rfl,rfl,hz⟩:=hrel;have HZ:=Zh hz;clear hz
  by_cases hlt:k<n
  ·have hlti:(k:Int)<(n:Int):=aO
   obtain ⟨b,off,rfl,hb,hcell⟩:=H.out.row aO;have q:=hcell k hlt;obtain ⟨x,hx⟩:=Zx (iAt l k);rw [hx] at q;have HX:=Zh hx;clear hcell hx
   by_cases h1:x < -2147483648
   ·have HB:Hid (o=false):=Zh (by
     rw [<- HO.out,anyF_of (k:=k) hlt (by rw [HX.out]; unfold largeI; simp; omega)];rfl)
    go_wp2;go_ret;exact ⟨by rw [HB.out]; rfl,hW⟩
   ·by_cases h2:x>2147483648
    ·have HB:Hid (o=false):=Zh (by
      rw [<- HO.out,anyF_of (k:=k) hlt (by rw [HX.out]; unfold largeI; simp; omega)];rfl)
     go_wp2;go_ret;exact ⟨by rw [HB.out]; rfl,hW⟩
    ·have HB:Hid (largeI x=false):=Zh (by unfold largeI; simp; omega);go_wp2;go_roundw
     case rel=>exact ⟨k+1,aO,by go_num,by first | rfl | trivial,fun j hj=>by
      by_cases e:j=k
      ·subst e; rw [HX.out]; exact HB.out
      ·exact HZ.out j aO⟩
     case measure=>simp [intOf]; omega
  ·have hlti:¬ (k:Int)<(n:Int):=aO
   have HB:Hid (o=true):=Zh (by
    rw [<- HO.out];rw [anyF_no (fun j hj=>HZ.out j aO)];rfl)
   go_wp2;go_ret;exact ⟨by rw [HB.out]; rfl,hW⟩
set_option maxRecDepth 100000 in
set_option maxHeartbeats 4000000 in
theorem ref5_Check {w:World} {A:Option Addr} {n:Nat} {M:List (List Int)} (c:Nat) (h:RowsAt w A n M) :
 Calls Tryz.prog 51 #[.slice A n c] w fun e w'=>e = .returned (.int .i64 (matCheck M))/\Below w.heap.size w w':=by
 obtain ⟨E,hc,hr⟩:=h.pick;have hl:=h.len;obtain ⟨o,ho⟩:=Zx (matCheck M);rw [ho];unfold matCheck at ho;rw [hl] at ho;obtain ⟨m,hm⟩:=Zx (cols M);have QC:∀ u,Keeps [] w u->Calls Tryz.prog 52 #[.slice A n c] u fun e w'=>e = .returned (.int .i64 (m:Nat))/\Below u.heap.size u w':=fun u hu=>by
  rw [<- hm]; exact ref5_Columns c (h.keeps hu)
 have HQ:=Zh QC;rw [hm] at ho;have HM:=Zh hm;have HO:=Zh ho;have HR:=Zh hr;have HC:=Zh hc;have hW:=Zb w.heap.size w;clear ho hr hc hm QC h hl
 by_cases h48:48<n
 ·have hi:(48:Int)<(n:Int):=aO
  have hi2:(n:Int)>48:=hi;have HE:Hid (o=2):=Zh (by rw [<- HO.out,if_pos (.inl h48)]);go_enter Tryz.func51,Tryz.ntmps51;go_wp2;go_ret;exact ⟨by rw [HE.out]; rfl,hW⟩
 ·have hi:¬ (n:Int)>48:=aO
  go_enter Tryz.func51,Tryz.ntmps51;go_wp2_with fail;refine Zd (HQ.out w (Keeps.refl _ _)) ?_;rintro e w1 ⟨rfl,hb1⟩
  by_cases h8:8<m
  ·have hj:(m:Int)>8:=aO
   have HE:Hid (o=2):=Zh (by rw [<- HO.out,if_pos (.inr h8)]);have HB:=Zh hb1;clear hb1;go_wp2;go_ret;exact ⟨by rw [HE.out]; rfl,HB.out⟩
  ·have hj:¬ (m:Int)>8:=aO
   have HE:Hid ((if anyF (fun i=>decide ((rAt M i).length≠m)) n=true then 4 else if anyF (fun i=>anyF (fun k=>largeI (iAt (rAt M i) k)) (rAt M i).length) n=true then 3 else 0)=o):=Zh (by have e:=HO.out; rw [if_neg (show ¬ (48<n\/8<m) by omega)] at e; exact e);have HB:=Zh hb1;clear HO hb1;go_wp2;go_loopw [3] (fun i wr=>∃ k:Nat,k<=n/\i = .int .i64 k/\Below w.heap.size w wr/\∀ j,j<k->(rAt M j).length=m) (fun i _=>n - (intOf i).toNat)
   case atStart=>exact ⟨0,aO,rfl,HB.out,fun j hj=>aO⟩
   case round =>
    clear HB;obtain ⟨k,hk,rfl,hbw,hz⟩:=hrel;have HZ:=Zh hz;clear hz
    by_cases hlt:k<n
    ·have hlti:(k:Int)<(n:Int):=aO
     obtain ⟨b,off,rfl,hb,hcell⟩:=HC.out aO;have q0:=hcell k hlt;have q:=(Zc (w:=w) (a:=⟨b,off+k,none⟩) (hbw.block b hb)).trans q0;have hln:=(HR.out k hlt).2.2.len;obtain ⟨e1,he⟩:=Zx (E k);rw [he] at q hln;obtain ⟨B,m2,c2⟩:=e1;simp only at q hln;have hbw1:b<wr.heap.size:=Zl hb hbw.size;have HL:=Zh hln;have HBW:=Zh hbw;clear q0 hcell he hln hbw
     by_cases hmm:m2=m
     ·subst hmm;go_wp2;refine region_late 8 [] aK aK (by rfl) ?_;apply Zs;refine ⟨fun v hv hne=>?_,fun u hu=>?_⟩
      ·simp only [List.take_succ_cons,List.take_zero];have d1:=later_cell (T:=[]) (w:=wr) (v:=v) hbw1 aS q;have QX:=fun x:Later [] wr v=>HQ.out x.u ((Keeps.of_below HBW.out).more x.h (fun b hb=>hb))
       repeat (go_big_quiet_step ((go_at_call 52; with_reducible exact lateB (QX _))))
       refine wpQuiet_nil ?_;exact rfl
      simp only [List.drop_succ_cons,List.drop_zero];have HBU:=Zh (HBW.out.trans (hu.mono HBW.out.size));clear hu;refine late_nil ?_
      (try simp only [LN])
      go_wp2;go_roundw
      case rel=>exact ⟨k+1,aO,by go_num,HBU.out,fun j hj=>by
       by_cases e:j=k
       ·subst e; exact HL.out
       ·exact HZ.out j aO⟩
      case measure=>simp [intOf]; omega
     ·have hne:((m2:Int) != (m:Int))=true:=bne_iff_ne.2 aO;have HF:Hid (o=4):=Zh (by
       rw [<- HE.out,if_pos (anyF_of (k:=k) hlt (decide_eq_true (by rw [HL.out]; exact hmm)))])
      go_wp2;refine region_late 8 [] aK aK (by rfl) ?_;apply Zs;refine ⟨fun v hv hne=>?_,fun u hu=>?_⟩
      ·simp only [List.take_succ_cons,List.take_zero];have d1:=later_cell (T:=[]) (w:=wr) (v:=v) hbw1 aS q;have QX:=fun x:Later [] wr v=>HQ.out x.u ((Keeps.of_below HBW.out).more x.h (fun b hb=>hb))
       repeat (go_big_quiet_step ((go_at_call 52; with_reducible exact lateB (QX _))))
       refine wpQuiet_nil ?_;exact rfl
      simp only [List.drop_succ_cons,List.drop_zero];have HBU:=Zh (HBW.out.trans (hu.mono HBW.out.size));clear hu;refine late_nil ?_
      (try simp only [LN])
      go_wp2;go_ret;exact ⟨by rw [HF.out]; rfl,HBU.out⟩
    ·obtain rfl:k=n:=aO
     have hlti:¬ (k:Int)<(k:Int):=aO
     have HE2:Hid ((if anyF (fun i=>anyF (fun k=>largeI (iAt (rAt M i) k)) (rAt M i).length) k=true then 3 else 0)=o):=Zh (by
      have e:=HE.out;rw [if_neg (show ¬ anyF (fun i=>decide ((rAt M i).length≠m)) k=true by rw [anyF_no (fun j hj=>by simp [HZ.out j hj])]; simp)] at e;exact e)
     have HM8:Hid (∀ j,j<k->(rAt M j).length<=8):=Zh (fun j hj=>by rw [HZ.out j hj]; omega);have HBW:=Zh hbw;clear hbw HE HZ;go_wp2;go_loopw [4] (fun i wr=>∃ q:Nat,q<=k/\i = .int .i64 q/\Below w.heap.size w wr/\∀ j,j<q->anyF (fun i=>largeI (iAt (rAt M j) i)) (rAt M j).length=false) (fun i _=>k - (intOf i).toNat)
     case atStart=>exact ⟨0,aO,rfl,HBW.out,fun j hj=>aO⟩
     case round =>
      clear HBW;obtain ⟨q,hq,rfl,hbw,hz⟩:=hrel;have HZ:=Zh hz;have HBW:=Zh hbw;clear hz
      by_cases hlt:q<k
      ·have hqi:(q:Int)<(k:Int):=aO
       obtain ⟨b,off,rfl,hb,hcell⟩:=HC.out aO;have q0:=hcell q hlt;have q1:=(Zc (w:=w) (a:=⟨b,off+q,none⟩) (hbw.block b hb)).trans q0;have hln:=(HR.out q hlt).2.2;obtain ⟨e1,he⟩:=Zx (E q);rw [he] at q1 hln;obtain ⟨B,m2,c2⟩:=e1;simp only at q1 hln;have hl2:=hln.len;have h8m:=HM8.out q hlt;obtain ⟨l,hl⟩:=Zx (rAt M q);rw [hl] at hln hl2 h8m;have qr:=ref5_ranged (w:=wr) c2 (hln.below hbw) aO;obtain ⟨g,hg⟩:=Zx (anyF (fun i=>largeI (iAt l i)) m2);rw [hg] at qr;have HG:Hid (anyF (fun i=>largeI (iAt (rAt M q) i)) (rAt M q).length=g):=Zh (by rw [hl,hl2]; exact hg);have QR:=Zh qr;clear qr hg hl hl2 hln he q0 hcell hbw;go_wp2_with fail;refine Zd QR.out ?_;rintro e w2 ⟨rfl,hb2⟩;have HB2:=Zh (HBW.out.trans (hb2.mono HBW.out.size));clear hb2 q1;cases g
       ·go_wp2;go_roundw
        case rel=>exact ⟨q+1,aO,by go_num,HB2.out,fun j hj=>by
         by_cases e:j=q
         ·subst e; exact HG.out
         ·exact HZ.out j aO⟩
        case measure=>simp [intOf]; omega
       ·have HF:Hid (o=3):=Zh (by rw [<- HE2.out,if_pos (anyF_of (k:=q) hlt HG.out)]);go_wp2;go_ret;exact ⟨by rw [HF.out]; rfl,HB2.out⟩
      ·have hqi:¬ (q:Int)<(k:Int):=aO
       have HF:Hid (o=0):=Zh (by rw [<- HE2.out,if_neg (by rw [anyF_no (fun j hj=>HZ.out j aO)]; simp)]);go_wp2;go_ret;exact ⟨by rw [HF.out]; rfl,HBW.out⟩
end Go.Proofs.YtflgngjocgiojaaGreat
