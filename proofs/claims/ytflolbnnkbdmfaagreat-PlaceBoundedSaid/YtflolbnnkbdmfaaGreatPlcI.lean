import Derived.Test.YtflolbnnkbdmfaaGreatPlcH
set_option linter.all false
namespace Go.Proofs.YtflolbnnkbdmfaaGreat
open Go.RowKit
set_option maxHeartbeats 8000000
set_option maxRecDepth 100000
theorem shift_bad {w:World} {s1 s2:Bool} {A1 A2:Option Addr} {n1 c1 n2 c2:Nat} {p q:Int} (h1:NumAt w (.agg #[.bool s1,.slice A1 n1 c1]) p) (h2:NumAt w (.agg #[.bool s2,.slice A2 n2 c2]) q) :
 Calls Tryz.prog 91 #[.agg #[.bool s1,.slice A1 n1 c1,.bool s2,.slice A2 n2 c2]] w fun e w'=>e = .returned (.bool (!goodQ p q))/\Below w.heap.size w w':=by
 obtain ⟨o,ho⟩:=Zx (goodQ p q);rw [ho];have HO:=Zh ho;have H:=Zh (Zi h1 h2);clear h1 h2 ho;go_enter Tryz.func91,Tryz.ntmps91;have hW:=(Zb w.heap.size w).alloc (Zr _) (.cells #[.bool s1,.slice A1 n1 c1,.bool s2,.slice A2 n2 c2] 42);go_wp2_with fail;have q:=ratio_Right (w:=w.alloc (.cells #[.bool s1,.slice A1 n1 c1,.bool s2,.slice A2 n2 c2] 42)) ⟨_,_,_,_,_,_,_,_,rfl,H.out.1.below hW,H.out.2.below hW⟩;rw [HO.out] at q;refine Zd q ?_;clear q;rintro e w2 ⟨rfl,hb⟩;have HB:=Zh (hW.trans (hb.mono hW.size));clear hb hW;go_wp2;go_ret;exact ⟨rfl,HB.out⟩
theorem index_shift {w:World} {A:Option Addr} {n:Nat} {Q:Nat->QI} {p:Nat->Bool} (c:Nat) (hc:RatsA w A n Q) (hp:∀ i,i<n->p i=!goodQ (Q i).1 (Q i).2) (hn:n<=1000000) :
 Calls Tryz.prog 174 #[.slice A n c,.func (.func 91) #[] #[]] w fun e w'=>∃ r:Int,e = .returned (.int .i64 r)/\decide (0<=r)=anyF p n/\Below w.heap.size w w':=by
 have HP:=Zh hp;have HC:=Zh hc;clear hp hc;have hni:(n:Int)<=1000000:=aO
 go_enter Tryz.func174,Tryz.ntmps174;go_wp2;go_loopw [8] (fun i wr=>∃ k:Nat,k<=n/\i = .int .i64 k/\anyF p k=false/\Below w.heap.size w wr) (fun i _=>n - (intOf i).toNat)
 case atStart=>exact ⟨0,aO,rfl,rfl,Zb _ _⟩
 case round =>
  obtain ⟨k,hk,rfl,hA,hbel⟩:=hrel;have HA:=Zh hA;have hkb:=hbel.size;clear hA
  by_cases hlt:k<n
  ·have hlt2:(k:Int)<(n:Int):=aO
   obtain ⟨b,off,rfl,hb,hcell⟩:=HC.out aO;obtain ⟨s1,A1,n1,c1,s2,A2,n2,c2,f1,f2,f3,f4,NA,ND⟩:=hcell k hlt;have hbk:=hbel.block b hb;have e1:=(Zc (w:=w) (a:=⟨b,off+k*4,none⟩) hbk).trans f1;have e2:=(Zc (w:=w) (a:=⟨b,off+k*4+1,none⟩) hbk).trans f2;have e3:=(Zc (w:=w) (a:=⟨b,off+k*4+2,none⟩) hbk).trans f3;have e4:=(Zc (w:=w) (a:=⟨b,off+k*4+3,none⟩) hbk).trans f4;have HN:=Zh (Zi (NA.below hbel) (ND.below hbel));clear NA ND f1 f2 f3 f4 hbk;go_wp2_with fail;have q:=shift_bad (w:=wr) HN.out.1 HN.out.2;rw [<- HP.out k hlt] at q;obtain ⟨o,ho⟩:=Zx (p k);rw [ho] at q;refine Zd q ?_;clear q;rintro e w2 ⟨rfl,hb2⟩;have B2:=Zh (hbel.trans (hb2.mono hkb));have HO:=Zh ho;clear hb2 ho;cases o
   ·go_wp2;go_roundw
    case rel=>exact ⟨k+1,aO,by go_num,by rw [anyF,HA.out,HO.out]; rfl,B2.out⟩
    case measure=>simp [intOf]; omega
   ·go_wp2;go_ret;exact ⟨_,rfl,by rw [anyF_of hlt HO.out]; exact decide_eq_true aO,B2.out⟩
  ·have hk2:k=n:=aO
   subst hk2;go_wp2;go_ret;exact ⟨_,rfl,by rw [HA.out]; rfl,hbel⟩
theorem contains_shift {w:World} {A:Option Addr} {n:Nat} {Q:Nat->QI} {p:Nat->Bool} (c:Nat) (hc:RatsA w A n Q) (hp:∀ i,i<n->p i=!goodQ (Q i).1 (Q i).2) (hn:n<=1000000) :
 Calls Tryz.prog 92 #[.slice A n c,.func (.func 91) #[] #[]] w fun e w'=>e = .returned (.bool (anyF p n))/\Below w.heap.size w w':=by
 have q:=index_shift c hc hp hn;obtain ⟨o,ho⟩:=Zx (anyF p n);rw [ho] at q ⊢;have Q:=Zh q;clear q ho hp hc;go_enter Tryz.func92,Tryz.ntmps92;go_wp2_with fail;refine Zd Q.out ?_;rintro e w2 ⟨r,rfl,hr,hb⟩;have HR:=Zh hr;have HB:=Zh hb;clear hr hb
 by_cases h0:0<=r
 ·have hr2:o=true:=by rw [<- HR.out]; exact decide_eq_true h0
  subst hr2;go_wp2;go_ret;exact ⟨rfl,HB.out⟩
 ·have hr2:o=false:=by rw [<- HR.out]; exact decide_eq_false h0
  subst hr2;go_wp2;go_ret;exact ⟨ret_bool (decide_eq_false aO),HB.out⟩
end Go.Proofs.YtflolbnnkbdmfaaGreat
