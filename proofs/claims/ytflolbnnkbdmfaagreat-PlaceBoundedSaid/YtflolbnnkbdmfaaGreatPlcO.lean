import Derived.Test.YtflolbnnkbdmfaaGreatPlcV
set_option linter.all false
namespace Go.Proofs.YtflolbnnkbdmfaaGreat
open Go.RowKit
set_option maxHeartbeats 8000000
set_option maxRecDepth 100000
def lAt (L:List Loc) (k:Nat):Loc:=L.getD k ⟨⟨0,0,0⟩,⟨0,0,0⟩,0,0⟩
@[reducible] def Loc.v (l : Loc) : Value := .agg #[.int .i64 l.p.x, .int .i64 l.p.y, .int .i64 l.p.z, .int .i64 l.n.x, .int .i64 l.n.y, .int .i64 l.n.z, .int .i64 l.lo, .int .i64 l.hi]
def Loc.I (l:Loc):Prop:=I64 l.p.x/\I64 l.p.y/\I64 l.p.z/\I64 l.n.x/\I64 l.n.y/\I64 l.n.z/\I64 l.lo/\I64 l.hi
def RowL (w:World) (b off n:Nat) (L:List Loc):Prop:=∀ i,i<n->w.cell? ⟨b,off+i*8,none⟩=some (.int .i64 (lAt L i).p.x)/\w.cell? ⟨b,off+i*8+1,none⟩=some (.int .i64 (lAt L i).p.y)/\w.cell? ⟨b,off+i*8+2,none⟩=some (.int .i64 (lAt L i).p.z)/\w.cell? ⟨b,off+i*8+3,none⟩=some (.int .i64 (lAt L i).n.x)/\w.cell? ⟨b,off+i*8+4,none⟩=some (.int .i64 (lAt L i).n.y)/\w.cell? ⟨b,off+i*8+5,none⟩=some (.int .i64 (lAt L i).n.z)/\w.cell? ⟨b,off+i*8+6,none⟩=some (.int .i64 (lAt L i).lo)/\w.cell? ⟨b,off+i*8+7,none⟩=some (.int .i64 (lAt L i).hi)
structure LocsAt (w:World) (A:Option Addr) (n:Nat) (L:List Loc):Prop where
 len:L.length=n
 ok:∀ i,i<n->(lAt L i).I
 row:0<n->∃ b off,A=some ⟨b,off,none⟩/\b<w.heap.size/\RowL w b off n L
theorem RowL.same {w w':World} {b off n:Nat} {L:List Loc} (h:RowL w b off n L) (e:w'.heap[b]?=w.heap[b]?):RowL w' b off n L:=fun i hi=>by
 obtain ⟨h0,h1,h2,h3,h4,h5,h6,h7⟩:=h i hi;exact ⟨(Zc (w:=w) (a:=⟨b,_,none⟩) e).trans h0,(Zc (w:=w) (a:=⟨b,_,none⟩) e).trans h1,(Zc (w:=w) (a:=⟨b,_,none⟩) e).trans h2,(Zc (w:=w) (a:=⟨b,_,none⟩) e).trans h3,(Zc (w:=w) (a:=⟨b,_,none⟩) e).trans h4,(Zc (w:=w) (a:=⟨b,_,none⟩) e).trans h5,(Zc (w:=w) (a:=⟨b,_,none⟩) e).trans h6,(Zc (w:=w) (a:=⟨b,_,none⟩) e).trans h7⟩
theorem LocsAt.below {w w':World} {A:Option Addr} {n:Nat} {L:List Loc} (h:LocsAt w A n L) (hb:Below w.heap.size w w'):LocsAt w' A n L:=
 ⟨h.len,h.ok,fun h0=>by
  obtain ⟨b,off,e,hlt,hc⟩:=h.row h0;exact ⟨b,off,e,Zl hlt hb.size,hc.same (hb.block b hlt)⟩⟩
theorem any_anyF (p:Loc->Bool):∀ (L:List Loc),anyF (fun i=>p (lAt L i)) L.length=L.any p:=by
 have key:∀ (L:List Loc) (k:Nat),k<=L.length->anyF (fun i=>p (lAt L i)) k=(L.take k).any p:=by
  intro L k
  induction k with
  | zero=>intro _; rfl
  | succ k ih =>
   intro hk;rw [anyF,ih aO,List.take_add_one,List.any_append];congr 1;unfold lAt;rw [Ze,List.getElem?_eq_getElem (by omega:k<L.length)];simp
 intro L;rw [key L L.length (Zr _),List.take_length]
theorem plc_slanted (l:Loc) (hI:l.I) (w:World):Calls Tryz.prog 154 #[l.v] w fun e w'=>e = .returned (.bool (slantL l))/\Below w.heap.size w w':=by
 obtain ⟨⟨x,y,z⟩,⟨a,b,c⟩,lo,hi⟩:=l;simp only [Loc.v];obtain ⟨o,ho⟩:=Zx (slantL ⟨⟨x,y,z⟩,⟨a,b,c⟩,lo,hi⟩);rw [ho];have HO:=Zh ho;clear ho hI;go_enter Tryz.func154,Tryz.ntmps154;obtain ⟨d,hd⟩:=Zx (vDot ⟨a,b,c⟩ ⟨a,b,c⟩);have HD:=Zh (congrArg (Value.int IntKind.i64) hd);have HD2:=Zh hd;clear hd;go_wp2_with fail
 all_goals first
  | (
   go_ret;exact ⟨ret_bool (by
    rw [<- HO.out];have hs:smallV ⟨a,b,c⟩=false:=by
     cases h:smallV ⟨a,b,c⟩ with
     | false=>rfl
     | true=>simp only [smallV,Bool.and_eq_true,inB_iff] at h; omega
    unfold slantL;rw [hs];rfl),aBel⟩)
  | (
   refine Zd (callv (plane_Dot a b c a b c _) HD.out) ?_;rintro e w1 ⟨rfl,hb1⟩;have hw1:Below w.heap.size w w1:=Below.hop aBel hb1;clear hb1;go_wp2;go_ret;exact ⟨ret_bool (by
    rw [<- HO.out];have hs:smallV ⟨a,b,c⟩=true:=by
     simp only [smallV,Bool.and_eq_true,inB_iff]; omega
    unfold slantL;rw [hs,HD2.out];rfl),hw1⟩)
theorem plc_beyond (l:Loc) (w:World):Calls Tryz.prog 155 #[l.v] w fun e w'=>e = .returned (.bool (beyL l))/\Below w.heap.size w w':=by
 obtain ⟨⟨x,y,z⟩,⟨a,b,c⟩,lo,hi⟩:=l;simp only [Loc.v];obtain ⟨o,ho⟩:=Zx (beyL ⟨⟨x,y,z⟩,⟨a,b,c⟩,lo,hi⟩);rw [ho];have HO:=Zh ho;clear ho;obtain ⟨q,hq⟩:=Zx (vIn ⟨x,y,z⟩);have HQ:=Zh (congrArg Value.bool hq);have HQ2:=Zh hq;clear hq;go_enter Tryz.func155,Tryz.ntmps155;go_wp2_with fail;refine Zd (callv (plane_In x y z _) HQ.out) ?_;rintro e w1 ⟨rfl,hb1⟩;have o1:Own w1 w.heap.size #[.int .i64 x,.int .i64 y,.int .i64 z,.int .i64 a,.int .i64 b,.int .i64 c,.int .i64 lo,.int .i64 hi]:=Own.below aOwn hb1;have o1c:=o1.cell;have hw1:Below w.heap.size w w1:=Below.hop aBel hb1;clear hb1;have HV:RowKit.Hid (beyL ⟨⟨x,y,z⟩,⟨a,b,c⟩,lo,hi⟩=(!q || (decide (hi<lo) || (decide (lo < -10000) || decide (10000<hi))))):=by
  unfold beyL; rw [HQ2.out]; rfl
 cases q
 ·go_wp2;go_ret;exact ⟨ret_bool (by rw [<- HO.out,HV.out]; rfl),hw1⟩
 ·go_wp2
  all_goals
   go_ret;exact ⟨ret_bool (by rw [<- HO.out,HV.out]; first | (simp; omega) | grind),hw1⟩
theorem index_slant {w:World} {A:Option Addr} {n:Nat} {L:List Loc} {p:Nat->Bool} (c:Nat) (hc:0<n->∃ b off,A=some ⟨b,off,none⟩/\b<w.heap.size/\RowL w b off n L) (hp:∀ i,i<n->p i=slantL (lAt L i)/\(lAt L i).I) (hn:n<=1000000) :
 Calls Tryz.prog 217 #[.slice A n c,.func (.func 154) #[] #[]] w fun e w'=>∃ r:Int,e = .returned (.int .i64 r)/\decide (0<=r)=anyF p n/\Below w.heap.size w w':=by
 have HP:=Zh hp;have HC:=Zh hc;clear hp hc;have hni:(n:Int)<=1000000:=aO
 go_enter Tryz.func217,Tryz.ntmps217;go_wp2;go_loopw [8] (fun i wr=>∃ k:Nat,k<=n/\i = .int .i64 k/\anyF p k=false/\Below w.heap.size w wr) (fun i _=>n - (intOf i).toNat)
 case atStart=>exact ⟨0,aO,rfl,rfl,Zb _ _⟩
 case round =>
  obtain ⟨k,hk,rfl,hA,hbel⟩:=hrel;have HA:=Zh hA;have hkb:=hbel.size;clear hA
  by_cases hlt:k<n
  ·have hlt2:(k:Int)<(n:Int):=aO
   obtain ⟨b,off,rfl,hb,hcell⟩:=HC.out aO;obtain ⟨h0,h1,h2,h3,h4,h5,h6,h7⟩:=hcell k hlt;have hbk:=hbel.block b hb;have e0:=(Zc (w:=w) (a:=⟨b,off+k*8,none⟩) hbk).trans h0;have e1:=(Zc (w:=w) (a:=⟨b,off+k*8+1,none⟩) hbk).trans h1;have e2:=(Zc (w:=w) (a:=⟨b,off+k*8+2,none⟩) hbk).trans h2;have e3:=(Zc (w:=w) (a:=⟨b,off+k*8+3,none⟩) hbk).trans h3;have e4:=(Zc (w:=w) (a:=⟨b,off+k*8+4,none⟩) hbk).trans h4;have e5:=(Zc (w:=w) (a:=⟨b,off+k*8+5,none⟩) hbk).trans h5;have e6:=(Zc (w:=w) (a:=⟨b,off+k*8+6,none⟩) hbk).trans h6;have e7:=(Zc (w:=w) (a:=⟨b,off+k*8+7,none⟩) hbk).trans h7;clear h0 h1 h2 h3 h4 h5 h6 h7 hbk;go_wp2_with fail;have q:=plc_slanted (lAt L k) (HP.out k hlt).2 wr;rw [<- (HP.out k hlt).1] at q;obtain ⟨o,ho⟩:=Zx (p k);rw [ho] at q;refine Zd q ?_;clear q;rintro e w2 ⟨rfl,hb2⟩;have B2:=Zh (hbel.trans (hb2.mono hkb));have HO:=Zh ho;clear hb2 ho;cases o
   ·go_wp2;go_roundw
    case rel=>exact ⟨k+1,aO,by go_num,by rw [anyF,HA.out,HO.out]; rfl,B2.out⟩
    case measure=>simp [intOf]; omega
   ·go_wp2;go_ret;exact ⟨_,rfl,by rw [anyF_of hlt HO.out]; exact decide_eq_true aO,B2.out⟩
  ·have hk2:k=n:=aO
   subst hk2;go_wp2;go_ret;exact ⟨_,rfl,by rw [HA.out]; rfl,hbel⟩
theorem contains_slant {w:World} {A:Option Addr} {n:Nat} {L:List Loc} {p:Nat->Bool} (c:Nat) (hc:0<n->∃ b off,A=some ⟨b,off,none⟩/\b<w.heap.size/\RowL w b off n L) (hp:∀ i,i<n->p i=slantL (lAt L i)/\(lAt L i).I) (hn:n<=1000000) :
 Calls Tryz.prog 153 #[.slice A n c,.func (.func 154) #[] #[]] w fun e w'=>e = .returned (.bool (anyF p n))/\Below w.heap.size w w':=by
 have q:=index_slant c hc hp hn;obtain ⟨o,ho⟩:=Zx (anyF p n);rw [ho] at q ⊢;have Q:=Zh q;clear q ho hp hc;go_enter Tryz.func153,Tryz.ntmps153;go_wp2_with fail;refine Zd Q.out ?_;rintro e w2 ⟨r,rfl,hr,hb⟩;have HR:=Zh hr;have HB:=Zh hb;clear hr hb
 by_cases h0:0<=r
 ·have hr2:o=true:=by rw [<- HR.out]; exact decide_eq_true h0
  subst hr2;go_wp2;go_ret;exact ⟨rfl,HB.out⟩
 ·have hr2:o=false:=by rw [<- HR.out]; exact decide_eq_false h0
  subst hr2;go_wp2;go_ret;exact ⟨ret_bool (decide_eq_false aO),HB.out⟩
theorem index_bey {w:World} {A:Option Addr} {n:Nat} {L:List Loc} {p:Nat->Bool} (c:Nat) (hc:0<n->∃ b off,A=some ⟨b,off,none⟩/\b<w.heap.size/\RowL w b off n L) (hp:∀ i,i<n->p i=beyL (lAt L i)) (hn:n<=1000000) :
 Calls Tryz.prog 217 #[.slice A n c,.func (.func 155) #[] #[]] w fun e w'=>∃ r:Int,e = .returned (.int .i64 r)/\decide (0<=r)=anyF p n/\Below w.heap.size w w':=by
 have HP:=Zh hp;have HC:=Zh hc;clear hp hc;have hni:(n:Int)<=1000000:=aO
 go_enter Tryz.func217,Tryz.ntmps217;go_wp2;go_loopw [8] (fun i wr=>∃ k:Nat,k<=n/\i = .int .i64 k/\anyF p k=false/\Below w.heap.size w wr) (fun i _=>n - (intOf i).toNat)
 case atStart=>exact ⟨0,aO,rfl,rfl,Zb _ _⟩
 case round =>
  obtain ⟨k,hk,rfl,hA,hbel⟩:=hrel;have HA:=Zh hA;have hkb:=hbel.size;clear hA
  by_cases hlt:k<n
  ·have hlt2:(k:Int)<(n:Int):=aO
   obtain ⟨b,off,rfl,hb,hcell⟩:=HC.out aO;obtain ⟨h0,h1,h2,h3,h4,h5,h6,h7⟩:=hcell k hlt;have hbk:=hbel.block b hb;have e0:=(Zc (w:=w) (a:=⟨b,off+k*8,none⟩) hbk).trans h0;have e1:=(Zc (w:=w) (a:=⟨b,off+k*8+1,none⟩) hbk).trans h1;have e2:=(Zc (w:=w) (a:=⟨b,off+k*8+2,none⟩) hbk).trans h2;have e3:=(Zc (w:=w) (a:=⟨b,off+k*8+3,none⟩) hbk).trans h3;have e4:=(Zc (w:=w) (a:=⟨b,off+k*8+4,none⟩) hbk).trans h4;have e5:=(Zc (w:=w) (a:=⟨b,off+k*8+5,none⟩) hbk).trans h5;have e6:=(Zc (w:=w) (a:=⟨b,off+k*8+6,none⟩) hbk).trans h6;have e7:=(Zc (w:=w) (a:=⟨b,off+k*8+7,none⟩) hbk).trans h7;clear h0 h1 h2 h3 h4 h5 h6 h7 hbk;go_wp2_with fail;have q:=plc_beyond (lAt L k) wr;rw [<- HP.out k hlt] at q;obtain ⟨o,ho⟩:=Zx (p k);rw [ho] at q;refine Zd q ?_;clear q;rintro e w2 ⟨rfl,hb2⟩;have B2:=Zh (hbel.trans (hb2.mono hkb));have HO:=Zh ho;clear hb2 ho;cases o
   ·go_wp2;go_roundw
    case rel=>exact ⟨k+1,aO,by go_num,by rw [anyF,HA.out,HO.out]; rfl,B2.out⟩
    case measure=>simp [intOf]; omega
   ·go_wp2;go_ret;exact ⟨_,rfl,by rw [anyF_of hlt HO.out]; exact decide_eq_true aO,B2.out⟩
  ·have hk2:k=n:=aO
   subst hk2;go_wp2;go_ret;exact ⟨_,rfl,by rw [HA.out]; rfl,hbel⟩
theorem contains_bey {w:World} {A:Option Addr} {n:Nat} {L:List Loc} {p:Nat->Bool} (c:Nat) (hc:0<n->∃ b off,A=some ⟨b,off,none⟩/\b<w.heap.size/\RowL w b off n L) (hp:∀ i,i<n->p i=beyL (lAt L i)) (hn:n<=1000000) :
 Calls Tryz.prog 153 #[.slice A n c,.func (.func 155) #[] #[]] w fun e w'=>e = .returned (.bool (anyF p n))/\Below w.heap.size w w':=by
 have q:=index_bey c hc hp hn;obtain ⟨o,ho⟩:=Zx (anyF p n);rw [ho] at q ⊢;have Q:=Zh q;clear q ho hp hc;go_enter Tryz.func153,Tryz.ntmps153;go_wp2_with fail;refine Zd Q.out ?_;rintro e w2 ⟨r,rfl,hr,hb⟩;have HR:=Zh hr;have HB:=Zh hb;clear hr hb
 by_cases h0:0<=r
 ·have hr2:o=true:=by rw [<- HR.out]; exact decide_eq_true h0
  subst hr2;go_wp2;go_ret;exact ⟨rfl,HB.out⟩
 ·have hr2:o=false:=by rw [<- HR.out]; exact decide_eq_false h0
  subst hr2;go_wp2;go_ret;exact ⟨ret_bool (decide_eq_false aO),HB.out⟩
theorem plc_each {w:World} {A:Option Addr} {n:Nat} {L:List Loc} (c:Nat) (h:LocsAt w A n L) (hn:n<=1000):Calls Tryz.prog 77 #[.slice A n c] w fun e w'=>e = .returned (.int .i64 (locE L))/\Below w.heap.size w w':=by
 have q1:=contains_slant (p:=fun i=>slantL (lAt L i)) c h.row (fun i hi=>⟨rfl,h.ok i hi⟩) aO;have hl:=h.len;have H:=Zh h;obtain ⟨o1,ho1⟩:=Zx (L.any slantL);obtain ⟨o2,ho2⟩:=Zx (L.any beyL);have hE:locE L=if o1 then 1 else if o2 then 3 else 0:=by unfold locE; rw [ho1,ho2]
 rw [hE];have e1:=any_anyF slantL L;rw [hl,ho1] at e1;rw [e1] at q1;have Q1:=Zh q1;have HO2:=Zh ho2;have HLN:=Zh hl;clear h q1 hE e1 ho1 ho2 hl;go_enter Tryz.func77,Tryz.ntmps77;go_wp2_with fail;refine Zd Q1.out ?_;rintro e w1 ⟨rfl,hb1⟩;have hw1:=hb1;clear hb1 Q1;cases o1
 ·have h1:=H.out.below hw1;have q2:=contains_bey (p:=fun i=>beyL (lAt L i)) c h1.row (fun i hi=>rfl) aO;have e2:=any_anyF beyL L;rw [HLN.out,HO2.out] at e2;rw [e2] at q2;have Q2:=Zh q2;clear h1 q2 e2;go_wp2_with fail;refine Zd Q2.out ?_;rintro e w2 ⟨rfl,hb2⟩;have hw2:=hw1.trans (hb2.mono hw1.size);clear hb2 Q2;cases o2
  ·go_wp2;go_ret;exact ⟨rfl,hw2⟩
  ·go_wp2;go_ret;exact ⟨rfl,hw2⟩
 ·go_wp2;go_ret;exact ⟨rfl,hw1⟩
def valL (L:List Loc) (l:List Int):List Int:=(List.range L.length).map fun k=>(lAt L k).lo+nextV (l.drop k) ((lAt L k).hi - (lAt L k).lo+1)
end Go.Proofs.YtflolbnnkbdmfaaGreat
namespace Go.Proofs.YtflolbnnkbdmfaaGreat
theorem ordI_of {a b c d:Int} (h1:a<b↔c<d) (h2:b<a↔d<c):ordI a b=ordI c d:=by
 rcases Int.lt_trichotomy a b with h | h | h
 ·rw [ordI_lt h,ordI_lt (h1.1 h)]
 ·subst h;have:c=d:=aO
  rw [this,ordI_eq,ordI_eq]
 ·rw [ordI_gt h,ordI_gt (h2.1 h)]
theorem ordI_swap (a b:Int):ordI a b=-ordI b a:=by
 rcases Int.lt_trichotomy a b with h | h | h
 ·rw [ordI_lt h,ordI_gt h]
 ·subst h; rw [ordI_eq]; omega
 ·rw [ordI_gt h,ordI_lt h]; omega
theorem cmp_parts {a b c d:Int} (hb:0<b) (hd:0<d):a*d=b*d*(a / b)+a%b*d/\c*b=b*d*(c / d)+c%d*b/\0<=a%b*d/\a%b*d<b*d/\0<=c%d*b/\c%d*b<b*d:=by
 have h1:=Int.emod_nonneg a (by omega:b≠0);have h2:=Int.emod_lt_of_pos a hb;have h3:=Int.emod_nonneg c (by omega:d≠0);have h4:=Int.emod_lt_of_pos c hd;refine ⟨?_,?_,Int.mul_nonneg h1 aO,Int.mul_lt_mul_of_pos_right h2 hd,Int.mul_nonneg h3 aO,?_⟩
 ·have e:=Int.mul_ediv_add_emod a b;have:a*d=(b*(a / b)+a%b)*d:=by rw [e]
  rw [this]; grind
 ·have e:=Int.mul_ediv_add_emod c d;have:c*b=(d*(c / d)+c%d)*b:=by rw [e]
  rw [this]; grind
 ·rw [Int.mul_comm b d]; exact Int.mul_lt_mul_of_pos_right h4 hb
theorem cmp_whole {a b c d:Int} (hb:0<b) (hd:0<d) (h:a / b≠c / d):ordI (a*d) (c*b)=ordI (a / b) (c / d):=by
 obtain ⟨e1,e2,e3,e4,e5,e6⟩:=cmp_parts (a:=a) (c:=c) hb hd;have hbd:0<b*d:=Int.mul_pos hb hd;rcases Int.lt_trichotomy (a / b) (c / d) with h1 | h1 | h1
 ·rw [ordI_lt h1];refine ordI_lt ?_;have:=Int.mul_le_mul_of_nonneg_left (show a / b+1<=c / d by omega) (Int.le_of_lt hbd);rw [Int.mul_add,Int.mul_one] at this;omega
 ·exact absurd h1 h
 ·rw [ordI_gt h1];refine ordI_gt ?_;have:=Int.mul_le_mul_of_nonneg_left (show c / d+1<=a / b by omega) (Int.le_of_lt hbd);rw [Int.mul_add,Int.mul_one] at this;omega
theorem cmp_rest {a b c d:Int} (hb:0<b) (hd:0<d) (h:a / b=c / d):ordI (a*d) (c*b)=ordI (a%b*d) (c%d*b):=by
 obtain ⟨e1,e2,e3,e4,e5,e6⟩:=cmp_parts (a:=a) (c:=c) hb hd;rw [h] at e1;exact ordI_of aO aO
theorem cmp_end {a b c d:Int} (hb:0<b) (hd:0<d) (h:a / b=c / d) (h0:a%b=0\/c%d=0):ordI (a*d) (c*b)=ordI (a%b) (c%d):=by
 rw [cmp_rest hb hd h];have h1:=Int.emod_nonneg a (by omega:b≠0);have h3:=Int.emod_nonneg c (by omega:d≠0);rcases h0 with h0 | h0
 ·rw [h0,Int.zero_mul];refine ordI_of ⟨fun h=>?_,fun h=>Int.mul_pos h hb⟩ ⟨fun h=>?_,fun h=>aO⟩
  ·rcases Int.lt_or_eq_of_le h3 with h4 | h4
   ·exact h4
   ·rw [<- h4,Int.zero_mul] at h; omega
  ·have:=Int.mul_nonneg h3 (Int.le_of_lt hb); omega
 ·rw [h0,Int.zero_mul];refine ordI_of ⟨fun h=>?_,fun h=>aO⟩ ⟨fun h=>?_,fun h=>Int.mul_pos h hd⟩
  ·have:=Int.mul_nonneg h1 (Int.le_of_lt hd); omega
  ·rcases Int.lt_or_eq_of_le h1 with h4 | h4
   ·exact h4
   ·rw [<- h4,Int.zero_mul] at h; omega
theorem cmp_next {a b c d:Int} (hb:0<b) (hd:0<d) (h:a / b=c / d):ordI (a*d) (c*b)=-ordI (b*(c%d)) (d*(a%b)):=by
 rw [cmp_rest hb hd h,ordI_swap,Int.mul_comm b,Int.mul_comm d]
end Go.Proofs.YtflolbnnkbdmfaaGreat
namespace Go.Proofs.YtflolbnnkbdmfaaGreat
open Go.RowKit
def cmpQ (a b:QI):Int:=ordI (a.1*b.2) (b.1*a.2)
def endsQ (r:QI) (lo hi:Int):QI×QI:=if 0<cmpQ (mulQ r (lo,1)) (mulQ r (hi,1)) then (mulQ r (hi,1),mulQ r (lo,1)) else (mulQ r (lo,1),mulQ r (hi,1))
structure SmEnds (r:QI) (lo hi:Int):Prop where
 hr:SmQ r
 a:SmQ (mulQ r (lo,1))
 b:SmQ (mulQ r (hi,1))
def ceilQ (a:QI):Int:=-((-a.1) / a.2)
def leastQ (e:Nat->QI×QI):Nat->QI
 | 0=>(0,1)
 | k+1=>addQ (leastQ e k) (e k).1
def mostQ (e:Nat->QI×QI):Nat->QI
 | 0=>(0,1)
 | k+1=>addQ (mostQ e k) (e k).2
def endsAt (xs:Nat->Nat->QI) (L:List Loc) (v:V3) (i k:Nat):QI×QI:=endsQ (shiftQ (xs k) v i) (lAt L k).lo (lAt L k).hi
def lowQ (xs:Nat->Nat->QI) (L:List Loc) (v:V3) (i:Nat):Int:=ceilQ (divQ (leastQ (endsAt xs L v i) 6) (-100,1))
def highQ (xs:Nat->Nat->QI) (L:List Loc) (v:V3) (i:Nat):Int:=ceilQ (divQ (mostQ (endsAt xs L v i) 6) (100,1))
def cornersL (lo hi:V3):List V3:=[⟨lo.x,lo.y,lo.z⟩,⟨lo.x,lo.y,hi.z⟩,⟨lo.x,hi.y,lo.z⟩,⟨lo.x,hi.y,hi.z⟩,⟨hi.x,lo.y,lo.z⟩,⟨hi.x,lo.y,hi.z⟩,⟨hi.x,hi.y,lo.z⟩,⟨hi.x,hi.y,hi.z⟩]
def bestQ (xs:Nat->Nat->QI) (L:List Loc) (i:Nat) (vs:List V3):Int:=vs.foldl (fun b v=>max (max b (lowQ xs L v i)) (highQ xs L v i)) 0
structure SmCorner (xs:Nat->Nat->QI) (L:List Loc) (v:V3):Prop where
 sh:∀ k,k<6->SmShifts (xs k) v
 en:∀ k,k<6->∀ i,i<3->SmEnds (shiftQ (xs k) v i) (lAt L k).lo (lAt L k).hi
 le:∀ k,k<=6->∀ i,i<3->SmQ (leastQ (endsAt xs L v i) k)
 mo:∀ k,k<=6->∀ i,i<3->SmQ (mostQ (endsAt xs L v i) k)
 lo:∀ i,i<3->SmQ (divQ (leastQ (endsAt xs L v i) 6) (-100,1)) /\ -9223372036854775808<=lowQ xs L v i/\lowQ xs L v i<=9223372036854775807
 hi:∀ i,i<3->SmQ (divQ (mostQ (endsAt xs L v i) 6) (100,1)) /\ -9223372036854775808<=highQ xs L v i/\highQ xs L v i<=9223372036854775807
def unitB (k:Nat):List Int:=(List.range 6).map fun i=>if i=k then 1 else 0
end Go.Proofs.YtflolbnnkbdmfaaGreat
namespace Go.Proofs.YtflolbnnkbdmfaaGreat
theorem sol_common {M:List (List Int)} {B:Nat} (hE:∀ y,y<M.length->∀ c,c<cols M->(iAt (rAt M y) c).natAbs<=B) (h:matCheck M=0) (hc:cols M=M.length) (hr:rankZ M=M.length) :
 ∃ D0:Int,D0≠0/\D0.natAbs<=fac M.length*B^M.length/\∀ b x N D,(∀ y,y<M.length->(iAt b y).natAbs<=B)->SolZ M b x N D->∃ N0:Nat->Int,(∀ c,(N0 c).natAbs<=fac M.length*B^M.length)/\(∀ c,c<cols M->x c=toQ (N0 c) D0)/\∀ y,y<M.length->sumF (fun c=>iAt (rAt M y) c*N0 c) (cols M)=D0*iAt b y:=by
 obtain ⟨_,h8,h3,h4⟩:=matCheck_ok h;obtain ⟨π,cs,hI⟩:=InvB.run (wide_sys h3) (cols M) (Zr _);have ha:(runB ⟨sysL M [] M.length,1,0⟩ (cols M)).a=M.length:=(rankZ_A h).symm.trans hr;have hnz:=hI.nz;have hcol:=hI.col;have hinc:=hI.inc;have hperm:=hI.perm;have hsur:=hI.sur;rw [ha] at hnz hcol hinc;rw [sysL_len] at hperm hsur;have hid:=inc_id (cs:=cs) (n:=M.length) (fun t ht=>by have:=hcol t ht; omega) hinc;have hnz2:∀ t,t<=M.length->minD t (fun i=>rowF (sysL M [] M.length) (π i)) id≠0:=fun t ht=>by
  have e:minD t (fun i=>rowF (sysL M [] M.length) (π i)) id=minD t (fun i=>rowF (sysL M [] M.length) (π i)) cs:=minD_eq (fun _ _=>rfl) (fun b hb=>(hid b aO).symm);rw [e];exact hnz t ht
 have hD:=transp_ne hnz2 M.length (Zr _);have hR:∀ i,i<M.length->∀ c,rowF (sysL M [] M.length) (π i) c=iAt (rAt M (π i)) c:=fun i hi c=>rowF_sys (hperm i hi) c
 have hB:∀ i,i<M.length->∀ c,c<M.length->(rowF (sysL M [] M.length) (π i) c).natAbs<=B:=fun i hi c hcc=>by
  rw [hR i hi c];exact hE _ (hperm i hi) c aO
 obtain ⟨O,hO⟩:∃ O,O=(fun c i=>rowF (sysL M [] M.length) (π i) c):=⟨_,rfl⟩;have hOB:∀ c,c<M.length->∀ i,i<M.length->(O c i).natAbs<=B:=fun c hcc i hi=>by rw [hO]; exact hB i hi c hcc
 have hOD:minD M.length O id≠0:=by rw [hO]; exact hD
 have hOR:∀ i,i<M.length->∀ c,O c i=iAt (rAt M (π i)) c:=fun i hi c=>by rw [hO]; exact hR i hi c
 clear hO hD hR hB;refine ⟨minD M.length O id,hOD,minD_abs hOB,fun b x N D hl hS=>?_⟩;have hrow:∀ y,y<M.length->sumF (fun c=>iAt (rAt M y) c*(-gamC M.length O id (fun i=>iAt b (π i)) c)) (cols M)=minD M.length O id*iAt b y:=fun y hy=>by
  obtain ⟨i,hi,rfl⟩:=hsur y hy;have e1:=minV_exp M.length O id (fun i=>iAt b (π i)) i;rw [show minV M.length O id (fun i=>iAt b (π i)) i=0 from minV_zero (cs:=id) (t:=i) hi] at e1;have e2:sumF (fun c=>iAt (rAt M (π i)) c*(-gamC M.length O id (fun i=>iAt b (π i)) c)) (cols M)=(-1)*sumF (fun c=>gamC M.length O id (fun i=>iAt b (π i)) c*O c i) M.length:=by
   rw [hc,<- sumF_mul];exact sumF_eq fun c _=>by rw [hOR i hi c]; grind
  rw [e2];omega
 have hu:=full_unique h hc hr (fun c=>(-gamC M.length O id (fun i=>iAt b (π i)) c)*D - N c*minD M.length O id) (fun y hy=>by
  have e:sumF (fun c=>iAt (rAt M y) c*((-gamC M.length O id (fun i=>iAt b (π i)) c)*D - N c*minD M.length O id)) (cols M)=D*sumF (fun c=>iAt (rAt M y) c*(-gamC M.length O id (fun i=>iAt b (π i)) c)) (cols M)+(-minD M.length O id)*sumF (fun c=>iAt (rAt M y) c*N c) (cols M):=by
   rw [<- sumF_mul,<- sumF_mul,<- sumF_add];exact sumF_eq fun c _=>by grind
  rw [e,hrow y hy,hS.row y hy];grind)
 refine ⟨fun c=>-gamC M.length O id (fun i=>iAt b (π i)) c,fun c=>?_,fun c hcc=>?_,hrow⟩
 ·rw [Int.natAbs_neg];exact gamC_abs hOB (fun i hi=>hl _ (hperm i hi))
 ·rw [hS.eq c];refine (toQ_eq hOD hS.ne ?_).symm;have h7:=hu c hcc;show (-gamC M.length O id (fun i=>iAt b (π i)) c)*D=N c*minD M.length O id;omega
end Go.Proofs.YtflolbnnkbdmfaaGreat
namespace Go.Proofs.YtflolbnnkbdmfaaGreat
open Go.RowKit
theorem ends_toQ {D:Int} (hD:D≠0) (s lo hi:Int):∃ a b,endsQ (toQ s D) lo hi=(toQ a D,toQ b D)/\((a=s*lo/\b=s*hi)\/(a=s*hi/\b=s*lo)):=by
 unfold endsQ;rw [mul_int lo hD,mul_int hi hD];split
 ·exact ⟨_,_,rfl,.inr ⟨rfl,rfl⟩⟩
 ·exact ⟨_,_,rfl,.inl ⟨rfl,rfl⟩⟩
theorem zero_toQ {D:Int} (hD:D≠0):((0,1):QI)=toQ 0 D:=by
 rw [<- toQ_one 0];exact toQ_eq aO hD aO
theorem least_toQ {e:Nat->QI×QI} {D:Int} {B n:Nat} (hD:D≠0) (h:∀ k,k<n->∃ a b,e k=(toQ a D,toQ b D)/\a.natAbs<=B/\b.natAbs<=B):∀ k,k<=n->∃ a b,leastQ e k=toQ a D/\mostQ e k=toQ b D/\a.natAbs<=k*B/\b.natAbs<=k*B
 | 0,_=>⟨0,0,zero_toQ hD,zero_toQ hD,aO,aO⟩
 | k+1,hk=>by
  obtain ⟨a,b,h1,h2,h3,h4⟩:=least_toQ hD h k aO;obtain ⟨c,d,h5,h6,h7⟩:=h k aO;refine ⟨a+c,b+d,?_,?_,?_,?_⟩
  ·show addQ (leastQ e k) (e k).1=_;rw [h1,h5];exact add_same hD
  ·show addQ (mostQ e k) (e k).2=_;rw [h2,h5];exact add_same hD
  ·rw [Nat.succ_mul]; omega
  ·rw [Nat.succ_mul]; omega
theorem shift_cut {x x':Nat->QI} (h:∀ c,c<6->x c=x' c) (v:V3) (i:Nat):shiftQ x v i=shiftQ x' v i:=by
 match i with
 | 0=>show shiftC _ _ _ _ _=shiftC _ _ _ _ _; rw [h 0 aO,h 4 aO,h 5 aO]
 | 1=>show shiftC _ _ _ _ _=shiftC _ _ _ _ _; rw [h 1 aO,h 5 aO,h 3 aO]
 | n+2=>show shiftC _ _ _ _ _=shiftC _ _ _ _ _; rw [h 2 aO,h 3 aO,h 4 aO]
theorem shifts_cut {x x':Nat->QI} (h:∀ c,c<6->x c=x' c) {v:V3} (hs:SmShifts x' v):SmShifts x v:=by
 obtain ⟨a,b,c⟩:=hs;rw [<- h 0 aO,<- h 4 aO,<- h 5 aO] at a;rw [<- h 1 aO,<- h 5 aO,<- h 3 aO] at b;rw [<- h 2 aO,<- h 3 aO,<- h 4 aO] at c;exact ⟨a,b,c⟩
theorem p_e30:(1000000000000000000000000000000:Nat)<2^1000:=by decide +kernel
theorem p_e300:(137594142720:Nat)<2^300:=by decide +kernel
theorem sm_e30 {z:Int} (h:z.natAbs<1000000000000000000000000000000):Sm z:=Nat.lt_trans h p_e30
theorem ceil_toQ {a d:Int} (hd:d≠0):(ceilQ (toQ a d)).natAbs<=a.natAbs:=by
 obtain ⟨_,_,h1,_⟩:=of_spec a hd;unfold ceilQ;rw [Int.natAbs_neg];refine Zm (Int.natAbs_ediv_le_natAbs _ _) ?_;rw [Int.natAbs_neg];exact h1
theorem mul_e4 {s x:Int} {n:Nat} (h:s.natAbs<=n) (h1:-10000<=x) (h2:x<=10000):(s*x).natAbs<=n*10000:=by
 rw [Int.natAbs_mul];exact Nat.mul_le_mul h aO
theorem shN_le {N:Nat->Int} (hN:∀ c,(N c).natAbs<=137594142720) {v:V3} (hv:vIn v=true) (i:Nat):(shN N v i).natAbs<=6742112993280:=by
 simp only [vIn,Bool.and_eq_true,inB_iff] at hv;have k:∀ (t a b:Nat) (x y:Int),(-24<=x/\x<=24)->(-24<=y/\y<=24)->(N t+(N a*x - N b*y)).natAbs<=6742112993280:=fun t a b x y hx hy=>by
  have e3:=hN t;have f1:(N a*x).natAbs<=137594142720*24:=by rw [Int.natAbs_mul]; exact Nat.mul_le_mul (hN a) aO
  have f2:(N b*y).natAbs<=137594142720*24:=by rw [Int.natAbs_mul]; exact Nat.mul_le_mul (hN b) aO
  omega
 match i with
 | 0=>exact k _ _ _ _ _ hv.2.2 hv.2.1
 | 1=>exact k _ _ _ _ _ hv.1 hv.2.2
 | n+2=>exact k _ _ _ _ _ hv.2.1 hv.1
theorem corner_sm {xs:Nat->Nat->QI} {L:List Loc} {v:V3} {D:Int} {Ns:Nat->Nat->Int} (hD:D≠0) (hd:D.natAbs<=137594142720) (hN:∀ k c,(Ns k c).natAbs<=137594142720) (he:∀ k,k<6->∀ c,c<6->xs k c=toQ (Ns k c) D) (hv:vIn v=true)
 (hL:∀ k,k<6->(-10000<=(lAt L k).lo/\(lAt L k).lo<=10000) /\ -10000<=(lAt L k).hi/\(lAt L k).hi<=10000):SmCorner xs L v:=by
 have hsm:∀ z:Int,z.natAbs<1000000000000000000000000000000->SmQ (toQ z D):=fun z hz=>toQ_sm hD (sm_e30 hz) (sm_e30 aO)
 have hsh:∀ k,k<6->∀ i,shiftQ (xs k) v i=toQ (shN (Ns k) v i) D:=fun k hk i=>by
  rw [shift_cut (x':=fun c=>toQ (Ns k c) D) (he k hk)];exact shift_toQ hD (fun _=>rfl) v i
 have hs:=fun k i=>shN_le (hN k) hv i
 have hen:∀ k,k<6->∀ i,∃ a b,endsAt xs L v i k=(toQ a D,toQ b D)/\a.natAbs<=67421129932800000/\b.natAbs<=67421129932800000:=fun k hk i=>by
  unfold endsAt;rw [hsh k hk i];obtain ⟨a,b,h1,h2⟩:=ends_toQ hD (shN (Ns k) v i) (lAt L k).lo (lAt L k).hi;have e1:=mul_e4 (hs k i) (hL k hk).1.1 (hL k hk).1.2;have e2:=mul_e4 (hs k i) (hL k hk).2.1 (hL k hk).2.2;rcases h2 with ⟨rfl,rfl⟩ | ⟨rfl,rfl⟩
  ·exact ⟨_,_,h1,aO,aO⟩
  ·exact ⟨_,_,h1,aO,aO⟩
 have hle:=fun i=>least_toQ hD (fun k hk=>hen k hk i)
 refine ⟨fun k hk=>?_,fun k hk i hi=>?_,fun k hk i hi=>?_,fun k hk i hi=>?_,fun i hi=>?_,fun i hi=>?_⟩
 ·exact shifts_cut (x':=fun c=>toQ (Ns k c) D) (he k hk) (shifts_sm hD (Nat.lt_of_le_of_lt hd p_e300) (fun c=>Nat.lt_of_le_of_lt (hN k c) p_e300) (fun _=>rfl) hv)
 ·have e1:=mul_e4 (hs k i) (hL k hk).1.1 (hL k hk).1.2;have e2:=mul_e4 (hs k i) (hL k hk).2.1 (hL k hk).2.2;have e3:=hs k i;rw [hsh k hk i];exact ⟨hsm _ aO,by rw [mul_int _ hD]; exact hsm _ aO,by rw [mul_int _ hD]; exact hsm _ aO⟩
 ·obtain ⟨a,b,h1,h2,h3,h4⟩:=hle i k hk;rw [h1];exact hsm _ (by have:k*67421129932800000<=6*67421129932800000:=Nat.mul_le_mul_right _ hk; omega)
 ·obtain ⟨a,b,h1,h2,h3,h4⟩:=hle i k hk;rw [h2];exact hsm _ (by have:k*67421129932800000<=6*67421129932800000:=Nat.mul_le_mul_right _ hk; omega)
 ·obtain ⟨a,b,h1,h2,h3,h4⟩:=hle i 6 (Zr _);have hc:=ceil_toQ (a:=a) (d:=D * -100) aO;have hq:lowQ xs L v i=ceilQ (toQ a (D * -100)):=by unfold lowQ; rw [h1,div_toQ hD aO]
  rw [h1,div_toQ hD aO,hq];exact ⟨toQ_sm aO (sm_e30 aO) (sm_e30 aO),aO,aO⟩
 ·obtain ⟨a,b,h1,h2,h3,h4⟩:=hle i 6 (Zr _);have hc:=ceil_toQ (a:=b) (d:=D*100) aO;have hq:highQ xs L v i=ceilQ (toQ b (D*100)):=by unfold highQ; rw [h2,div_toQ hD aO]
  rw [h2,div_toQ hD aO,hq];exact ⟨toQ_sm aO (sm_e30 aO) (sm_e30 aO),aO,aO⟩
theorem locR_24 {l:Loc} (h:l.Ok) (j:Nat):(iAt (locR l) j).natAbs<=24:=by
 obtain ⟨hc,_⟩:=h.cross;have h1:=h.nx;have h2:=h.ny;have h3:=h.nz;have h4:=h.px;have h5:=h.py;have h6:=h.pz;have h7:=h.one;unfold locR;rw [hc];obtain ⟨x,hx⟩:=Zx (l.n.x);obtain ⟨y,hy⟩:=Zx (l.n.y);obtain ⟨z,hz⟩:=Zx (l.n.z);rw [hx] at h1 h7;rw [hy] at h2 h7;rw [hz] at h3 h7;have x3:x=-1\/x=0\/x=1:=aO
 have y3:y=-1\/y=0\/y=1:=aO
 have z3:z=-1\/z=0\/z=1:=aO
 simp only [hx,hy,hz];rcases x3 with rfl | rfl | rfl <;> rcases y3 with rfl | rfl | rfl <;> rcases z3 with rfl | rfl | rfl <;> first
  | exact absurd h7 (by decide)
  | (match j with
   | 0=>simp [iAt]
   | 1=>simp [iAt]
   | 2=>simp [iAt]
   | 3=>simp [iAt]; try omega
   | 4=>simp [iAt]; try omega
   | 5=>simp [iAt]; try omega
   | n+6=>simp [iAt])
theorem unitB_at (k:Nat) {i:Nat} (hi:i<6):iAt (unitB k) i=if i=k then 1 else 0:=by
 unfold unitB iAt;rw [Ze,List.getElem?_map,List.getElem?_range hi];rfl
theorem unitB_len (k:Nat):(unitB k).length=6:=by unfold unitB; simp
end Go.Proofs.YtflolbnnkbdmfaaGreat
