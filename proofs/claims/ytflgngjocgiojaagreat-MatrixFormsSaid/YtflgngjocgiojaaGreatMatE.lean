import Derived.Test.YtflgngjocgiojaaGreatMatD
set_option linter.all false
namespace Go.Proofs.YtflgngjocgiojaaGreat
open Go.RowKit
set_option maxHeartbeats 8000000
set_option maxRecDepth 100000
def iAt (l:List Int) (i:Nat):Int:=l.getD i 0
def rAt (M:List (List Int)) (i:Nat):List Int:=M.getD i []
def I64L (l:List Int):Prop:=∀ i,i<l.length -> -9223372036854775808<=iAt l i/\iAt l i<=9223372036854775807
structure IntsAt (w:World) (A:Option Addr) (n:Nat) (l:List Int):Prop where
 len:l.length=n
 ok:I64L l
 row:0<n->∃ b off,A=some ⟨b,off,none⟩/\b<w.heap.size/\∀ i,i<n->w.cell? ⟨b,off+i,none⟩=some (.int .i64 (iAt l i))
theorem IntsAt.below {w w':World} {A:Option Addr} {n:Nat} {l:List Int} (h:IntsAt w A n l) (hb:Below w.heap.size w w'):IntsAt w' A n l:=
 ⟨h.len,h.ok,fun h0=>by
  obtain ⟨b,off,e,hlt,hc⟩:=h.row h0;exact ⟨b,off,e,Zl hlt hb.size,fun i hi=>(Zc (w:=w) (a:=⟨b,off+i,none⟩) (hb.block b hlt)).trans (hc i hi)⟩⟩
structure RowsAt (w:World) (A:Option Addr) (n:Nat) (M:List (List Int)):Prop where
 len:M.length=n
 row:0<n->∃ b off,A=some ⟨b,off,none⟩/\b<w.heap.size/\∀ i,i<n->∃ B m c,w.cell? ⟨b,off+i,none⟩=some (.slice B m c)/\m<=c/\c<=9223372036854775807/\IntsAt w B m (rAt M i)
theorem RowsAt.below {w w':World} {A:Option Addr} {n:Nat} {M:List (List Int)} (h:RowsAt w A n M) (hb:Below w.heap.size w w'):RowsAt w' A n M:=
 ⟨h.len,fun h0=>by
  obtain ⟨b,off,e,hlt,hc⟩:=h.row h0;refine ⟨b,off,e,Zl hlt hb.size,fun i hi=>?_⟩;obtain ⟨B,m,c,h1,h2,h3,h4⟩:=hc i hi;exact ⟨B,m,c,(Zc (w:=w) (a:=⟨b,off+i,none⟩) (hb.block b hlt)).trans h1,h2,h3,h4.below hb⟩⟩
def anyF (p:Nat->Bool):Nat->Bool
 | 0=>false
 | n+1=>anyF p n || p n
theorem anyF_of {p:Nat->Bool} {n k:Nat} (hk:k<n) (h:p k=true):anyF p n=true:=by
 induction n with
 | zero=>omega
 | succ n ih =>
  rw [anyF]
  by_cases e:k=n
  ·subst e; rw [h]; simp
  ·rw [ih aO]; rfl
theorem index_large {w:World} {A:Option Addr} {n:Nat} {E:Nat->Int} {p:Nat->Bool} (c:Nat) (hc:0<n->∃ b off,A=some ⟨b,off,none⟩/\b<w.heap.size/\∀ i,i<n->w.cell? ⟨b,off+i,none⟩=some (.int .i64 (E i))) (hp:∀ i,i<n->p i=largeI (E i)) (hn:n<=1000000) :
 Calls Tryz.prog 113 #[.slice A n c,.func (.func 72) #[] #[]] w fun e w'=>∃ r:Int,e = .returned (.int .i64 r)/\decide (0<=r)=anyF p n/\Below w.heap.size w w':=by
 have HP:=Zh hp;have HC:=Zh hc;clear hp hc;have hni:(n:Int)<=1000000:=aO
 go_enter Tryz.func113,Tryz.ntmps113;go_wp2;go_loopw [8] (fun i wr=>∃ k:Nat,k<=n/\i = .int .i64 k/\anyF p k=false/\Below w.heap.size w wr) (fun i _=>n - (intOf i).toNat)
 case atStart=>exact ⟨0,aO,rfl,rfl,Zb _ _⟩
 case round =>
  obtain ⟨k,hk,rfl,hA,hbel⟩:=hrel;have HA:=Zh hA;have hkb:=hbel.size;clear hA
  by_cases hlt:k<n
  ·have hlt2:(k:Int)<(n:Int):=aO
   obtain ⟨b,off,rfl,hb,hcell⟩:=HC.out aO;have hcell:=(Zc (w:=w) (a:=⟨b,off+k,none⟩) (hbel.block b hb)).trans (hcell k hlt);go_wp2_with fail;have q:=fun W=>matrix_large (w:=W) (E k)
   rw [<- HP.out k hlt] at q;have q:=q wr;obtain ⟨o,ho⟩:=Zx (p k);rw [ho] at q;refine Zd q ?_;clear q;rintro e w2 ⟨rfl,hb2⟩;have B2:=Zh (hbel.trans (hb2.mono hkb));have HO:=Zh ho;clear hb2 hcell ho;cases o
   ·go_wp2;go_roundw
    case rel=>exact ⟨k+1,aO,by go_num,by rw [anyF,HA.out,HO.out]; rfl,B2.out⟩
    case measure=>simp [intOf]; omega
   ·go_wp2;go_ret;exact ⟨_,rfl,by rw [anyF_of hlt HO.out]; exact decide_eq_true aO,B2.out⟩
  ·have hk2:k=n:=aO
   subst hk2;go_wp2;go_ret;exact ⟨_,rfl,by rw [HA.out]; rfl,hbel⟩
theorem contains_large {w:World} {A:Option Addr} {n:Nat} {E:Nat->Int} {p:Nat->Bool} (c:Nat) (hc:0<n->∃ b off,A=some ⟨b,off,none⟩/\b<w.heap.size/\∀ i,i<n->w.cell? ⟨b,off+i,none⟩=some (.int .i64 (E i))) (hp:∀ i,i<n->p i=largeI (E i)) (hn:n<=1000000) :
 Calls Tryz.prog 71 #[.slice A n c,.func (.func 72) #[] #[]] w fun e w'=>e = .returned (.bool (anyF p n))/\Below w.heap.size w w':=by
 have q:=index_large c hc hp hn;obtain ⟨o,ho⟩:=Zx (anyF p n);rw [ho] at q ⊢;have Q:=Zh q;clear q ho hp hc;go_enter Tryz.func71,Tryz.ntmps71;go_wp2_with fail;refine Zd Q.out ?_;rintro e w2 ⟨r,rfl,hr,hb⟩;have HR:=Zh hr;have HB:=Zh hb;clear hr hb
 by_cases h0:0<=r
 ·have hr2:o=true:=by rw [<- HR.out]; exact decide_eq_true h0
  subst hr2;go_wp2;go_ret;exact ⟨rfl,HB.out⟩
 ·have hr2:o=false:=by rw [<- HR.out]; exact decide_eq_false h0
  subst hr2;go_wp2;go_ret;exact ⟨ret_bool (decide_eq_false aO),HB.out⟩
theorem index_one {w:World} {A:Option Addr} {n:Nat} {E:Nat->Option Addr×Nat×Nat} {p:Nat->Bool} {bx:Nat} (c:Nat) (hc:0<n->∃ b off,A=some ⟨b,off,none⟩/\b<w.heap.size/\∀ i,i<n->w.cell? ⟨b,off+i,none⟩=some (.slice (E i).1 (E i).2.1 (E i).2.2)) (hp:∀ i W,i<n->Below w.heap.size w W->Calls Tryz.prog 94 #[.slice (E i).1 (E i).2.1 (E i).2.2,.pointer (some ⟨bx,0,none⟩)] W fun e w'=>e = .returned (.bool (p i))/\Below W.heap.size W w') (hn:n<=1000000) :
 Calls Tryz.prog 125 #[.slice A n c,.func (.func 94) #[] #[.pointer (some ⟨bx,0,none⟩)]] w fun e w'=>∃ r:Int,e = .returned (.int .i64 r)/\decide (0<=r)=anyF p n/\Below w.heap.size w w':=by
 have HP:=Zh hp;have HC:=Zh hc;clear hp hc;have hni:(n:Int)<=1000000:=aO
 go_enter Tryz.func125,Tryz.ntmps125;go_wp2;go_loopw [8] (fun i wr=>∃ k:Nat,k<=n/\i = .int .i64 k/\anyF p k=false/\Below w.heap.size w wr) (fun i _=>n - (intOf i).toNat)
 case atStart=>exact ⟨0,aO,rfl,rfl,Zb _ _⟩
 case round =>
  obtain ⟨k,hk,rfl,hA,hbel⟩:=hrel;have HA:=Zh hA;have hkb:=hbel.size;clear hA
  by_cases hlt:k<n
  ·have hlt2:(k:Int)<(n:Int):=aO
   obtain ⟨b,off,rfl,hb,hcell⟩:=HC.out aO;have hcell:=(Zc (w:=w) (a:=⟨b,off+k,none⟩) (hbel.block b hb)).trans (hcell k hlt);go_wp2_with fail;have q:=HP.out k _ hlt hbel;obtain ⟨o,ho⟩:=Zx (p k);rw [ho] at q;refine Zd q ?_;clear q;rintro e w2 ⟨rfl,hb2⟩;have B2:=Zh (hbel.trans (hb2.mono hkb));have HO:=Zh ho;clear hb2 hcell ho;cases o
   ·go_wp2;go_roundw
    case rel=>exact ⟨k+1,aO,by go_num,by rw [anyF,HA.out,HO.out]; rfl,B2.out⟩
    case measure=>simp [intOf]; omega
   ·go_wp2;go_ret;exact ⟨_,rfl,by rw [anyF_of hlt HO.out]; exact decide_eq_true aO,B2.out⟩
  ·have hk2:k=n:=aO
   subst hk2;go_wp2;go_ret;exact ⟨_,rfl,by rw [HA.out]; rfl,hbel⟩
theorem contains_one {w:World} {A:Option Addr} {n:Nat} {E:Nat->Option Addr×Nat×Nat} {p:Nat->Bool} {bx:Nat} (c:Nat) (hc:0<n->∃ b off,A=some ⟨b,off,none⟩/\b<w.heap.size/\∀ i,i<n->w.cell? ⟨b,off+i,none⟩=some (.slice (E i).1 (E i).2.1 (E i).2.2)) (hp:∀ i W,i<n->Below w.heap.size w W->Calls Tryz.prog 94 #[.slice (E i).1 (E i).2.1 (E i).2.2,.pointer (some ⟨bx,0,none⟩)] W fun e w'=>e = .returned (.bool (p i))/\Below W.heap.size W w') (hn:n<=1000000) :
 Calls Tryz.prog 93 #[.slice A n c,.func (.func 94) #[] #[.pointer (some ⟨bx,0,none⟩)]] w fun e w'=>e = .returned (.bool (anyF p n))/\Below w.heap.size w w':=by
 have q:=index_one c hc hp hn;obtain ⟨o,ho⟩:=Zx (anyF p n);rw [ho] at q ⊢;have Q:=Zh q;clear q ho hp hc;go_enter Tryz.func93,Tryz.ntmps93;go_wp2_with fail;refine Zd Q.out ?_;rintro e w2 ⟨r,rfl,hr,hb⟩;have HR:=Zh hr;have HB:=Zh hb;clear hr hb
 by_cases h0:0<=r
 ·have hr2:o=true:=by rw [<- HR.out]; exact decide_eq_true h0
  subst hr2;go_wp2;go_ret;exact ⟨rfl,HB.out⟩
 ·have hr2:o=false:=by rw [<- HR.out]; exact decide_eq_false h0
  subst hr2;go_wp2;go_ret;exact ⟨ret_bool (decide_eq_false aO),HB.out⟩
theorem index_two {w:World} {A:Option Addr} {n:Nat} {E:Nat->Option Addr×Nat×Nat} {p:Nat->Bool} (c:Nat) (hc:0<n->∃ b off,A=some ⟨b,off,none⟩/\b<w.heap.size/\∀ i,i<n->w.cell? ⟨b,off+i,none⟩=some (.slice (E i).1 (E i).2.1 (E i).2.2)) (hp:∀ i W,i<n->Below w.heap.size w W->Calls Tryz.prog 95 #[.slice (E i).1 (E i).2.1 (E i).2.2] W fun e w'=>e = .returned (.bool (p i))/\Below W.heap.size W w') (hn:n<=1000000) :
 Calls Tryz.prog 125 #[.slice A n c,.func (.func 95) #[] #[]] w fun e w'=>∃ r:Int,e = .returned (.int .i64 r)/\decide (0<=r)=anyF p n/\Below w.heap.size w w':=by
 have HP:=Zh hp;have HC:=Zh hc;clear hp hc;have hni:(n:Int)<=1000000:=aO
 go_enter Tryz.func125,Tryz.ntmps125;go_wp2;go_loopw [8] (fun i wr=>∃ k:Nat,k<=n/\i = .int .i64 k/\anyF p k=false/\Below w.heap.size w wr) (fun i _=>n - (intOf i).toNat)
 case atStart=>exact ⟨0,aO,rfl,rfl,Zb _ _⟩
 case round =>
  obtain ⟨k,hk,rfl,hA,hbel⟩:=hrel;have HA:=Zh hA;have hkb:=hbel.size;clear hA
  by_cases hlt:k<n
  ·have hlt2:(k:Int)<(n:Int):=aO
   obtain ⟨b,off,rfl,hb,hcell⟩:=HC.out aO;have hcell:=(Zc (w:=w) (a:=⟨b,off+k,none⟩) (hbel.block b hb)).trans (hcell k hlt);go_wp2_with fail;have q:=HP.out k _ hlt hbel;obtain ⟨o,ho⟩:=Zx (p k);rw [ho] at q;refine Zd q ?_;clear q;rintro e w2 ⟨rfl,hb2⟩;have B2:=Zh (hbel.trans (hb2.mono hkb));have HO:=Zh ho;clear hb2 hcell ho;cases o
   ·go_wp2;go_roundw
    case rel=>exact ⟨k+1,aO,by go_num,by rw [anyF,HA.out,HO.out]; rfl,B2.out⟩
    case measure=>simp [intOf]; omega
   ·go_wp2;go_ret;exact ⟨_,rfl,by rw [anyF_of hlt HO.out]; exact decide_eq_true aO,B2.out⟩
  ·have hk2:k=n:=aO
   subst hk2;go_wp2;go_ret;exact ⟨_,rfl,by rw [HA.out]; rfl,hbel⟩
theorem contains_two {w:World} {A:Option Addr} {n:Nat} {E:Nat->Option Addr×Nat×Nat} {p:Nat->Bool} (c:Nat) (hc:0<n->∃ b off,A=some ⟨b,off,none⟩/\b<w.heap.size/\∀ i,i<n->w.cell? ⟨b,off+i,none⟩=some (.slice (E i).1 (E i).2.1 (E i).2.2)) (hp:∀ i W,i<n->Below w.heap.size w W->Calls Tryz.prog 95 #[.slice (E i).1 (E i).2.1 (E i).2.2] W fun e w'=>e = .returned (.bool (p i))/\Below W.heap.size W w') (hn:n<=1000000) :
 Calls Tryz.prog 93 #[.slice A n c,.func (.func 95) #[] #[]] w fun e w'=>e = .returned (.bool (anyF p n))/\Below w.heap.size w w':=by
 have q:=index_two c hc hp hn;obtain ⟨o,ho⟩:=Zx (anyF p n);rw [ho] at q ⊢;have Q:=Zh q;clear q ho hp hc;go_enter Tryz.func93,Tryz.ntmps93;go_wp2_with fail;refine Zd Q.out ?_;rintro e w2 ⟨r,rfl,hr,hb⟩;have HR:=Zh hr;have HB:=Zh hb;clear hr hb
 by_cases h0:0<=r
 ·have hr2:o=true:=by rw [<- HR.out]; exact decide_eq_true h0
  subst hr2;go_wp2;go_ret;exact ⟨rfl,HB.out⟩
 ·have hr2:o=false:=by rw [<- HR.out]; exact decide_eq_false h0
  subst hr2;go_wp2;go_ret;exact ⟨ret_bool (decide_eq_false aO),HB.out⟩
def cols (M:List (List Int)):Nat:=(rAt M 0).length
def rowOf (w:World) (v:Option Addr×Nat×Nat) (l:List Int):Prop:=v.2.1<=v.2.2/\v.2.2<=9223372036854775807/\IntsAt w v.1 v.2.1 l
theorem RowsAt.pick {w:World} {A:Option Addr} {n:Nat} {M:List (List Int)} (h:RowsAt w A n M):∃ E:Nat->Option Addr×Nat×Nat,(0<n->∃ b off,A=some ⟨b,off,none⟩/\b<w.heap.size/\∀ i,i<n->w.cell? ⟨b,off+i,none⟩=some (.slice (E i).1 (E i).2.1 (E i).2.2))/\∀ i,i<n->rowOf w (E i) (rAt M i):=by
 rcases Nat.eq_zero_or_pos n with h0 | h0
 ·exact ⟨fun _=>(none,0,0),fun h=>aO,fun i hi=>aO⟩
 ·obtain ⟨b,off,rfl,hb,hc⟩:=h.row h0;have key:∀ i,∃ e:Option Addr×Nat×Nat,i<n->w.cell? ⟨b,off+i,none⟩=some (.slice e.1 e.2.1 e.2.2)/\rowOf w e (rAt M i):=fun i=>by
   by_cases hi:i<n
   ·obtain ⟨B,m,c,h1,h2,h3,h4⟩:=hc i hi;exact ⟨(B,m,c),fun _=>⟨h1,h2,h3,h4⟩⟩
   ·exact ⟨(none,0,0),fun h=>absurd h hi⟩
  exact ⟨fun i=>Classical.choose (key i),fun _=>⟨b,off,rfl,hb,fun i hi=>(Classical.choose_spec (key i) hi).1⟩,fun i hi=>(Classical.choose_spec (key i) hi).2⟩
theorem matrix_columns {w:World} {A:Option Addr} {n:Nat} {M:List (List Int)} (c:Nat) (h:RowsAt w A n M) :
 Calls Tryz.prog 47 #[.slice A n c] w fun e w'=>e = .returned (.int .i64 (cols M:Nat))/\Below w.heap.size w w':=by
 obtain ⟨E,hc,hr⟩:=h.pick;have hl:=h.len;have hW:=Zb w.heap.size w
 by_cases h0:n=0
 ·subst h0;obtain rfl:M=[]:=List.eq_nil_of_length_eq_zero hl;clear hc hr h;go_enter Tryz.func47,Tryz.ntmps47;go_wp2;go_ret;exact ⟨rfl,hW⟩
 ·obtain ⟨b,off,rfl,hb,hcell⟩:=hc aO;have q:=hcell 0 aO;rw [Nat.add_zero] at q;have q2:=(hr 0 aO).2.2.len;obtain ⟨e1,he⟩:=Zx (E 0);rw [he] at q q2;obtain ⟨m,hm⟩:=Zx (cols M);have hm2:e1.2.1=m:=by rw [<- q2]; exact hm
  rw [hm];rw [hm2] at q;clear hcell hr h hc hl q2 he hm hm2;have hn0:((n:Int)==0)=false:=beq_eq_false_iff_ne.2 aO;have hn1:(0:Int)<(n:Int):=aO
  go_enter Tryz.func47,Tryz.ntmps47;go_wp2;go_ret;exact ⟨rfl,hW⟩
theorem matrix_check1 {w:World} {B:Option Addr} {m bx k:Nat} (c:Nat) (hb:w.cell? ⟨bx,0,none⟩=some (.int .i64 (k:Nat))) :
 Calls Tryz.prog 94 #[.slice B m c,.pointer (some ⟨bx,0,none⟩)] w fun e w'=>e = .returned (.bool (decide (m≠k)))/\Below w.heap.size w w':=by
 obtain ⟨o,ho⟩:=Zx (decide (m≠k));rw [ho];have hW:=Zb w.heap.size w;have e:((m:Int) != (k:Int))=o:=by
  rw [<- ho]
  by_cases h:m=k
  ·subst h; simp
  ·rw [decide_eq_true h]; exact bne_iff_ne.2 aO
 clear ho;go_enter Tryz.func94,Tryz.ntmps94;go_wp2;go_ret;exact ⟨by first | rfl | exact ret_bool e,hW⟩
theorem matrix_check2 {w:World} {A:Option Addr} {n:Nat} {l:List Int} (c:Nat) (h:IntsAt w A n l) (hn:n<=1000000) :
 Calls Tryz.prog 95 #[.slice A n c] w fun e w'=>e = .returned (.bool (anyF (fun k=>largeI (iAt l k)) n))/\Below w.heap.size w w':=by
 have q:=contains_large (p:=fun k=>largeI (iAt l k)) c h.row (fun _ _=>rfl) hn;obtain ⟨o,ho⟩:=Zx (anyF (fun k=>largeI (iAt l k)) n);rw [ho] at q ⊢;have Q:=Zh q;clear q ho h;go_enter Tryz.func95,Tryz.ntmps95;go_wp2_with fail;refine Zd Q.out ?_;rintro e w2 ⟨rfl,hb⟩;have HB:=Zh hb;clear hb;go_wp2;go_ret;exact ⟨rfl,HB.out⟩
def matCheck (M:List (List Int)):Int:=
 if 48<M.length\/8<cols M then 2
 else if anyF (fun i=>decide ((rAt M i).length≠cols M)) M.length=true then 4
 else if anyF (fun i=>anyF (fun k=>largeI (iAt (rAt M i) k)) (rAt M i).length) M.length=true then 3
 else 0
theorem anyF_none {p:Nat->Bool} {n:Nat} (h:anyF p n=false) {k:Nat} (hk:k<n):p k=false:=by
 cases e:p k
 ·rfl
 ·rw [anyF_of hk e] at h; cases h
theorem anyF_eq {p q:Nat->Bool} {n:Nat} (h:∀ k,k<n->p k=q k):anyF p n=anyF q n:=by
 induction n with
 | zero=>rfl
 | succ n ih=>rw [anyF,anyF,ih (fun k hk=>h k aO),h n aO]
theorem matrix_check {w:World} {A:Option Addr} {n:Nat} {M:List (List Int)} (c:Nat) (h:RowsAt w A n M) :
 Calls Tryz.prog 46 #[.slice A n c] w fun e w'=>e = .returned (.int .i64 (matCheck M))/\Below w.heap.size w w':=by
 obtain ⟨E,hc,hr⟩:=h.pick;have HE:=Zh (Zi hc hr);have hl:=h.len;obtain ⟨m,hm⟩:=Zx (cols M);have q:=matrix_columns c h;rw [hm] at q;have Q:=Zh q;obtain ⟨r,hR⟩:=Zx (matCheck M);rw [hR];have HR:=Zh hR;have HM:=Zh (Zi hm hl);clear hc hr h q hR hm hl;go_enter Tryz.func46,Tryz.ntmps46;go_wp2_with fail;refine Zd Q.out ?_;rintro e w1 ⟨rfl,hb1⟩;have o3:Own (w1.alloc (.cells #[.int .i64 (m:Nat)] 3)) w1.heap.size #[.int .i64 (m:Nat)]:=aOwn;have hW2:=hb1.alloc hb1.size (.cells #[.int .i64 (m:Nat)] 3);clear hb1
 by_cases h1:48<n
 ·have h2:(48:Int)<(n:Int):=aO
  obtain rfl:r=2:=by
   rw [<- HR.out]; unfold matCheck; rw [if_pos (.inl (by rw [HM.out.2]; exact h1))]
  go_wp2;go_ret;exact ⟨rfl,hW2⟩
 ·have h2:¬ (48:Int)<(n:Int):=aO
  by_cases h3:8<m
  ·have h4:(8:Int)<(m:Int):=aO
   obtain rfl:r=2:=by
    rw [<- HR.out]; unfold matCheck; rw [if_pos (.inr (by rw [HM.out.1]; exact h3))]
   go_wp2;go_ret;exact ⟨rfl,hW2⟩
  ·go_wp2_with fail;have hc3:=o3.cell 0;obtain ⟨W2,hW2e⟩:=Zx ((w1.alloc (.cells #[.int .i64 (m:Nat)] 3)));rw [hW2e] at hW2 hc3 o3 ⊢;have hbl:w1.heap.size<W2.heap.size:=o3.lt;have q:=contains_one (w:=W2) (A:=A) (n:=n) (E:=E) (p:=fun i=>decide ((E i).2.1≠m)) (bx:=w1.heap.size) c (fun h0=>by
    obtain ⟨b,off,e,hb,hcell⟩:=HE.out.1 h0;exact ⟨b,off,e,Zl hb hW2.size,fun i hi=>(Zc (w:=w) (a:=⟨b,off+i,none⟩) (hW2.block b hb)).trans (hcell i hi)⟩)
    (fun i W hi hB=>matrix_check1 _ ((Zc (w:=W2) (a:=⟨w1.heap.size,0,none⟩) (hB.block _ hbl)).trans hc3)) aO
   have eA:anyF (fun i=>decide ((E i).2.1≠m)) n=anyF (fun i=>decide ((rAt M i).length≠cols M)) M.length:=by
    rw [HM.out.1,HM.out.2];exact anyF_eq fun i hi=>by rw [(HE.out.2 i hi).2.2.len]
   obtain ⟨o,ho⟩:=Zx (anyF (fun i=>decide ((E i).2.1≠m)) n);rw [ho] at q eA;have HA:=Zh (Zi eA ho);refine Zd q ?_;clear q eA ho hW2e;rintro e w3 ⟨rfl,hb3⟩;have B3:=Zh (hW2.trans (hb3.mono hW2.size));clear hb3 o3 hc3;cases o
   ·go_wp2_with fail;have hB:=B3.out;have q:=contains_two (w:=w3) (A:=A) (n:=n) (E:=E) (p:=fun i=>anyF (fun k=>largeI (iAt (rAt M i) k)) (rAt M i).length) c (fun h0=>by
     obtain ⟨b,off,e,hb,hcell⟩:=HE.out.1 h0;exact ⟨b,off,e,Zl hb hB.size,fun i hi=>(Zc (w:=w) (a:=⟨b,off+i,none⟩) (hB.block b hb)).trans (hcell i hi)⟩)
     (fun i W hi hB2=>by
      have h9:=(HE.out.2 i hi).2.2;have h8:=anyF_none HA.out.2 hi;have h7:(E i).2.1=m:=by
       apply Classical.byContradiction;intro hne;rw [decide_eq_true hne] at h8; cases h8
      rw [h9.len];exact matrix_check2 _ (h9.below (hB.trans (hB2.mono hB.size))) aO) aO
    obtain ⟨o,ho⟩:=Zx (anyF (fun i=>anyF (fun k=>largeI (iAt (rAt M i) k)) (rAt M i).length) n);rw [ho] at q;have HO:=Zh ho;refine Zd q ?_;clear q ho hB;rintro e w4 ⟨rfl,hb4⟩;have B4:=Zh (B3.out.trans (hb4.mono B3.out.size));clear hb4;have HR2:=HR.out;unfold matCheck at HR2;rw [if_neg (by rw [HM.out.2,HM.out.1]; omega),<- HA.out.1,if_neg aS,HM.out.2,HO.out] at HR2;cases o
    ·obtain rfl:0=r:=by rw [<- HR2]; rfl
     clear HR2;go_wp2;go_ret;exact ⟨rfl,B4.out⟩
    ·obtain rfl:3=r:=by rw [<- HR2]; rfl
     clear HR2;go_wp2;go_ret;exact ⟨rfl,B4.out⟩
   ·obtain rfl:4=r:=by
     rw [<- HR.out]; unfold matCheck;rw [if_neg (by rw [HM.out.2,HM.out.1]; omega),<- HA.out.1,if_pos rfl]
    go_wp2;go_ret;exact ⟨rfl,B3.out⟩
end Go.Proofs.YtflgngjocgiojaaGreat
