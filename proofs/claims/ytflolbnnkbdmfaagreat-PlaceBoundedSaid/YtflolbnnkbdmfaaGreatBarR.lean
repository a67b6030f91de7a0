import Derived.Test.YtflolbnnkbdmfaaGreatMatG
set_option linter.all false
namespace Go.Proofs.YtflolbnnkbdmfaaGreat
set_option maxRecDepth 100000
set_option maxHeartbeats 8000000
open Go.RowKit
attribute [local go_sem] Oper.semAt_some
theorem matrix_leads (S:Nat) (w:World) :
 Calls Tryz.prog 157 #[.pointer (some ⟨S,0,none⟩)] w fun r w'=>r = .returned (.func (.func 218) #[] #[.pointer (some ⟨w.heap.size,0,none⟩)])/\Own w' w.heap.size #[.pointer (some ⟨S,0,none⟩)]/\Below w.heap.size w w':=by
 go_enter Tryz.func157,Tryz.ntmps157;have hW:=(Zb w.heap.size w).alloc (Zr _) (.cells #[.pointer (some ⟨S,0,none⟩)] 216);have o:=Own.new (w:=w) (b:=w.heap.size) (cs:=#[.pointer (some ⟨S,0,none⟩)]) (T:=216) rfl;go_wp2;go_ret;exact ⟨rfl,o,hW⟩
theorem KI.grown {B:Nat} {W W':World} {row:Option Nat} (hg:W.grownBy W' row) (hr:∀ r,row=some r->B<=r/\∃ o:Obj,W.heap[r]?=some o/\o.isCells=false):KI W W':=
 ⟨hg.size,fun b cs T r h _=>(hg.block b (Zt.1 h).1 (fun e=>by
  obtain ⟨_,o,ho,hc⟩:=hr b e.symm;rw [h] at ho; cases ho; simp [Obj.isCells] at hc)).trans h⟩
theorem SysAt.ki {B0:Nat} {w w':World} {S k:Nat} {L:List (List Int)} (h:SysAt B0 w S L k) (hk:KI w w'):SysAt B0 w' S L k:=by
 obtain ⟨h0,h1,A,c,h2,h3,h4,h5⟩:=h;refine ⟨h0,Zl h1 hk.size,A,c,h2.ki hk (fun i e=>by simp at e),h3,h4,fun h0=>?_⟩;obtain ⟨g,e,hg,hB,hm⟩:=h5 h0;exact ⟨g,e,hg,hB,hm.ki hk h0⟩
theorem SysAt.below {B0:Nat} {w w':World} {S k:Nat} {L:List (List Int)} (h:SysAt B0 w S L k) (hk:Below w.heap.size w w'):SysAt B0 w' S L k:=h.ki (KI.below hk)
theorem sysAt_own {B0 S k B:Nat} {L:List (List Int)}:OwnFrom B (fun (_:Unit) W=>SysAt B0 W S L k):=fun _ X Y row hs hg hr=>hs.ki (KI.grown hg hr)
def FineL (L:List (List Int)) (k wd:Nat):Prop:=∀ c,c<=k->SmL (runB ⟨L,1,0⟩ c).L wd
theorem leads1_nil (n l Bx S:Nat) (hn:1<=n) (A:Option Addr) (cap N:Nat) (J:List (Nat×Nat)->World->Prop) (W:World) (g:Nat)
 (hJ:∀ s X Y,J s X->ItW g W.heap.size X Y->J s Y) (hbox:Own W Bx #[.pointer (some ⟨S,0,none⟩)]) (hsys:Own W S #[.slice A N cap,.int .i64 (0:Nat)]) (hJ0:J [] W) :
 CallsIn Fence.wide n Tryz.prog 218 #[.func (.yield l) #[] #[],.pointer (some ⟨Bx,0,none⟩)] W fun e W'=>(∃ v,e = .returned v)/\J [] W'/\KI W W':=by
 refine callsIn_of_wp Tryz.func218 rfl trivial ?_ rfl;simp only [Tryz.ntmps218,List.size_toArray,List.length_cons,List.length_nil,Nat.reduceAdd,Nat.reduceSub,Array.replicate_succ,Array.replicate_zero,List.push_toArray,List.append_toArray,List.nil_append,List.cons_append];have HJ:=Zh hJ;have HB:=Zh hbox;have HO:=Zh hsys;have H0:=Zh hJ0;clear hJ hbox hsys hJ0;refine wpIn_scope ?_;gi_wp2_with fail;refine ⟨trivial,(callsIn_wide.2 (of_val (w:=W) 1 aO aO)).mono ?_⟩;rintro e w1 ⟨⟨b1,rfl,g1,g2,g3⟩,hb1⟩;obtain ⟨A8,n8,c8,hs8⟩:=slN_form 1 b1;simp only [numV];rw [hs8];have hW2:Below W.heap.size W (w1.alloc (.cells #[.bool (sgnN 1),.slice A8 n8 c8] 40)):=hb1.alloc hb1.size _;have HJ1:=Zh (HJ.out _ _ _ H0.out (ItW.below hW2));have oB:=HB.out.below hW2;have oS:=HO.out.below hW2;have HK:=Zh (KI.below hW2);clear g1 g2 g3 hs8 hb1 hW2;gi_wp2;refine wpIn_label ?_;generalize (w1.alloc (.cells #[.bool (sgnN 1),.slice A8 n8 c8] 40))=W2 at *;have oBc:=oB.cell;have oSc:=oS.cell;gi_wp2;gi_loopw [4,14] (fun a i wr=>i = .int .i64 (0:Nat)/\J [] wr/\KI W wr) (fun _ _ _=>0)
 case atStart=>exact ⟨rfl,HJ1.out,HK.out⟩
 case round =>
  clear HJ1 HK;obtain ⟨rfl,hJ1,hK⟩:=hrel;have HJ1:=Zh hJ1;have HK:=Zh hK;clear hJ1 hK;gi_wp2;simp only [Exit.noGoto_normal];go_end0;exact ⟨⟨_,rfl⟩,HJ1.out,HK.out⟩
theorem leads_seq (n:Nat) (hn:1<=n) {w:World} {B0 Bx S k wd:Nat} {L:List (List Int)} (hbox:Own w Bx #[.pointer (some ⟨S,0,none⟩)]) (hsys:SysAt B0 w S L k) (hN:L.length<=900) (hw:Wide L wd) (hk:k<=wd) (hwd:wd<=900) (h0:L=[]->k=0) (hf:FineL L k wd) :
 ∃ g,B0<=g/\g<w.heap.size/\(∀ b i,Own w b #[.int .i64 i]->b≠g) /\
  SeqItW n Tryz.prog 218 #[.pointer (some ⟨Bx,0,none⟩)] (fun x:Nat×Nat=>#[.int .i64 (x.1:Nat),.int .i64 (x.2:Nat)]) KI g (fun xs=>xs=leadsB ⟨L,1,0⟩ k) 1000 (fun W=>SysAt B0 W S (runB ⟨L,1,0⟩ k).L k) w:=by
 obtain ⟨hS0,hSl,A,cap,ho,hc1,hc2,hrow⟩:=hsys;have hdis:∀ b cs i,Own w b cs->Own w b #[.int .i64 i]->cs=#[.int .i64 i]:=fun b cs i h1 h2=>by
  obtain ⟨T1,h1⟩:=h1;obtain ⟨T2,h2⟩:=h2;rw [h1] at h2;cases h2; rfl
 rcases Nat.eq_zero_or_pos L.length with hL | hL
 ·obtain rfl:L=[]:=List.eq_nil_of_length_eq_zero hL;obtain rfl:=h0 rfl;refine ⟨S,hS0,hSl,fun b i h e=>?_,fun l J W hW hJ hY hJ0=>?_⟩
  ·subst e;have:=hdis _ _ _ ho h;simp at this
  ·refine (leads1_nil n l Bx S hn A cap 0 J W S hJ (hbox.below hW) (ho.below hW) hJ0).mono ?_;rintro e W' ⟨h1,h2,h3⟩;refine ⟨h1,[],rfl,h2,?_⟩;have:SysAt B0 W S [] 0:=⟨hS0,Zl hSl hW.size,A,cap,ho.below hW,hc1,hc2,fun h=>by simp at h⟩;exact this.ki h3
 ·obtain ⟨g,rfl,hgS,hgB,hm⟩:=hrow hL;have hBg:Bx≠g:=fun e=>by
   subst e;obtain ⟨cs,hcs,hrows⟩:=hm;obtain ⟨B,c,h1,_⟩:=hrows 0 hL;obtain ⟨T1,h5⟩:=hbox;obtain ⟨T2,h6⟩:=hcs;rw [h5] at h6;cases h6;simp at h1
  refine ⟨g,hgB,by obtain ⟨cs,hcs,_⟩:=hm; exact hcs.lt,fun b i h e=>?_,fun l J W hW hJ hY hJ0=>?_⟩
  ·subst e;obtain ⟨cs,hcs,hrows⟩:=hm;obtain ⟨B,c,h1,_⟩:=hrows 0 hL;have:=hdis _ _ _ hcs h;rw [this] at h1;simp at h1
  ·have hmX:=hm.below hW;refine (leads1_in n l Bx S g cap k wd hn L ⟨L,1,0⟩ rfl J W hJ hY (hbox.below hW) (ho.below hW) hmX hBg (fun e=>hgS e.symm) hL hN hw hk hwd hc1 hc2 hf hJ0).mono ?_;rintro e W' ⟨h1,h2,h3,h4⟩;have hl:(runB ⟨L,1,0⟩ k).L.length=L.length:=runB_len _ k;exact ⟨h1,_,rfl,h2,hS0,h3.lt,_,cap,by rw [hl]; exact h3,by rw [hl]; exact hc1,hc2,fun _=>⟨g,rfl,hgS,hgB,h4⟩⟩
theorem matCheck_ok {M:List (List Int)} (h:matCheck M=0):M.length<=48/\cols M<=8/\(∀ i,i<M.length->(rAt M i).length=cols M)/\∀ i,i<M.length->∀ k,k<cols M->largeI (iAt (rAt M i) k)=false:=by
 unfold matCheck at h;split at h
 ·cases h
 ·rename_i h1
  split at h
  ·cases h
  ·rename_i h2
   split at h
   ·cases h
   ·rename_i h3
    have h2':anyF (fun i=>decide ((rAt M i).length≠cols M)) M.length=false:=by simpa using h2
    have h3':anyF (fun i=>anyF (fun k=>largeI (iAt (rAt M i) k)) (rAt M i).length) M.length=false:=by simpa using h3
    have hw:∀ i,i<M.length->(rAt M i).length=cols M:=fun i hi=>by
     have:=anyF_none h2' hi;simpa using this
    refine ⟨aO,aO,hw,fun i hi k hk=>?_⟩;have h4:=anyF_none h3' hi;exact anyF_none h4 (by rw [hw i hi]; exact hk)
theorem rAt_sysL (M:List (List Int)) (lb:List Int):∀ {n i:Nat},i<n->rAt (sysL M lb n) i=sysR M lb i
 | n+1,i,h=>by
  rcases rAt_snoc (L:=sysL M lb n) (Z:=sysR M lb n) (i:=i) (by simp [sysL_len]; exact h) with ⟨h1,h2⟩ | ⟨h1,h2⟩
  ·rw [sysL,h2];exact rAt_sysL M lb (by rw [sysL_len] at h1; exact h1)
  ·rw [sysL,h2];rw [sysL_len] at h1;rw [h1]
end Go.Proofs.YtflolbnnkbdmfaaGreat
namespace Go.Proofs.YtflolbnnkbdmfaaGreat
def sumF (f:Nat->Int):Nat->Int
 | 0=>0
 | n+1=>sumF f n+f n
theorem sumF_eq {f g:Nat->Int}:∀ {n:Nat},(∀ i,i<n->f i=g i)->sumF f n=sumF g n
 | 0,_=>rfl
 | n+1,h=>by rw [sumF,sumF,sumF_eq (fun i hi=>h i aO),h n aO]
theorem sumF_zero {f:Nat->Int}:∀ {n:Nat},(∀ i,i<n->f i=0)->sumF f n=0
 | 0,_=>rfl
 | n+1,h=>by rw [sumF,sumF_zero (fun i hi=>h i aO),h n aO]; rfl
theorem sumF_add (f g:Nat->Int):∀ n,sumF (fun i=>f i+g i) n=sumF f n+sumF g n
 | 0=>rfl
 | n+1=>by rw [sumF,sumF,sumF,sumF_add f g n]; omega
theorem sumF_mul (c:Int) (f:Nat->Int):∀ n,sumF (fun i=>c*f i) n=c*sumF f n
 | 0=>by simp [sumF]
 | n+1=>by rw [sumF,sumF,sumF_mul c f n,Int.mul_add]
theorem sumF_neg (f:Nat->Int):∀ n,sumF (fun i=>-f i) n=-sumF f n
 | 0=>rfl
 | n+1=>by rw [sumF,sumF,sumF_neg f n]; omega
theorem sumF_swap (f:Nat->Nat->Int) (m:Nat):∀ n,sumF (fun i=>sumF (f i) m) n=sumF (fun k=>sumF (fun i=>f i k) n) m
 | 0=>by rw [sumF]; exact (sumF_zero (fun _ _=>rfl)).symm
 | n+1=>by
  rw [sumF,sumF_swap f m n,<- sumF_add];rfl
def skip (i a:Nat):Nat:=if a<i then a else a+1
theorem sumF_skip (f:Nat->Int):∀ {n i:Nat},i<=n->sumF (fun k=>f (skip i k)) n+f i=sumF f (n+1)
 | 0,i,h=>by
  obtain rfl:i=0:=aO
  simp [sumF]
 | n+1,i,h=>by
  rw [sumF,sumF]
  by_cases e:i=n+1
  ·subst e;rw [show skip (n+1) n=n by unfold skip; rw [if_pos aO]];have:sumF (fun k=>f (skip (n+1) k)) n=sumF f n:=sumF_eq fun k hk=>by unfold skip; rw [if_pos aO]
   rw [this]; rfl
  ·rw [show skip i n=n+1 by unfold skip; rw [if_neg aO]];have:=sumF_skip f (n:=n) (i:=i) aO;omega
def sg1 (k:Nat):Int:=if k%2=0 then 1 else -1
theorem sg1_succ (k:Nat):sg1 (k+1)=-sg1 k:=by
 unfold sg1
 by_cases h:k%2=0
 ·rw [if_pos h,if_neg aO]
 ·rw [if_neg h,if_pos aO]; rfl
theorem sg1_mul (a b:Nat):sg1 a*sg1 b=sg1 (a+b):=by
 unfold sg1
 by_cases h1:a%2=0
 ·by_cases h2:b%2=0
  ·rw [if_pos h1,if_pos h2,if_pos aO]; rfl
  ·rw [if_pos h1,if_neg h2,if_neg aO]; rfl
 ·by_cases h2:b%2=0
  ·rw [if_neg h1,if_pos h2,if_neg aO]; rfl
  ·rw [if_neg h1,if_neg h2,if_pos aO]; rfl
theorem sg1_two (k:Nat):sg1 (k+k)=1:=by unfold sg1; rw [if_pos aO]
theorem sg1_abs (k:Nat):(sg1 k).natAbs=1:=by unfold sg1; split <;> rfl
def det:Nat->(Nat->Nat->Int)->Int
 | 0,_=>1
 | n+1,M=>sumF (fun i=>sg1 (i+n)*M i n*det n (fun a b=>M (skip i a) b)) (n+1)
theorem det_eq:∀ {n:Nat} {M N:Nat->Nat->Int},(∀ a b,a<n->b<n->M a b=N a b)->det n M=det n N
 | 0,_,_,_=>rfl
 | n+1,M,N,h=>by
  rw [det,det];refine sumF_eq fun i hi=>?_
  rw [h i n hi aO,det_eq (N:=fun a b=>N (skip i a) b) fun a b ha hb=>h _ _ (by unfold skip; split <;> omega) aO]
def swp (j:Nat) (M:Nat->Nat->Int):Nat->Nat->Int:=fun a b=>M a (if b=j then j+1 else if b=j+1 then j else b)
def eps (i l:Nat):Int:=if l<i then sg1 (i+l+1) else if i<l then sg1 (i+l) else 0
theorem eps_neg (i l:Nat):eps l i=-eps i l:=by
 unfold eps;rcases Nat.lt_trichotomy i l with h | h | h
 ·rw [if_pos h,if_neg aO,if_pos h,Nat.add_comm l i,sg1_succ]
 ·subst h; rw [if_neg aO,if_neg aO]; rfl
 ·rw [if_neg aO,if_pos h,if_pos h,Nat.add_comm l i,sg1_succ]; omega
def two (i l a:Nat):Nat:=if i<l then skip l (skip i a) else skip i (skip l a)
theorem two_comm (i l a:Nat) (h:i≠l):two i l a=two l i a:=by
 unfold two
 by_cases h1:i<l
 ·rw [if_pos h1,if_neg aO]
 ·rw [if_neg h1,if_pos aO]
theorem two_skip (i k a:Nat):skip i (skip k a)=two i (skip i k) a:=by
 unfold two skip
 repeat' split
 all_goals omega
theorem det_two (n:Nat) (M:Nat->Nat->Int) :
 det (n+2) M=sumF (fun i=>sumF (fun l=>eps i l*M i (n+1)*M l n*det n (fun a b=>M (two i l a) b)) (n+2)) (n+2):=by
 rw [det];refine sumF_eq fun i hi=>?_
 have h0:eps i i*M i (n+1)*M i n*det n (fun a b=>M (two i i a) b)=0:=by
  rw [show eps i i=0 by unfold eps; rw [if_neg aO,if_neg aO]];simp
 have h1:=sumF_skip (fun l=>eps i l*M i (n+1)*M l n*det n (fun a b=>M (two i l a) b)) (n:=n+1) (i:=i) aO;rw [<- h1,h0,Int.add_zero,det,<- sumF_mul];refine sumF_eq fun k hk=>?_
 have h2:det n (fun a b=>(fun a b=>M (skip i a) b) (skip k a) b)=det n (fun a b=>M (two i (skip i k) a) b):=det_eq fun a b _ _=>by rw [<- two_skip]
 rw [h2];have h3:eps i (skip i k)=sg1 (i+(n+1))*sg1 (k+n):=by
  have e:sg1 (i+(n+1))*sg1 (k+n)=sg1 (i+k+1):=by
   rw [sg1_mul];unfold sg1
   by_cases h:(i+k+1)%2=0
   ·rw [if_pos h,if_pos aO]
   ·rw [if_neg h,if_neg aO]
  rw [e];unfold eps skip
  by_cases h:k<i
  ·rw [if_pos h,if_pos h]
  ·rw [if_neg h,if_neg aO,if_pos aO]; rfl
 rw [h3];simp only [Int.mul_assoc,Int.mul_left_comm,Int.mul_comm]
theorem det_swp:∀ {n j:Nat} {M:Nat->Nat->Int},j+1<=n->det (n+1) (swp j M)=-det (n+1) M
 | 0,j,M,h=>aO
 | n+1,j,M,h=>by
  by_cases e:j+1=n+1
  ·obtain rfl:j=n:=aO
   rw [det_two,det_two,<- sumF_neg,sumF_swap];refine sumF_eq fun i hi=>?_
   rw [<- sumF_neg];refine sumF_eq fun l hl=>?_
   by_cases hil:i=l
   ·subst hil;rw [show eps i i=0 by unfold eps; rw [if_neg aO,if_neg aO]];simp
   ·have h1:swp j M l (j+1)=M l j:=by unfold swp; rw [if_neg aO,if_pos rfl]
    have h2:swp j M i j=M i (j+1):=by unfold swp; rw [if_pos rfl]
    have h3:det j (fun a b=>swp j M (two l i a) b)=det j (fun a b=>M (two i l a) b):=det_eq fun a b _ hb=>by
     unfold swp;rw [if_neg aO,if_neg aO,two_comm l i a (fun h=>hil h.symm)]
    rw [h1,h2,h3,eps_neg i l];simp only [Int.neg_mul,Int.mul_neg,Int.mul_assoc,Int.mul_left_comm,Int.mul_comm]
  ·rw [det,det,<- sumF_neg];refine sumF_eq fun i hi=>?_
   have h1:swp j M i (n+1)=M i (n+1):=by unfold swp; rw [if_neg aO,if_neg aO]
   have h2:det (n+1) (fun a b=>swp j M (skip i a) b)=-det (n+1) (fun a b=>M (skip i a) b):=det_swp (n:=n) (j:=j) (M:=fun a b=>M (skip i a) b) aO;rw [h1,h2,Int.mul_neg]
theorem det_same:∀ (d:Nat) {n j:Nat} {M:Nat->Nat->Int},j+1+d=n->(∀ a,M a j=M a n)->det (n+1) M=0
 | 0,n,j,M,h,hc=>by
  subst h;have h1:=det_swp (n:=j+1+0) (j:=j) (M:=M) (Zr _);have h2:det (j+1+0+1) (swp j M)=det (j+1+0+1) M:=det_eq fun a b _ _=>by
   unfold swp
   by_cases e:b=j
   ·subst e; rw [if_pos rfl]; exact (hc a).symm
   ·rw [if_neg e]
    by_cases e2:b=j+1
    ·subst e2; rw [if_pos rfl]; exact hc a
    ·rw [if_neg e2]
  rw [h2] at h1;omega
 | d+1,n,j,M,h,hc=>by
  have h1:=det_swp (n:=n) (j:=j) (M:=M) aO;have h2:=det_same d (n:=n) (j:=j+1) (M:=swp j M) aO (fun a=>by
   unfold swp;rw [if_neg aO,if_pos rfl,if_neg aO,if_neg aO];exact hc a)
  rw [h2] at h1;omega
theorem det_same' {n j:Nat} {M:Nat->Nat->Int} (hj:j<n) (hc:∀ a,M a j=M a n):det (n+1) M=0:=det_same (n - j - 1) aO hc
def fac:Nat->Nat
 | 0=>1
 | n+1=>(n+1)*fac n
theorem sumF_abs {f:Nat->Int} {B:Nat}:∀ {n:Nat},(∀ i,i<n->(f i).natAbs<=B)->(sumF f n).natAbs<=n*B
 | 0,_=>by simp [sumF]
 | n+1,h=>by
  rw [sumF];have h1:=sumF_abs (n:=n) (fun i hi=>h i aO);have h2:=h n aO;have h3:=Int.natAbs_add_le (sumF f n) (f n);rw [Nat.succ_mul];omega
theorem det_abs {B:Nat}:∀ {n:Nat} {M:Nat->Nat->Int},(∀ a b,a<n->b<n->(M a b).natAbs<=B)->(det n M).natAbs<=fac n*B^n
 | 0,_,_=>by simp [det,fac]
 | n+1,M,h=>by
  rw [det];have:=sumF_abs (f:=fun i=>sg1 (i+n)*M i n*det n (fun a b=>M (skip i a) b)) (B:=B*(fac n*B^n)) (n:=n+1) (fun i hi=>by
   rw [Int.natAbs_mul,Int.natAbs_mul,sg1_abs,Nat.one_mul];exact Nat.mul_le_mul (h i n hi aO) (det_abs fun a b ha hb=>h _ _ (by unfold skip; split <;> omega) aO))
  refine Zm this (Nat.le_of_eq ?_);rw [fac,Nat.pow_succ];simp only [Nat.mul_assoc,Nat.mul_left_comm,Nat.mul_comm]
def minV (a:Nat) (O:Nat->Nat->Int) (cs:Nat->Nat) (r:Nat->Int) (j:Nat):Int:=det (a+1) (fun i b=>(if i<a then O i else r) (if b<a then cs b else j))
def minD (a:Nat) (O:Nat->Nat->Int) (cs:Nat->Nat):Int:=det a (fun i b=>O i (cs b))
theorem minV_comb (a:Nat) (O:Nat->Nat->Int) (cs:Nat->Nat) (r:Nat->Int):∃ γ:Nat->Int,∀ j,minV a O cs r j=minD a O cs*r j+sumF (fun i=>γ i*O i j) a:=by
 refine ⟨fun i=>sg1 (i+a)*det a (fun x b=>(if skip i x<a then O (skip i x) else r) (cs b)),fun j=>?_⟩;unfold minV;rw [det,sumF,Int.add_comm];congr 1
 ·simp only [if_neg (Nat.lt_irrefl a)];have h1:det a (fun x b=>(if skip a x<a then O (skip a x) else r) (if b<a then cs b else j))=minD a O cs:=det_eq fun x b hx hb=>by
   have e:skip a x=x:=by unfold skip; rw [if_pos hx]
   rw [e,if_pos hx,if_pos hb]
  rw [h1,sg1_two,Int.one_mul,Int.mul_comm]
 ·refine sumF_eq fun i hi=>?_
  simp only [if_pos hi,if_neg (Nat.lt_irrefl a)];have h1:det a (fun x b=>(if skip i x<a then O (skip i x) else r) (if b<a then cs b else j))=det a (fun x b=>(if skip i x<a then O (skip i x) else r) (cs b)):=det_eq fun x b _ hb=>by rw [if_pos hb]
  rw [h1];simp only [Int.mul_assoc,Int.mul_left_comm,Int.mul_comm]
theorem minV_zero {a:Nat} {O:Nat->Nat->Int} {cs:Nat->Nat} {r:Nat->Int} {t:Nat} (h:t<a):minV a O cs r (cs t)=0:=by
 unfold minV;refine det_same' (j:=t) h fun x=>?_
 rw [if_pos h,if_neg (Nat.lt_irrefl a)]
theorem minV_self (a:Nat) (O:Nat->Nat->Int) (cs:Nat->Nat):minV a O cs (O a) (cs a)=minD (a+1) O cs:=by
 unfold minV minD;refine det_eq fun i b hi hb=>?_
 by_cases h1:i<a
 ·by_cases h2:b<a
  ·rw [if_pos h1,if_pos h2]
  ·rw [if_pos h1,if_neg h2,show b=a by omega]
 ·by_cases h2:b<a
  ·rw [if_neg h1,if_pos h2,show i=a by omega]
  ·rw [if_neg h1,if_neg h2,show i=a by omega,show b=a by omega]
theorem indep {O:Nat->Nat->Int} {cs:Nat->Nat}:∀ {a:Nat},(∀ t,t<=a->minD t O cs≠0)->∀ δ:Nat->Int,(∀ t,t<a->sumF (fun i=>δ i*O i (cs t)) a=0)->∀ i,i<a->δ i=0
 | 0,_,_,_,i,hi=>aO
 | a+1,hd,δ,hz,i,hi=>by
  obtain ⟨γ,hγ⟩:=minV_comb a O cs (O a);have key:∀ j,sumF (fun i=>(minD a O cs*δ i - δ a*γ i)*O i j) a=minD a O cs*sumF (fun i=>δ i*O i j) (a+1) - δ a*minV a O cs (O a) j:=fun j=>by
   have h1:sumF (fun i=>(minD a O cs*δ i - δ a*γ i)*O i j) a=minD a O cs*sumF (fun i=>δ i*O i j) a - δ a*sumF (fun i=>γ i*O i j) a:=by
    rw [<- sumF_mul,<- sumF_mul,Int.sub_eq_add_neg,<- sumF_neg,<- sumF_add];refine sumF_eq fun i _=>?_
    grind
   rw [h1,hγ j,sumF];grind
  have ih:=indep (a:=a) (fun t ht=>hd t aO) (fun i=>minD a O cs*δ i - δ a*γ i) (fun t ht=>by
   rw [key,hz t aO,minV_zero ht];simp)
  have h2:=key (cs a);rw [hz a aO,minV_self,sumF_zero (fun i hi=>by
   have:=ih i hi;rw [this,Int.zero_mul])] at h2
  have h3:δ a*minD (a+1) O cs=0:=aO
  have ha:δ a=0:=by
   rcases Int.mul_eq_zero.1 h3 with h | h
   ·exact h
   ·exact absurd h (hd (a+1) (Zr _))
  by_cases e:i=a
  ·subst e; exact ha
  ·have h4:=ih i aO;rw [ha,Int.zero_mul,Int.sub_zero] at h4;rcases Int.mul_eq_zero.1 h4 with h | h
   ·exact absurd h (hd a aO)
   ·exact h
theorem bareiss {O:Nat->Nat->Int} {cs:Nat->Nat} {a:Nat} (hd:∀ t,t<=a+1->minD t O cs≠0) (r:Nat->Int) (j:Nat) :
 minD (a+1) O cs*minV a O cs r j - minV a O cs r (cs a)*minV a O cs (O a) j=minD a O cs*minV (a+1) O cs r j:=by
 obtain ⟨γr,hr⟩:=minV_comb a O cs r;obtain ⟨γk,hk⟩:=minV_comb a O cs (O a);obtain ⟨β,hβ⟩:=minV_comb (a+1) O cs r;have key:∀ j,minD (a+1) O cs*minV a O cs r j - minV a O cs r (cs a)*minV a O cs (O a) j - minD a O cs*minV (a+1) O cs r j =
  sumF (fun i=>(if i<a then minD (a+1) O cs*γr i - minV a O cs r (cs a)*γk i - minD a O cs*β i else -(minV a O cs r (cs a)*minD a O cs) - minD a O cs*β a)*O i j) (a+1):=fun j=>by
  have h1:sumF (fun i=>(if i<a then minD (a+1) O cs*γr i - minV a O cs r (cs a)*γk i - minD a O cs*β i else -(minV a O cs r (cs a)*minD a O cs) - minD a O cs*β a)*O i j) a =
   minD (a+1) O cs*sumF (fun i=>γr i*O i j) a+(-(minV a O cs r (cs a))*sumF (fun i=>γk i*O i j) a+(-(minD a O cs))*sumF (fun i=>β i*O i j) a):=by
   rw [<- sumF_mul,<- sumF_mul,<- sumF_mul,<- sumF_add,<- sumF_add];refine sumF_eq fun i hi=>?_
   rw [if_pos hi];grind
  rw [sumF,h1,if_neg (Nat.lt_irrefl a),hr j,hk j,hβ j,sumF];grind
 have hz:=indep (a:=a+1) hd _ (fun t ht=>by
  rw [<- key]
  by_cases e:t=a
  ·subst e;rw [minV_self,minV_zero (a:=t+1) (t:=t) aO];grind
  ·rw [minV_zero (a:=a) (t:=t) aO,minV_zero (a:=a) (t:=t) aO,minV_zero (a:=a+1) (t:=t) aO];simp)
 have h2:=key j;rw [sumF_zero (fun i hi=>by rw [hz i hi,Int.zero_mul])] at h2;omega
def rowF (L:List (List Int)) (i:Nat):Nat->Int:=fun j=>zAt (rAt L i) j
theorem minV_eq {a:Nat} {O O':Nat->Nat->Int} {cs cs':Nat->Nat} {r:Nat->Int} {j:Nat} (h1:∀ i,i<a->O i=O' i) (h2:∀ b,b<a->cs b=cs' b):minV a O cs r j=minV a O' cs' r j:=by
 unfold minV;refine det_eq fun i b _ _=>?_
 by_cases h3:i<a
 ·by_cases h4:b<a
  ·rw [if_pos h3,if_pos h4,if_pos h3,if_pos h4,h1 i h3,h2 b h4]
  ·rw [if_pos h3,if_neg h4,if_pos h3,if_neg h4,h1 i h3]
 ·by_cases h4:b<a
  ·rw [if_neg h3,if_pos h4,if_neg h3,if_pos h4,h2 b h4]
  ·rw [if_neg h3,if_neg h4,if_neg h3,if_neg h4]
theorem minD_eq {a:Nat} {O O':Nat->Nat->Int} {cs cs':Nat->Nat} (h1:∀ i,i<a->O i=O' i) (h2:∀ b,b<a->cs b=cs' b):minD a O cs=minD a O' cs':=by
 unfold minD;exact det_eq fun i b hi hb=>by rw [h1 i hi,h2 b hb]
theorem zAt_comb (R O:List Int) (c:Nat) (p:Int):∀ {n j:Nat},j<n->zAt (combZ R O c p n) j=(zAt O c*zAt R j - zAt R c*zAt O j) / p
 | n+1,j,h=>by
  rw [combZ];unfold zAt;rw [Ze];rcases Nat.lt_or_ge j n with h1 | h1
  ·rw [List.getElem?_append_left (by rw [combZ_len]; exact h1),<- Ze];exact zAt_comb R O c p h1
  ·obtain rfl:j=n:=aO
   rw [List.getElem?_append_right (by rw [combZ_len]; exact Zr _),combZ_len,Nat.sub_self];rfl
structure InvB (L0:List (List Int)) (wd:Nat) (s:BS) (c:Nat) (π cs:Nat->Nat):Prop where
 perm:∀ i,i<L0.length->π i<L0.length
 inj:∀ i j,i<L0.length->j<L0.length->π i=π j->i=j
 sur:∀ y,y<L0.length->∃ i,i<L0.length/\π i=y
 len:s.L.length=L0.length
 a_le:s.a<=L0.length
 col:∀ t,t<s.a->cs t<c
 inc:∀ t u,t<u->u<s.a->cs t<cs u
 low:∀ i,s.a<=i->i<L0.length->∀ j,j<wd->zAt (rAt s.L i) j=minV s.a (fun i=>rowF L0 (π i)) cs (rowF L0 (π i)) j
 high:∀ i,i<s.a->∀ j,j<wd->zAt (rAt s.L i) j=minV i (fun i=>rowF L0 (π i)) cs (rowF L0 (π i)) j
 b_eq:s.b=minD s.a (fun i=>rowF L0 (π i)) cs
 nz:∀ t,t<=s.a->minD t (fun i=>rowF L0 (π i)) cs≠0
 zero:∀ i,s.a<=i->i<L0.length->∀ c',c'<c->zAt (rAt s.L i) c'=0
theorem InvB.start (L0:List (List Int)) (wd:Nat):InvB L0 wd ⟨L0,1,0⟩ 0 id id where
 perm _ h:=h
 inj _ _ _ _ h:=h
 sur y h:=⟨y,h,rfl⟩
 len:=rfl
 a_le:=Nat.zero_le _
 col _ h:=by simp at h
 inc _ _ _ h:=by simp at h
 low i _ _ j _:=by
  show zAt (rAt L0 i) j=minV 0 _ _ _ j;unfold minV;simp only [det,sumF,Nat.not_lt_zero,if_false,sg1,rowF];simp
 high i h:=by simp at h
 b_eq:=rfl
 nz t h:=by
  obtain rfl:t=0:=by simpa using h
  show (1:Int)≠0;omega
 zero _ _ _ _ h:=aO
def swpN (a p i:Nat):Nat:=if i=a then p else if i=p then a else i
theorem InvB.step {L0:List (List Int)} {wd:Nat} {s:BS} {c:Nat} {π cs:Nat->Nat} (hw:Wide L0 wd) (hws:Wide s.L wd) (h:InvB L0 wd s c π cs) (hc:c<wd):∃ π' cs',InvB L0 wd (stepB s c) (c+1) π' cs'/\(∀ t,t<s.a->cs' t=cs t)/\(∀ p,findP s.L c (s.L.length - s.a) s.a=some p->cs' s.a=c):=by
 cases hf:findP s.L c (s.L.length - s.a) s.a with
 | none =>
  rw [stepB_none hf];have hz:=findP_zero _ _ hf;refine ⟨π,cs,?_,fun _ _=>rfl,fun p hp=>by cases hp⟩;refine ⟨h.perm,h.inj,h.sur,h.len,h.a_le,fun t ht=>Nat.lt_succ_of_lt (h.col t ht),h.inc,h.low,h.high,h.b_eq,h.nz,fun i h1 h2 c' h3=>?_⟩
  by_cases e:c'=c
  ·subst e; exact hz i h1 (by rw [h.len]; omega)
  ·exact h.zero i h1 h2 c' aO
 | some p =>
  obtain ⟨hp1,hp2,hp3⟩:=findP_spec _ _ _ hf;rw [stepB_some hf];obtain ⟨L,b,a⟩:=s;have hlen:=h.len;have hale:=h.a_le;simp only at hlen hale hp1 hp2 hp3 hws hf ⊢;have haN:a<L0.length:=aO
  have hpN:p<L0.length:=aO
  have haL:a<L.length:=aO
  have hpL:p<L.length:=aO
  have hπ':∀ i,i<a->π (swpN a p i)=π i:=fun i hi=>by unfold swpN; rw [if_neg aO,if_neg aO]
  have hcs':∀ t,t<a->(if t=a then c else cs t)=cs t:=fun t ht=>if_neg aO
  have hsw:∀ i,a<=i->i<L0.length->∀ j,j<wd->zAt (rAt (swapL L a p) i) j=minV a (fun i=>rowF L0 (π (swpN a p i))) (fun t=>if t=a then c else cs t) (rowF L0 (π (swpN a p i))) j:=fun i h1 h2 j hj=>by
   have e0:∀ r,minV a (fun i=>rowF L0 (π (swpN a p i))) (fun t=>if t=a then c else cs t) r j=minV a (fun i=>rowF L0 (π i)) cs r j:=fun r=>minV_eq (fun i hi=>by simp only [hπ' i hi]) hcs'
   rw [rAt_swap haL hpL,e0];unfold swpN
   by_cases e1:i=p
   ·rw [if_pos e1]
    by_cases e2:i=a
    ·rw [if_pos e2,<- e1,e2];exact h.low a (Zr _) haN j hj
    ·rw [if_neg e2,if_pos e1];exact h.low a (Zr _) haN j hj
   ·rw [if_neg e1]
    by_cases e2:i=a
    ·rw [if_pos e2,if_pos e2];exact h.low p hp1 hpN j hj
    ·rw [if_neg e2,if_neg e2,if_neg e1];exact h.low i h1 h2 j hj
  have hD:∀ t,t<=a->minD t (fun i=>rowF L0 (π (swpN a p i))) (fun t=>if t=a then c else cs t)=minD t (fun i=>rowF L0 (π i)) cs:=fun t ht=>minD_eq (fun i hi=>by simp only [hπ' i aO]) (fun b hb=>hcs' b aO)
  have hpiv:minD (a+1) (fun i=>rowF L0 (π (swpN a p i))) (fun t=>if t=a then c else cs t)=zAt (rAt (swapL L a p) a) c:=by
   rw [hsw a (Zr _) haN c hc,<- minV_self];simp only [if_true]
  have hpne:zAt (rAt (swapL L a p) a) c≠0:=by
   rw [rAt_swap haL hpL]
   by_cases e:a=p
   ·rw [if_pos e,e]; exact hp3
   ·rw [if_neg e,if_pos rfl]; exact hp3
  have hnz:∀ t,t<=a+1->minD t (fun i=>rowF L0 (π (swpN a p i))) (fun t=>if t=a then c else cs t)≠0:=fun t ht=>by
   by_cases e:t=a+1
   ·subst e; rw [hpiv]; exact hpne
   ·rw [hD t aO]; exact h.nz t (by show t<=a; omega)
  have hbD:b=minD a (fun i=>rowF L0 (π (swpN a p i))) (fun t=>if t=a then c else cs t):=by rw [hD a (Zr _)]; exact h.b_eq
  have hw1:Wide (swapL L a p) wd:=hws.swap haL hpL;have hsz:∀ i,a<=i->i<L0.length->∀ c',c'<c->zAt (rAt (swapL L a p) i) c'=0:=fun i h1 h2 c' h3=>by
   rw [rAt_swap haL hpL];split
   ·exact h.zero a (Zr _) haN c' h3
   ·split
    ·exact h.zero p hp1 hpN c' h3
    ·exact h.zero i h1 h2 c' h3
  have hel:∀ i,i<L0.length->rAt (elimL (swapL L a p) a c b (L.length - (a+1))) i=if a<i then combZ (rAt (swapL L a p) i) (rAt (swapL L a p) a) c b wd else rAt (swapL L a p) i:=fun i hi=>by
   rw [rAt_elim (by rw [swapL_len]; omega),hw1 i (by rw [swapL_len]; omega)]
   by_cases e:a<i
   ·rw [if_pos ⟨e,aO⟩,if_pos e]
   ·rw [if_neg (fun h=>e h.1),if_neg e]
  refine ⟨fun i=>π (swpN a p i),fun t=>if t=a then c else cs t,?_,fun t ht=>if_neg aO,fun _ _=>if_pos rfl⟩;refine ⟨fun i hi=>h.perm _ (by unfold swpN; split <;> (try split) <;> omega),fun i j hi hj e=>?_,fun y hy=>?_,by simp only [elimL_len,swapL_len]; exact hlen,haN,fun t ht=>?_,fun t u htu hu=>?_,fun i h1 h2 j hj=>?_,fun i h1 j hj=>?_,hpiv.symm,hnz,fun i h1 h2 c' h3=>?_⟩
  ·have:=h.inj _ _ (by unfold swpN; split <;> (try split) <;> omega) (by unfold swpN; split <;> (try split) <;> omega) e;unfold swpN at this
   repeat' split at this
   all_goals omega
  ·obtain ⟨i,hi,e⟩:=h.sur y hy;refine ⟨swpN a p i,by unfold swpN; split <;> (try split) <;> omega,?_⟩;have e2:swpN a p (swpN a p i)=i:=by
    unfold swpN
    repeat' split
    all_goals omega
   simp only [e2];exact e
  ·simp only at ht
   by_cases e:t=a
   ·simp only [if_pos e]; omega
   ·simp only [if_neg e]; have:=h.col t (by show t<a; omega); omega
  ·simp only at hu
   by_cases e:u=a
   ·simp only [if_pos e,if_neg (show t≠a by omega)];exact h.col t (by show t<a; omega)
   ·simp only [if_neg e,if_neg (show t≠a by omega)];exact h.inc t u htu (by show u<a; omega)
  ·simp only at h1;rw [hel i h2,if_pos aO,zAt_comb _ _ _ _ hj,hsw a (Zr _) haN c hc,hsw i aO h2 j hj,hsw i aO h2 c hc,hsw a (Zr _) haN j hj];have hb:=bareiss (O:=fun i=>rowF L0 (π (swpN a p i))) (cs:=fun t=>if t=a then c else cs t) (a:=a) hnz (rowF L0 (π (swpN a p i))) j;rw [<- minV_self] at hb;simp only [if_true] at hb;rw [hb,hbD];exact Int.mul_ediv_cancel_left _ (hnz a aO)
  ·simp only at h1;rw [hel i aO,if_neg aO]
   by_cases e:i=a
   ·subst e; exact hsw i (Zr _) haN j hj
   ·rw [rAt_swap haL hpL,if_neg aO,if_neg e];have h4:=h.high i (by show i<a; omega) j hj;rw [h4,hπ' i aO];exact (minV_eq (fun x hx=>by simp only [hπ' x aO]) (fun b hb=>hcs' b aO)).symm
  ·simp only at h1;rw [hel i h2,if_pos aO,zAt_comb _ _ _ _ aO]
   by_cases e:c'=c
   ·subst e;rw [Int.mul_comm,Int.sub_self];exact Int.zero_ediv _
   ·rw [hsz i aO h2 c' aO,hsz a (Zr _) haN c' aO];simp
theorem InvB.run2 {L0:List (List Int)} {wd:Nat} (hw:Wide L0 wd):∀ c,c<=wd->∃ π cs,InvB L0 wd (runB ⟨L0,1,0⟩ c) c π cs/\leadsB ⟨L0,1,0⟩ c=(List.range (runB ⟨L0,1,0⟩ c).a).map (fun t=>(cs t,t))
 | 0,_=>⟨id,id,InvB.start L0 wd,rfl⟩
 | c+1,h=>by
  obtain ⟨π,cs,hi,hl⟩:=InvB.run2 hw c aO;obtain ⟨π',cs',h1,h2,h3⟩:=hi.step hw (runB_wide hw c) aO;refine ⟨π',cs',h1,?_⟩;rw [leadsB,runB];have e:∀ n,n<=(runB ⟨L0,1,0⟩ c).a->(List.range n).map (fun t=>(cs t,t))=(List.range n).map (fun t=>(cs' t,t)):=fun n hn=>List.map_congr_left fun t ht=>by rw [h2 t (by have:=List.mem_range.1 ht; omega)]
  cases hf:findP (runB ⟨L0,1,0⟩ c).L c ((runB ⟨L0,1,0⟩ c).L.length - (runB ⟨L0,1,0⟩ c).a) (runB ⟨L0,1,0⟩ c).a with
  | none =>
   rw [stepB_none hf,List.append_nil,hl];exact e _ (Zr _)
  | some p =>
   rw [stepB_some hf,List.range_succ,List.map_append,hl,e _ (Zr _)];simp only [List.map_cons,List.map_nil];rw [h3 p hf]
theorem InvB.run {L0:List (List Int)} {wd:Nat} (hw:Wide L0 wd) (c:Nat) (hc:c<=wd):∃ π cs,InvB L0 wd (runB ⟨L0,1,0⟩ c) c π cs:=by
 obtain ⟨π,cs,h,_⟩:=InvB.run2 hw c hc;exact ⟨π,cs,h⟩
end Go.Proofs.YtflolbnnkbdmfaaGreat
