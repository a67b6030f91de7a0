import Derived.Test.YtflgngjocgiojaaGreatItW
import Derived.Test.YtflgngjocgiojaaGreatSinkF
set_option linter.all false
namespace Go.Proofs.YtflgngjocgiojaaGreat
set_option maxRecDepth 100000
set_option maxHeartbeats 8000000
open Go.RowKit
attribute [local go_sem] Oper.semAt_some
theorem wpIn_scope {P:Program} {n:Nat} {c:Code} {Q:Exit->Act->World->Prop} {a:Act} {w:World} (h:c.wpIn Fence.wide n P (Exit.noGoto Q) a w):(Code.scope c).wpIn Fence.wide n P Q a w:=wpIn_wide.2 (wp_scope_straight (wpIn_wide.1 h))
structure KI (W W':World):Prop where
 size:W.heap.size<=W'.heap.size
 same:∀ (b:Nat) (cs:Array Value) (T:TypeId) (r:Nat×Nat),W.heap[b]?=some (.cells cs T r)->(∀ i,cs≠#[.int .i64 i])->W'.heap[b]?=some (.cells cs T r)
theorem KI.refl (W:World):KI W W:=⟨Zr _,fun _ _ _ _ h _=>h⟩
theorem KI.trans {A B C:World} (h:KI A B) (k:KI B C):KI A C:=⟨Zm h.size k.size,fun b cs T r h1 h2=>k.same b cs T r (h.same b cs T r h1 h2) h2⟩
theorem KI.below {W W':World} (h:Below W.heap.size W W'):KI W W':=⟨h.size,fun b _ _ _ h1 _=>(h.block b (Zt.1 h1).1).trans h1⟩
theorem KI.putObj {w:World} (W:World) (l:Nat) (o o':Obj) (_:w.heap.size<=l) (h:W.heap[l]?=some o) (hc:o.isCells=false) (_:o.isWalk=false):KI W (W.putObj l o'):=
 ⟨by simp [World.putObj],fun b cs T r h3 _=>by
  by_cases e:b=l
  ·subst e; rw [h] at h3; cases h3; simp [Obj.isCells] at hc
  ·exact (World.putObj_heap_other aO).trans h3⟩
theorem Own.ki {w w':World} {b:Nat} {cs:Array Value} (h:Own w b cs) (k:KI w w') (hc:∀ i,cs≠#[.int .i64 i]):Own w' b cs:=by
 obtain ⟨T,h⟩:=h;exact ⟨T,k.same b cs T _ h hc⟩
theorem KI.cell {w w':World} (k:KI w w') {b i:Nat} {v:Value} (h:w.cell? ⟨b,i,none⟩=some v) (hv:∀ i,v ≠ .int .i64 i):w'.heap[b]?=w.heap[b]?:=by
 obtain ⟨cs,T,r,hb⟩:=cell_cells h;rw [hb];refine k.same b cs T r hb fun x e=>?_
 subst e;have h2:=(cell_of_row w b i _ T r hb).symm.trans h
 match i with
 | 0=>simp at h2; exact hv x h2.symm
 | i+1=>simp at h2
theorem NumAt.ki {w w':World} {v:Value} {z:Int} (h:NumAt w v z) (k:KI w w'):NumAt w' v z:=by
 obtain ⟨A,n,c,e,h1,h2,h3,h4⟩:=h;refine ⟨A,n,c,e,h1,h2,h3,h4.len,h4.dg,fun hp=>?_⟩;obtain ⟨b,off,rfl,hb,hc⟩:=h4.row hp;have hB:=k.cell (hc 0 hp) (fun i e=>by cases e);exact ⟨b,off,rfl,Zl hb k.size,fun i hi=>(Zc (w:=w) (a:=⟨b,off+i,none⟩) hB).trans (hc i hi)⟩
theorem NumsX.ki {X:Nat->Prop} {w w':World} {A:Option Addr} {n:Nat} {Z:List Int} (h:NumsX X w A n Z) (k:KI w w'):NumsX X w' A n Z:=
 ⟨h.len,fun h0=>by
  obtain ⟨b,off,e,hlt,hX,hc⟩:=h.row h0;refine ⟨b,off,e,Zl hlt k.size,hX,fun i hi=>?_⟩;obtain ⟨s,B,m,c,h1,h2,h3,h4⟩:=hc i hi;have hB:=k.cell h1 (fun i e=>by cases e);exact ⟨s,B,m,c,(Zc (w:=w) (a:=⟨b,off+i*2,none⟩) hB).trans h1,(Zc (w:=w) (a:=⟨b,off+i*2+1,none⟩) hB).trans h2,fun b' off' e'=>⟨Zl (h3 b' off' e').1 k.size,(h3 b' off' e').2⟩,h4.ki k⟩⟩
theorem MatO.ki {X:Nat->Prop} {w w':World} {g:Nat} {L:List (List Int)} (h:MatO X w g L) (k:KI w w') (h0:0<L.length):MatO X w' g L:=by
 obtain ⟨cs,ho,hc⟩:=h;refine ⟨cs,ho.ki k fun i e=>?_,fun i hi=>?_⟩
 ·obtain ⟨B,c,h1,_⟩:=hc 0 h0;rw [e] at h1; simp at h1
 ·obtain ⟨B,c,h1,h2,h3,h4⟩:=hc i hi;exact ⟨B,c,h1,h2,h3,h4.ki k⟩
theorem MatO.below {X:Nat->Prop} {w w':World} {g:Nat} {L:List (List Int)} (h:MatO X w g L) (k:Below w.heap.size w w'):MatO X w' g L:=by
 obtain ⟨cs,ho,hc⟩:=h;refine ⟨cs,ho.below k,fun i hi=>?_⟩;obtain ⟨B,c,h1,h2,h3,h4⟩:=hc i hi;exact ⟨B,c,h1,h2,h3,h4.below k⟩
theorem MatO.imp {X Y:Nat->Prop} {w:World} {g:Nat} {L:List (List Int)} (h:MatO X w g L) (k:∀ b,X b->Y b):MatO Y w g L:=by
 obtain ⟨cs,ho,hc⟩:=h;refine ⟨cs,ho,fun i hi=>?_⟩;obtain ⟨B,c,h1,h2,h3,h4⟩:=hc i hi;exact ⟨B,c,h1,h2,h3,h4.imp fun b _ hX=>k b hX⟩
structure LG (W:World) (Bx S g t cap k:Nat) (L:List (List Int)) (b:Int):Prop where
 box:Own W Bx #[.pointer (some ⟨S,0,none⟩)]
 sys:Own W S #[.slice (some ⟨g,0,none⟩) L.length cap,.int .i64 (k:Nat)]
 rows:MatO (fun b=>b≠S/\b≠g/\b≠t) W g L
 bef:∃ s B m c,Own W t #[.bool s,.slice B m c]/\(∀ b off,B=some ⟨b,off,none⟩->b<W.heap.size/\b≠S/\b≠g/\b≠t)/\NumAt W (.agg #[.bool s,.slice B m c]) b
theorem LG.below {W W':World} {Bx S g t cap k:Nat} {L:List (List Int)} {b:Int} (h:LG W Bx S g t cap k L b) (hb:Below W.heap.size W W'):LG W' Bx S g t cap k L b:=by
 obtain ⟨h1,h2,h3,s,B,m,c,h4,h5,h6⟩:=h;exact ⟨h1.below hb,h2.below hb,h3.below hb,s,B,m,c,h4.below hb,fun b off e=>⟨Zl (h5 b off e).1 hb.size,(h5 b off e).2⟩,h6.below hb⟩
theorem LG.ki {W W':World} {Bx S g t cap k:Nat} {L:List (List Int)} {b:Int} (h:LG W Bx S g t cap k L b) (hb:KI W W') (h0:0<L.length):LG W' Bx S g t cap k L b:=by
 obtain ⟨h1,h2,h3,s,B,m,c,h4,h5,h6⟩:=h;exact ⟨h1.ki hb (fun i e=>by simp at e),h2.ki hb (fun i e=>by simp at e),h3.ki hb h0,s,B,m,c,h4.ki hb (fun i e=>by simp at e),fun b off e=>⟨Zl (h5 b off e).1 hb.size,(h5 b off e).2⟩,h6.ki hb⟩
theorem LG.row {W:World} {Bx S g t cap k:Nat} {L:List (List Int)} {b:Int} (h:LG W Bx S g t cap k L b) {i n:Nat} (hi:i<L.length) (hn:(rAt L i).length=n) :
 ∃ B c,W.cell? ⟨g,i,none⟩=some (.slice B n c)/\n<=c/\c<=9223372036854775807/\NumsX (fun b=>b≠S/\b≠g/\b≠t) W B n (rAt L i):=by
 obtain ⟨cs,ho,hc⟩:=h.rows;obtain ⟨B,c,h1,h2,h3,h4⟩:=hc i hi;subst hn;exact ⟨B,c,(ho.cell i).trans h1,h2,h3,h4⟩
theorem LG.setRow {W:World} {Bx S g t cap k:Nat} {L:List (List Int)} {b:Int} (h:LG W Bx S g t cap k L b) {i:Nat} (hi:i<L.length) {B:Option Addr} {c:Nat} {Z:List Int} (hZ:NumsX (fun b=>b≠S/\b≠g/\b≠t) W B Z.length Z) (h1:Z.length<=c) (h2:c<=9223372036854775807) (hBg:Bx≠g) (hSg:S≠g) (htg:t≠g) :
 LG (W.setCell ⟨g,i,none⟩ (.slice B Z.length c)) Bx S g t cap k (L.set i Z) b:=by
 obtain ⟨h3,h4,⟨cs,ho,hc⟩,s,B',m,c',h5,h6,h7⟩:=h;have hsz:(W.setCell ⟨g,i,none⟩ (.slice B Z.length c)).heap.size=W.heap.size:=by simp [World.setCell]
 refine ⟨h3.far (by simpa using hBg) _,by rw [List.length_set]; exact h4.far (by simpa using hSg) _,⟨_,ho.set i _,fun j hj=>?_⟩,s,B',m,c',h5.far (by simpa using htg) _,fun b off e=>by rw [hsz]; exact h6 b off e,h7.same (by rw [hsz]; exact Zr _) fun b off e=>Below.heap_setCell _ _ _ b (h6 b off e).2.2.1⟩;rw [List.length_set] at hj;have hmv:∀ {B2 n Z2},NumsX (fun b=>b≠S/\b≠g/\b≠t) W B2 n Z2->NumsX (fun b=>b≠S/\b≠g/\b≠t) (W.setCell ⟨g,i,none⟩ (.slice B Z.length c)) B2 n Z2:=fun h=>h.move (by rw [hsz]; exact Zr _) fun b hb hX=>⟨Below.heap_setCell _ _ _ b hX.2.1,hX⟩
 rw [rAt_set hi]
 by_cases e:j=i
 ·subst e;rw [if_pos rfl];obtain ⟨B2,c2,g1,_⟩:=hc j hi;have hjs:j<cs.size:=(Zt.1 g1).1;exact ⟨B,c,by rw [Array.getElem?_setIfInBounds,if_pos rfl,if_pos hjs],h1,h2,hmv hZ⟩
 ·rw [if_neg e];obtain ⟨B2,c2,g1,g2,g3,g4⟩:=hc j hj;exact ⟨B2,c2,by rw [Array.getElem?_setIfInBounds,if_neg (fun h=>e h.symm)]; exact g1,g2,g3,hmv g4⟩
theorem LG.setBef {W:World} {Bx S g t cap k:Nat} {L:List (List Int)} {b b':Int} (h:LG W Bx S g t cap k L b) {s:Bool} {B:Option Addr} {m c:Nat} (hB:∀ b off,B=some ⟨b,off,none⟩->b<W.heap.size/\b≠S/\b≠g/\b≠t) (hN:NumAt W (.agg #[.bool s,.slice B m c]) b') (hBt:Bx≠t) (hSt:S≠t) (htg:t≠g) :
 LG ((W.setCell ⟨t,0,none⟩ (.bool s)).setCell ⟨t,1,none⟩ (.slice B m c)) Bx S g t cap k L b':=by
 obtain ⟨h3,h4,h5,s',B',m',c',h6,h7,h8⟩:=h;have hsz:((W.setCell ⟨t,0,none⟩ (.bool s)).setCell ⟨t,1,none⟩ (.slice B m c)).heap.size=W.heap.size:=by simp [World.setCell]
 have hbl:∀ x,x≠t->((W.setCell ⟨t,0,none⟩ (.bool s)).setCell ⟨t,1,none⟩ (.slice B m c)).heap[x]?=W.heap[x]?:=fun x hx=>(Below.heap_setCell _ _ _ x hx).trans (Below.heap_setCell _ _ _ x hx)
 refine ⟨h3.of_block (hbl _ hBt),h4.of_block (hbl _ hSt),?_,s,B,m,c,((h6.set 0 _).set 1 _).eq (by rfl),fun b off e=>by rw [hsz]; exact hB b off e,hN.same (by rw [hsz]; exact Zr _) fun b off e=>hbl b (hB b off e).2.2.2⟩;obtain ⟨cs,ho,hc⟩:=h5;refine ⟨cs,ho.of_block (hbl g (fun e=>htg e.symm)),fun i hi=>?_⟩;obtain ⟨B2,c2,g1,g2,g3,g4⟩:=hc i hi;exact ⟨B2,c2,g1,g2,g3,g4.move (by rw [hsz]; exact Zr _) fun b hb hX=>⟨hbl b hX.2.2,hX⟩⟩
theorem ItW.upd {g B:Nat} {w u:World} (h:Upd [g] w u) (hc:∃ cs T r,w.heap[g]?=some (.cells cs T r)):ItW g B w u:=
 ⟨h.os,h.tape,h.output,h.size,fun k hk h1 _=>h.block k hk (by simpa using h1),fun k o h1 h2=>by
  obtain ⟨cs,T,r,hc⟩:=hc;refine (h.block k (Zt.1 h1).1 ?_).trans h1;intro hm;have:k=g:=by simpa using hm
  subst this;rw [hc] at h1; cases h1; simp [Obj.isCells] at h2⟩
def SameAt (w:World) (g:Nat) (u:World):Prop:=u.heap[g]?=w.heap[g]?/\g<u.heap.size
def rowNB (T:List Nat) (B0:Nat) (Z:List Int):EBS T where
 val p:= .slice (some ⟨p.1,0,none⟩) Z.length p.2
 R p u:=Z.length<=p.2/\p.2<=9223372036854775807/\NumsX (fun b=>B0<=b/\b∉T) u (some ⟨p.1,0,none⟩) Z.length Z
 st _ _ _ h k:=⟨h.1,h.2.1,h.2.2.move k.size fun b hb hX=>⟨k.block b hb hX.2,hX⟩⟩
theorem rowNB_val {T:List Nat} {B0:Nat} {Z:List Int} {p:Nat×Nat}:(rowNB T B0 Z).val p = .slice (some ⟨p.1,0,none⟩) Z.length p.2:=rfl
theorem leads1_in (n l Bx S g cap k wd:Nat) (hn:1<=n) (L0:List (List Int)) (s0:BS) (hs0:s0=⟨L0,1,0⟩) (J:List (Nat×Nat)->World->Prop) (W:World)
 (hJ:∀ s A B,J s A->ItW g W.heap.size A B->J s B)
 (hY:∀ pre (x:Nat×Nat) W1,J pre W1->pre.length<1000->YieldAt Fence.wide (n - 1) Tryz.prog l #[.int .i64 (x.1:Nat),.int .i64 (x.2:Nat)] W1 fun e W'=>e = .returned (.bool true)/\J (pre++[x]) W'/\KI W1 W')
 (hbox:Own W Bx #[.pointer (some ⟨S,0,none⟩)]) (hsys:Own W S #[.slice (some ⟨g,0,none⟩) L0.length cap,.int .i64 (k:Nat)]) (hrows:MatO (fun b=>b≠S/\b≠g) W g L0)
 (hBg:Bx≠g) (hSg:S≠g) (hN0:0<L0.length) (hN:L0.length<=900) (hw:Wide L0 wd) (hk:k<=wd) (hwd:wd<=900) (hcap:L0.length<=cap) (hcap2:cap<=9223372036854775807)
 (hsm:∀ c,c<=k->SmL (runB s0 c).L wd) (hJ0:J [] W) :
 CallsIn Fence.wide n Tryz.prog 97 #[.func (.yield l) #[] #[],.pointer (some ⟨Bx,0,none⟩)] W fun e W'=>(∃ v,e = .returned v)/\J (leadsB s0 k) W' /\
  Own W' S #[.slice (some ⟨g,0,none⟩) L0.length cap,.int .i64 (k:Nat)]/\MatO (fun b=>b≠S/\b≠g) W' g (runB s0 k).L:=by
 refine callsIn_of_wp Tryz.func97 rfl trivial ?_ rfl;simp only [Tryz.ntmps97,List.size_toArray,List.length_cons,List.length_nil,Nat.reduceAdd,Nat.reduceSub,Array.replicate_succ,Array.replicate_zero,List.push_toArray,List.append_toArray,List.nil_append,List.cons_append];obtain ⟨N,hNN⟩:=Zx (L0.length);rw [hNN] at hsys hN0 hN hcap ⊢;have HJ:=Zh hJ;have HY:=Zh hY;have HS:=Zh hs0;have HR:=Zh hrows;have HB:=Zh hbox;have HO:=Zh hsys;have HW:=Zh hw;have HSM:=Zh hsm;have H0:=Zh hJ0;have HL:=Zh hNN;have fx:fits 1=true:=fits_small aO;have HF:=Zh fx;have hki:(k:Int)<=900:=aO
 clear hJ hY hs0 hrows hbox hsys hw hsm hJ0 hNN fx;refine wpIn_scope ?_;gi_wp2_with fail;refine ⟨trivial,(callsIn_wide.2 (of_val (w:=W) 1 aO aO)).mono ?_⟩;rintro e w1 ⟨⟨b1,rfl,g1,g2,g3⟩,hb1⟩;obtain ⟨A8,n8,c8,hs8⟩:=slN_form 1 b1;have N1:=g1.at_ HF.out;simp only [numV] at N1 ⊢;rw [hs8] at N1 ⊢;obtain ⟨sg,hsg⟩:=Zx (sgnN 1);rw [hsg] at N1 ⊢;have OB:∀ b off,A8=some ⟨b,off,none⟩->W.heap.size<=b/\b<w1.heap.size:=fun b off e=>by
  subst e;have h9:=slN_addr hs8;subst h9;exact ⟨g2,g3⟩
 have hz1:=hb1.size;have oB:=HB.out.below hb1;have oS:=HO.out.below hb1;have hBl:=HB.out.lt;have hSl:=HO.out.lt;have hgl:g<W.heap.size:=by obtain ⟨cs,ho,_⟩:=HR.out; exact ho.lt
 obtain ⟨t,ht⟩:=Zx (w1.heap.size);have hW2:Below W.heap.size W (w1.alloc (.cells #[.bool sg,.slice A8 n8 c8] 35)):=hb1.alloc hz1 _;have hb2:Below w1.heap.size w1 (w1.alloc (.cells #[.bool sg,.slice A8 n8 c8] 35)):=(Zb _ _).alloc (Zr _) _;have hLG:LG (w1.alloc (.cells #[.bool sg,.slice A8 n8 c8] 35)) Bx S g t cap k s0.L s0.b:=by
  rw [HS.out];refine ⟨oB.alloc _,by rw [HL.out]; exact oS.alloc _,?_,sg,A8,n8,c8,Own.new ht.symm,fun b off e=>?_,N1.below hb2⟩
  ·obtain ⟨cs,ho,hc⟩:=HR.out;refine ⟨cs,ho.below hW2,fun i hi=>?_⟩;obtain ⟨B,c,h1,h2,h3,h4⟩:=hc i hi;exact ⟨B,c,h1,h2,h3,h4.move hW2.size fun b hb hX=>⟨hW2.block b hb,hX.1,hX.2,aO⟩⟩
  ·have:=OB b off e;exact ⟨aT,aO,aO,aO⟩
 have hJ1:J (leadsB s0 0) (w1.alloc (.cells #[.bool sg,.slice A8 n8 c8] 35)):=HJ.out _ _ _ H0.out (ItW.below hW2);have HG:=Zh hLG;have HJ1:=Zh hJ1;have HT:Hid (W.heap.size<=t):=Zh aO;rw [<- ht] at HG HT;clear hLG hJ1 OB N1 g1 g2 g3 hs8 hsg hb1 hb2 hW2 HR HB HO H0 ht t oB oS;gi_wp2;refine wpIn_label ?_;generalize (w1.alloc (.cells #[.bool sg,.slice A8 n8 c8] 35))=W2 at *;have oBc:=HG.out.box.cell;have oSc:=HG.out.sys.cell;have hlz:s0.L.length=N:=by rw [HS.out]; exact HL.out
 rw [hlz] at oSc;clear hlz;gi_wp2;clear oBc oSc;obtain ⟨t,ht⟩:=Zx (w1.heap.size);have hl0:=runB_len s0;have hbb:=runB_b (s:=s0) (by rw [HS.out]; show (1:Int)≠0; omega);have HLL:Hid (∀ c,(runB s0 c).L.length=N):=Zh (fun c=>by rw [hl0,HS.out]; exact HL.out);have HWW:Hid (∀ c,Wide (runB s0 c).L wd):=Zh (runB_wide (by rw [HS.out]; exact HW.out));have HBB:=Zh hbb;have HA:Hid (∀ c,(runB s0 c).a<=c/\(leadsB s0 c).length=(runB s0 c).a):=Zh (fun c=>by
  have h1:=runB_a s0 c;have h2:=leadsB_len s0 c;have h3:s0.a=0:=by rw [HS.out]
  omega)
 clear hl0 hbb;rw [ht] at HG HT ⊢;gi_loopw [4,14] (fun a i wr=>∃ c,c<=k/\i = .int .i64 (c:Nat)/\a = .int .i64 ((runB s0 c).a:Nat)/\J (leadsB s0 c) wr/\LG wr Bx S g t cap k (runB s0 c).L (runB s0 c).b) (fun _ i _=>k - (intOf i).toNat)
 case atStart=>exact ⟨0,aO,rfl,by rw [show (runB s0 0).a=0 by rw [show runB s0 0=s0 from rfl,HS.out]]; rfl,HJ1.out,HG.out⟩
 case round =>
  clear HJ1 HG;obtain ⟨c,hc,rfl,rfl,hJ1,hG⟩:=hrel;have HJ1:=Zh hJ1;have HG:=Zh hG;clear hJ1 hG;have hacl:=HA.out c;have hLN:=HLL.out c;have hWd:=HWW.out c;have hb0:=HBB.out c;have hsm1:=HSM.out c hc;have hst:runB s0 (c+1)=stepB (runB s0 c) c:=rfl;have hld:leadsB s0 (c+1)=leadsB s0 c++(match findP (runB s0 c).L c ((runB s0 c).L.length - (runB s0 c).a) (runB s0 c).a with | none=>[] | some _=>[(c,(runB s0 c).a)]):=rfl
  by_cases hlt:c<k
  ·have hsm2:=HSM.out (c+1) aO;have hWd2:=HWW.out (c+1);obtain ⟨s,hs⟩:=Zx (runB s0 c);obtain ⟨pre,hpre⟩:=Zx (leadsB s0 c);rw [hs] at hacl hLN hWd hb0 hsm1 hst HG hld ⊢;rw [hpre] at hacl HJ1 hld;obtain ⟨L,b,a⟩:=s;simp only at hacl hLN hWd hb0 hsm1 HG hld ⊢;obtain ⟨ha,hpl⟩:=hacl;have hai:(a:Int)<=900:=aO
   have hci:(c:Int)<(k:Int):=aO
   have HD:=Zh (Zi hst (Zi hld (Zi hs hpre)));have HI:=Zh (Zi hLN (Zi hWd (Zi hb0 (Zi hsm1 (Zi hsm2 hWd2)))));clear hst hld hs hpre hLN hWd hb0 hsm1 hsm2 hWd2;generalize wr=wo at *;gi_wp2;gi_loopw [4,6] (fun av p wr=>∃ q,a<=q/\(q<=N\/q=a)/\av = .int .i64 (a:Nat)/\p = .int .i64 (q:Nat)/\(∀ r,a<=r->r<q->zAt (rAt L r) c=0)/\J pre wr/\LG wr Bx S g t cap k L b) (fun _ p _=>N - (intOf p).toNat)
   case atStart=>exact ⟨a,Zr _,.inr rfl,rfl,rfl,fun r h1 h2=>aO,HJ1.out,HG.out⟩
   case round =>
    clear HJ1 HG;obtain ⟨q,hq1,hq2,rfl,rfl,hz,hJ1,hG⟩:=hrel;have HJ1:=Zh hJ1;have HG:=Zh hG;have HZ:=Zh hz;clear hJ1 hG hz;have oBc:=HG.out.box.cell;have oSc:=HG.out.sys.cell;rw [HI.out.1] at oSc
    by_cases hqN:q<N
    ·have hqi:(q:Int)<(N:Int):=aO
     obtain ⟨B,cc,r1,r2,r3,NX⟩:=HG.out.row (i:=q) (by rw [HI.out.1]; exact hqN) (HI.out.2.1 q (by rw [HI.out.1]; exact hqN));obtain ⟨bb,off,rfl,hbb,hX,hcell⟩:=NX.row aO;obtain ⟨sE,BE,mE,cE,e1,e2,e3,NE⟩:=hcell c aO;have hcw:(c:Int)<(wd:Int):=aO
     have HNE:=Zh NE;have HNX:=Zh NX;clear hcell NE e3 NX;gi_wp2_with fail;refine ⟨trivial,(callsIn_wide.2 (matrix_zero HNE.out)).mono ?_⟩;obtain ⟨o,ho⟩:=Zx (decide (zAt (rAt L q) c=0));rw [ho];have HOo:=Zh ho;rintro e w1 ⟨rfl,hb1⟩;have HG1:=Zh (HG.out.below hb1);have HJ2:=Zh (HJ.out _ _ _ HJ1.out (ItW.below hb1));clear ho hb1 r1 e1 e2 oBc oSc;cases o
     ·have hne:zAt (rAt L q) c≠0:=of_decide_eq_false HOo.out;have HFP:=Zh (findP_some (L:=L) (c:=c) (at_:=a) (p:=q) HZ.out hq1 (by rw [HI.out.1]; exact hqN) hne);have haN:a<N:=aO
      have haNi:(a:Int)<(N:Int):=aO
      clear hne HOo HZ HG HJ1 HNE HNX;gi_wp2;have hgt:g<t:=by have:=HT.out; omega
      have oSc:=HG1.out.sys.cell;rw [HI.out.1] at oSc;obtain ⟨Bq,cq,rq,zq1,zq2,NXq⟩:=HG1.out.row (i:=q) (by rw [HI.out.1]; exact hqN) (HI.out.2.1 q (by rw [HI.out.1]; exact hqN));obtain ⟨Ba,ca,ra,za1,za2,NXa⟩:=HG1.out.row (i:=a) (by rw [HI.out.1]; exact haN) (HI.out.2.1 a (by rw [HI.out.1]; exact haN));have hgl1:g<w1.heap.size:=by obtain ⟨cs,ho,_⟩:=HG1.out.rows; exact ho.lt
      refine wpIn_wide.2 ?_;refine region_sinkF 24 9 6 47 (.int .i64 (q:Nat)) [] rfl aK aO aK aK (by rfl) (fun _ _ _ h=>h) ?_;apply Zs;refine ⟨fun v hv hne=>?_,fun u hu=>?_⟩
      ·simp only [TK,List.cons_append,List.nil_append]
       (try simp only [LN])
       have d1:=fun y=>(HG1.out.box.later (v:=v) (T:=[]) aS y).cell
       have d2:=fun y=>(HG1.out.sys.later (v:=v) (T:=[]) aS y).cell
       rw [HI.out.1] at d2;have d3:=later_cell (T:=[]) (w:=w1) (v:=v) hgl1 aS rq;have d4:=later_cell (T:=[]) (w:=w1) (v:=v) hgl1 aS ra;exact qz
      ·simp only [TK];have G3:=HG1.out.below hu;have J3:=HJ.out _ _ _ HJ2.out (ItW.below hu);have ra3:=(Zc (w:=w1) (a:=⟨g,a,none⟩) (hu.block g hgl1)).trans ra;have NXq3:=NXq.below hu;have NXa3:=NXa.below hu;have fz:∀ i,u.frozen? ⟨g,i,none⟩=false:=by obtain ⟨cs,ho,_⟩:=G3.rows; exact ho.thaw
       have hLq:=HI.out.2.1 q (by rw [HI.out.1]; exact hqN);have hLa:=HI.out.2.1 a (by rw [HI.out.1]; exact haN);have htg:t≠g:=aO
       have e4:Value.slice Bq wd cq = .slice Bq (rAt L q).length cq:=by rw [hLq]
       have e5:Value.slice Ba wd ca = .slice Ba (rAt L a).length ca:=by rw [hLa]
       have G4:=G3.setRow (i:=a) (B:=Bq) (c:=cq) (Z:=rAt L q) (by rw [HI.out.1]; exact haN) (by rw [hLq]; exact NXq3) (by rw [hLq]; exact zq1) zq2 hBg hSg htg;rw [<- e4] at G4;have NXa4:NumsX (fun b=>b≠S/\b≠g/\b≠t) (u.setCell ⟨g,a,none⟩ (.slice Bq wd cq)) Ba (rAt L a).length (rAt L a):=by
        rw [hLa]; exact NXa3.move (by simp [World.setCell]) fun b hb hX=>⟨Below.heap_setCell _ _ _ b hX.2.1,hX⟩
       have G5:=G4.setRow (i:=q) (B:=Ba) (c:=ca) (Z:=rAt L a) (by rw [List.length_set,HI.out.1]; exact hqN) NXa4 (by rw [hLa]; exact za1) za2 hBg hSg htg;rw [<- e5] at G5;obtain ⟨Bz,cz,rz,-,-,-⟩:=G4.row (i:=q) (by rw [List.length_set,HI.out.1]; exact hqN) rfl;have fz4:∀ i,(u.setCell ⟨g,a,none⟩ (.slice Bq wd cq)).frozen? ⟨g,i,none⟩=false:=by obtain ⟨cs,ho,_⟩:=G4.rows; exact ho.thaw
       have hcl4:∃ cs T r,(u.setCell ⟨g,a,none⟩ (.slice Bq wd cq)).heap[g]?=some (.cells cs T r):=by obtain ⟨cs,ho,_⟩:=G4.rows; exact ho.cells
       have hcl3:∃ cs T r,u.heap[g]?=some (.cells cs T r):=by obtain ⟨cs,ho,_⟩:=G3.rows; exact ho.cells
       have J5:=HJ.out _ _ _ (HJ.out _ _ _ J3 (ItW.set (p:=⟨g,a,none⟩) (.inl rfl) hcl3 (.slice Bq wd cq))) (ItW.set (p:=⟨g,q,none⟩) (.inl rfl) hcl4 (.slice Ba wd ca));have HG5:=Zh G5;have HJ5:=Zh J5;clear G3 G4 G5 J3 J5 NXq3 NXa3 NXa4 e4 e5 hLq hLa hcl3 hcl4 NXa NXq ra rq;refine sinkF_all aK (fun K hK=>?_);go_simp;refine hK _ _ ?_;clear hK K;refine sinkF_all aK (fun K hK=>?_);go_simp;refine hK _ _ ?_;clear hK K;refine sinkF_all aK (fun K hK=>?_);go_simp;refine hK _ _ ?_;clear hK K;refine sinkF_all aK (fun K hK=>?_);go_simp;refine hK _ _ ?_;clear hK K;refine sinkF_nil ?_
       (try simp only [LN])
       generalize ((u.setCell ⟨g,a,none⟩ (.slice Bq wd cq)).setCell ⟨g,q,none⟩ (.slice Ba wd ca))=u5 at *;have hLen1:(swapL L a q).length=N:=by rw [swapL_len,HI.out.1]
       have hWd1:Wide (swapL L a q) wd:=HI.out.2.1.swap (by rw [HI.out.1]; exact haN) (by rw [HI.out.1]; exact hqN);have hSm1:SmL (swapL L a q) wd:=SmL.swap HI.out.2.2.2.1 (by rw [HI.out.1]; exact haN) (by rw [HI.out.1]; exact hqN);have hG5:LG u5 Bx S g t cap k (swapL L a q) b:=HG5.out;have hst:=HD.out.1;rw [stepB_some HFP.out] at hst;simp only [HI.out.1] at hst;have hld:=HD.out.2.1;rw [HFP.out] at hld;have hsm2:=HI.out.2.2.2.2.1;rw [hst] at hsm2;simp only at hsm2;obtain ⟨L1,hL1⟩:=Zx (swapL L a q);rw [hL1] at hLen1 hWd1 hSm1 hG5 hst hsm2;have HG6:=Zh hG5;have HE:=Zh (Zi hst (Zi hld (Zi hLen1 (Zi hWd1 (Zi hSm1 hsm2)))));have hb0:=HI.out.2.2.1;have HB0:=Zh hb0;clear hst hld hLen1 hWd1 hSm1 hsm2 hG5 hL1 HG5 hb0 HI HD HFP HG1 HJ2;have oBc:=HG6.out.box.cell;have oSc:=HG6.out.sys.cell;rw [HE.out.2.2.1] at oSc;obtain ⟨Bo,co,ro,zo1,zo2,NXo⟩:=HG6.out.row (i:=a) (by rw [HE.out.2.2.1]; exact haN) (HE.out.2.2.2.1 a (by rw [HE.out.2.2.1]; exact haN));have HNO:=Zh NXo;clear NXo ra3 fz fz4 rz;gi_wp2;clear oBc oSc ro;obtain ⟨M,hM⟩:=Zx (N - (a+1));have hMN:a+1+M=N:=aO
       rw [hM] at HE;clear hM;gi_loopw [8] (fun r wr=>∃ j,j<=M/\r = .int .i64 ((a+1+j:Nat):Int)/\J pre wr/\LG wr Bx S g t cap k (elimL L1 a c b j) b/\NumsX (fun b=>b≠S/\b≠g/\b≠t) wr Bo wd (rAt L1 a)) (fun r _=>N - (intOf r).toNat)
       case atStart=>exact ⟨0,aO,by first | rfl | (congr 1; done) | (congr 1; omega),HJ5.out,HG6.out,HNO.out⟩
       case round =>
        clear HJ5 HG6 HNO;obtain ⟨j,hj,rfl,hJ1,hG,hNO⟩:=hrel;have HJ1:=Zh hJ1;have HG:=Zh hG;have HNO:=Zh hNO;clear hJ1 hG hNO;have oBc:=HG.out.box.cell;have oSc:=HG.out.sys.cell;rw [elimL_len,HE.out.2.2.1] at oSc;have hlE:(elimL L1 a c b j).length=N:=by rw [elimL_len,HE.out.2.2.1]
        have hgl3:g<wr.heap.size:=by obtain ⟨cs,ho,_⟩:=HG.out.rows; exact ho.lt
        have htg:t≠g:=aO
        obtain ⟨bo,offo,rfl,hbo,hXo,hcello⟩:=HNO.out.row aO;obtain ⟨sb,Bb,mb,cb,obef,hBb,NB⟩:=HG.out.bef;have HNB:=Zh NB;have oT:=obef.cell;have oTf:=obef.thaw;have oTz:=obef.lt
        by_cases hjM:j<M
        ·have hrr:a+1+j<N:=aO
         obtain ⟨rr,hrr2⟩:=Zx (a+1+j);rw [hrr2] at hrr ⊢;have hri:(rr:Int)<(N:Int):=aO
         have hwr:=HE.out.2.2.2.1 rr (by rw [HE.out.2.2.1]; exact hrr);have hrow:rAt (elimL L1 a c b j) rr=rAt L1 rr:=by rw [rAt_elim (by rw [HE.out.2.2.1]; omega),if_neg aO]
         obtain ⟨Br,cr,rrow,zr1,zr2,NXr⟩:=HG.out.row (i:=rr) (n:=wd) (by rw [hlE]; exact hrr) (by rw [hrow]; exact hwr);rw [hrow] at NXr;have HNR:=Zh NXr;obtain ⟨Zn,hZn⟩:=Zx (combZ (rAt L1 rr) (rAt L1 a) c b wd);have hZl:Zn.length=wd:=by rw [<- hZn]; exact combZ_len _ _ _ _ _
         have hEl:elimL L1 a c b (j+1)=(elimL L1 a c b j).set rr Zn:=by rw [elimL,hrr2,hwr,hZn]
         have HZ:=Zh (Zi hZn (Zi hZl hEl));have HR:=Zh hrr2;have hSl3:=HG.out.sys.lt;have hBg3:Bx∉[g]:=by simpa using hBg
         have hSg3:S∉[g]:=by simpa using hSg
         have htg3:t∉[g]:=by simpa using htg
         clear NXr hrow hwr hZn hZl hEl hrr2 hcello oTf;gi_wp2;refine wpIn_wide.2 ?_;have d1:=fun (v:World) (y:Later [g] wr v)=>(HG.out.box.later hBg3 y).cell
         have d2:=fun (v:World) (y:Later [g] wr v)=>(HG.out.sys.later hSg3 y).cell
         have d3:=fun (v:World) (y:Later [g] wr v)=>(obef.later htg3 y).cell
         rw [hlE] at d2;refine region_gen (T:=[g]) [.step 11 (.slice Br wd cr),.make 15 [] (rowNB [g] wr.heap.size Zn)] 16 1 40 (fun _ u=>SameAt wr g u) (fun _ u u' h k=>⟨(k.block g h.2).trans h.1,Zl h.2 k.size⟩) ⟨rfl,hgl3⟩ aK aK (by rfl) ?_;unfold genWalk;refine ⟨_,pz1,?_⟩;refine one_of (by rfl) ⟨fun f=>⟨rfl,fun u hu hp=>?_⟩,?_⟩
         ·(try simp only [LN])
          (try simp only [rowNB_val])
          have rg:=(Zc (w:=wr) (a:=⟨g,rr,none⟩) hp.1).trans rrow;go_simp;exact Upd.refl _ _
         unfold genWalk;refine ⟨_,pz18,?_⟩;refine one_of (by rfl) ⟨fun f=>⟨rfl,fun u hu _=>?_⟩,?_⟩
         ·refine make_call (f:=99) (args:=#[.slice Br wd cr,.slice (some ⟨bo,offo,none⟩) wd co,.int .i64 (c:Nat),.agg #[.bool sb,.slice Bb mb cb]]) (by (try simp only [LN]); (try simp only [rowNB_val]); go_simp) ?_;have hkg:∀ b,b<wr.heap.size->b≠S/\b≠g/\b≠t->u.heap[b]?=wr.heap[b]?/\True:=fun b hb hX=>⟨hu.2 b hb (by simpa using hX.2.1),trivial⟩
          have q:=matrix_combine (w:=u) (j:=c) cr co (HNR.out.move hu.1 hkg) (HNO.out.move hu.1 hkg) (HNB.out.same hu.1 fun b off e=>(hkg b (hBb b off e).1 (hBb b off e).2).1) HB0.out aO aO (HE.out.2.2.2.2.1 rr (by rw [HE.out.2.2.1]; exact hrr)) (HE.out.2.2.2.2.1 a (by rw [HE.out.2.2.1]; exact haN));rw [HZ.out.1] at q;refine q.mono ?_;rintro e wx ⟨⟨v,rfl,A,cc,rfl,hA,q1,q2,q3⟩,hbx⟩;obtain ⟨bn,rfl⟩:=hA (by rw [HZ.out.2.1]; omega);obtain ⟨bn',off',e9,hlt9,hX9,-⟩:=q3.row (by rw [HZ.out.2.1]; omega);cases e9;exact ⟨(bn,cc),rfl,hX9,hlt9,hbx,q1,q2,q3.imp fun b hb hX=>⟨Zm hu.1 hX,fun hm=>by have:=List.mem_singleton.1 hm; have:=hu.1; omega⟩⟩
         unfold genWalk;refine ⟨_,pz18,?_⟩;intro f u1 hup hph hmade hdist;obtain ⟨⟨z1,z2,z3⟩,loN,hiN⟩:=hmade 15 aO rfl;replace z1:Zn.length<=(f 15).2:=z1;replace z2:(f 15).2<=9223372036854775807:=z2;replace z3:NumsX (fun b=>wr.heap.size<=b/\b∉[g]) u1 (some ⟨(f 15).1,0,none⟩) Zn.length Zn:=z3;have hB1:Below wr.heap.size wr u1:=⟨hup.os,hup.tape,hup.output,hup.size,fun b hb=>by
          by_cases e:b=g
          ·subst e; exact hph.1
          ·exact hup.block b hb (by simpa using e)⟩
         clear hmade hdist hph hup;simp only [TK,Nat.reduceSub,Nat.reduceAdd]
         (try simp only [LN])
         (try simp only [rowNB_val])
         generalize (f 15).1=bn at *;generalize (f 15).2=cn at *;clear f;refine effc_mem (by rfl) (fun K hK=>?_);go_simp;refine hK _ _ (Keeps.of_below hB1) (fun u2 hu2=>?_);clear hK K;have hB2:=hB1.trans (hu2.mono hB1.size);have z4:NumsX (fun b=>b≠S/\b≠g/\b≠t) u2 (some ⟨bn,0,none⟩) Zn.length Zn:=(z3.below hu2).imp fun b hb hX=>⟨aO,aO,aO⟩
         have G2:=HG.out.below hB2;have J2:=HJ.out _ _ _ HJ1.out (ItW.below hB2);have NO2:=HNO.out.below hB2;have rg:=(Zc (w:=wr) (a:=⟨g,rr,none⟩) (hB2.block g hgl3)).trans rrow;have fz:∀ i,u2.frozen? ⟨g,i,none⟩=false:=by obtain ⟨cs,ho,_⟩:=G2.rows; exact ho.thaw
         have hcl:∃ cs T r,u2.heap[g]?=some (.cells cs T r):=by obtain ⟨cs,ho,_⟩:=G2.rows; exact ho.cells
         have G3:=G2.setRow (i:=rr) (by rw [hlE]; exact hrr) z4 z1 z2 hBg hSg htg;have J3:=HJ.out _ _ _ J2 (ItW.set (p:=⟨g,rr,none⟩) (.inl rfl) hcl (.slice (some ⟨bn,0,none⟩) Zn.length cn));have NO3:NumsX (fun b=>b≠S/\b≠g/\b≠t) (u2.setCell ⟨g,rr,none⟩ (.slice (some ⟨bn,0,none⟩) Zn.length cn)) (some ⟨bo,offo,none⟩) wd (rAt L1 a):=NO2.move (by simp [World.setCell]) fun b hb hX=>⟨Below.heap_setCell _ _ _ b hX.2.1,hX⟩
         have HG3:=Zh G3;have HJ3:=Zh J3;have HN3:=Zh NO3;have hk2:Keeps [g] wr u2:=Keeps.of_below hB2;clear G2 G3 J2 J3 NO2 NO3 z3 z4 hcl hu2 hB1;refine effc_mem (by rfl) (fun K hK=>?_);go_simp;refine hK _ _ (hk2.set aS _) (fun u3 hu3=>?_);clear hK K;have HG4:=Zh (HG3.out.below hu3);have HJ4:=Zh (HJ.out _ _ _ HJ3.out (ItW.below hu3));have HN4:=Zh (HN3.out.below hu3);clear HG3 HJ3 HN3 hu3 rg fz d1 d2 d3;refine effc_nil ?_
         (try simp only [LN])
         gi_wp2;go_roundw
         case rel=>exact ⟨j+1,aO,by have:=HR.out; go_num,HJ4.out,by rw [HZ.out.2.2]; exact HG4.out,HN4.out⟩
         case measure=>simp [intOf]; omega
        ·have hjM2:j=M:=aO
         subst hjM2;obtain ⟨sE,BE,mE,cE,e1,e2,e3,NE⟩:=hcello c aO;have G7:=HG.out.setBef (s:=sE) (B:=BE) (m:=mE) (c:=cE) (fun b off e=>e3 b off e) NE aO aO htg;have hcl:∃ cs T r,wr.heap[t]?=some (.cells cs T r):=obef.cells;have hcl2:∃ cs T r,(wr.setCell ⟨t,0,none⟩ (.bool sE)).heap[t]?=some (.cells cs T r):=(obef.set 0 _).cells;have J7:=HJ.out _ _ _ (HJ.out _ _ _ HJ1.out (ItW.set (p:=⟨t,0,none⟩) (.inr HT.out) hcl (.bool sE))) (ItW.set (p:=⟨t,1,none⟩) (.inr HT.out) hcl2 (.slice BE mE cE));have HG7:=Zh G7;have hyx:=HY.out pre (c,a) _ J7 aO;clear G7 hcl hcl2 J7 NE e3 hcello NB hBb HNB;obtain ⟨fn,tmps,assign,body,hy,hR⟩:=hyx;simp only at hy hR;gi_wp2_with fail;refine hR.mono ?_;clear hR hy;rintro e W3 ⟨rfl,hJ3,hK3⟩;have G8:=HG7.out.ki hK3 (by rw [hlE]; exact hN0);have HG8:=Zh G8;have HJ3:=Zh hJ3;clear G8 hJ3 hK3 HG7;gi_wp2;go_roundw
         case rel=>exact ⟨c+1,aO,by go_num,by rw [HE.out.1]; go_num,by rw [HE.out.2.1]; exact HJ3.out,by rw [HE.out.1]; exact HG8.out⟩
         case measure=>simp [intOf]; omega
     ·gi_wp2;go_roundw
      case rel=>exact ⟨q+1,aO,aO,rfl,by go_num,fun r h1 h2=>by
       by_cases e:r=q
       ·subst e; exact of_decide_eq_true HOo.out
       ·exact HZ.out r h1 aO,HJ2.out,HG1.out⟩
      case measure=>simp [intOf]; omega
    ·have hqi:¬ (q:Int)<(N:Int):=aO
     gi_wp2;go_roundw
     case rel =>
      have hf:findP L c (L.length - a) a=none:=findP_none fun r h1 h2=>HZ.out r h1 (by rw [HI.out.1] at h2; omega)
      have e1:runB s0 (c+1)=⟨L,b,a⟩:=HD.out.1.trans (stepB_none hf);have e2:leadsB s0 (c+1)=pre:=by rw [HD.out.2.1,hf]; exact List.append_nil _
      exact ⟨c+1,aO,by go_num,by rw [e1],by rw [e2]; exact HJ1.out,by rw [e1]; exact HG.out⟩
     case measure=>simp [intOf]; omega
  ·have hck:c=k:=aO
   subst hck;gi_wp2;simp only [Exit.noGoto_normal];go_end0;have h1:=HG.out.sys;rw [hLN] at h1;exact ⟨⟨_,rfl⟩,HJ1.out,h1,HG.out.rows.imp fun b h=>⟨h.1,h.2.1⟩⟩
end Go.Proofs.YtflgngjocgiojaaGreat
