import Derived.RangeFuncNested
import Derived.RangeFuncBound
import Derived.Test.YtflgngjocgiojaaGreatNumB
set_option linter.all false
namespace Go.Proofs.YtflgngjocgiojaaGreat
set_option maxRecDepth 100000
set_option maxHeartbeats 8000000
open Go.RowKit
attribute [local go_sem] Oper.semAt_some
theorem below_grown {W W':World} (h:Below W.heap.size W W'):W.grownBy W' none:=⟨h.os,h.tape,h.output,h.size,fun k hk _=>h.block k hk⟩
theorem box_own {w:World} {b:Nat} {t:TypeId} {v:Value} (h:Boxed w b t v):Own w b #[v]:=⟨t,h⟩
def OwnT (w:World) (b:Nat) (cs:Array Value) (T:TypeId):Prop:=w.heap[b]?=some (.cells cs T (0,0))
theorem OwnT.own {w:World} {b:Nat} {cs:Array Value} {T:TypeId} (h:OwnT w b cs T):Own w b cs:=⟨T,h⟩
theorem OwnT.new {w:World} {cs:Array Value} {T:TypeId}:OwnT (w.alloc (.cells cs T)) w.heap.size cs T:=heap_alloc_new w _
theorem OwnT.below {w w':World} {b:Nat} {cs:Array Value} {T:TypeId} (h:OwnT w b cs T) (hb:Below w.heap.size w w'):OwnT w' b cs T:=
 (hb.block b h.own.lt).trans h
theorem own_own {b:Nat} {cs:Array Value} {B:Nat}:OwnFrom B (fun (_:Unit) W=>Own W b cs):=fun _ X Y row hs hg hr=>by
 have hl:=hs.lt;obtain ⟨T,hT⟩:=hs;exact ⟨T,(hg.block b hl (fun e=>by obtain ⟨_,o,ho,hc⟩:=hr b e.symm; rw [hT] at ho; cases ho; cases hc)).trans hT⟩
theorem boxed_own' {b:Nat} {t:TypeId} {v:Value} {B:Nat}:OwnFrom B (fun (_:Unit) W=>Boxed W b t v):=fun _ X Y row hs hg hr =>
 (hg.block b hs.lt (fun e=>by obtain ⟨_,o,ho,hc⟩:=hr b e.symm; rw [show X.heap[b]?=_ from hs] at ho; cases ho; cases hc)).trans hs
theorem box_set {W:World} {b:Nat} {t:TypeId} {v:Value} (h:Boxed W b t v) (u:Value):Boxed (W.setCell ⟨b,0,none⟩ u) b t u:=by
 have h1:W.heap[b]?=some (.cells #[v] t (0,0)):=h;show (W.setCell ⟨b,0,none⟩ u).heap[b]?=_;simp [World.setCell,Array.getElem?_modify,h1]
theorem box_put {W:World} {D b:Nat} {t:TypeId} {v:Value} {o:Obj} (h:Boxed W b t v) (hd:b<D):Boxed (W.putObj D o) b t v:=(World.putObj_heap_other aO).trans h
theorem cell_cells {w:World} {b i:Nat} {v:Value} (h:w.cell? ⟨b,i,none⟩=some v):∃ cs T r,w.heap[b]?=some (.cells cs T r):=by
 unfold World.cell? at h;split at h
 ·rename_i c T r e; exact ⟨c,T,r,e⟩
 ·cases h
theorem digs_own {A:Option Addr} {n:Nat} {D:List Nat} {B:Nat}:OwnFrom B (fun (_:Unit) W=>DigsAt W A n D):=fun _ X Y row hs hg hr =>
 ⟨hs.len,hs.dg,fun h1=>by
  obtain ⟨b,off,rfl,hlt,hc⟩:=hs.row h1;obtain ⟨cs,T,r,hbl⟩:=cell_cells (hc 0 h1);have e:=hg.block b hlt (fun e=>by obtain ⟨_,o,ho,hcl⟩:=hr b e.symm; rw [hbl] at ho; cases ho; cases hcl);exact ⟨b,off,rfl,Zl hlt hg.size,fun i hi=>(Zc (w:=X) (a:=⟨b,off+i,none⟩) e).trans (hc i hi)⟩⟩
theorem digs_put {W:World} {A:Option Addr} {n:Nat} {D:List Nat} {l:Nat} {o o':Obj} (h:DigsAt W A n D) (ho:W.heap[l]?=some o) (hc:o.isCells=false):DigsAt (W.putObj l o') A n D:=
 ⟨h.len,h.dg,fun h1=>by
  obtain ⟨b,off,rfl,hlt,hcell⟩:=h.row h1;obtain ⟨cs,T,r,hbl⟩:=cell_cells (hcell 0 h1);have hne:b≠l:=fun e=>by subst e; rw [hbl] at ho; cases ho; cases hc
  have e:(W.putObj l o').heap[b]?=W.heap[b]?:=World.putObj_heap_other aO;exact ⟨b,off,rfl,by simp [World.putObj]; exact hlt,fun i hi=>(Zc (w:=W) (w':=W.putObj l o') (a:=⟨b,off+i,none⟩) e).trans (hcell i hi)⟩⟩
theorem own_put {W:World} {b:Nat} {cs:Array Value} {l:Nat} {o o':Obj} (h:Own W b cs) (ho:W.heap[l]?=some o) (hc:o.isCells=false):Own (W.putObj l o') b cs:=by
 obtain ⟨T,hT⟩:=h;have hne:b≠l:=fun e=>by subst e; rw [hT] at ho; cases ho; cases hc
 exact ⟨T,(World.putObj_heap_other aO).trans hT⟩
theorem later_cell {T:List Nat} {w v:World} {b i:Nat} {x:Value} (hb:b<w.heap.size) (hT:b∉T) (h:w.cell? ⟨b,i,none⟩=some x):∀ y:Later T w v,y.u.cell? ⟨b,i,none⟩=some x:=fun y=>(y.cell b i hb hT).trans h
def dn:Nat->List Nat
 | 0=>[]
 | n+1=>n::dn n
theorem dn_len:∀ N,(dn N).length=N
 | 0=>rfl
 | n+1=>by show (dn n).length+1=n+1; rw [dn_len n]
theorem dn_cut {L:List Nat} {N j:Nat} (h:L++dn (j+1)=dn N):(L++[j])++dn j=dn N:=by
 rw [List.append_assoc]; exact h
theorem dn_pre {L:List Nat} {N k:Nat} (h:L++[k] <+: dn N):∃ j,L++dn (j+1)=dn N/\k=j:=by
 have key:∀ (N:Nat) (L:List Nat),L++[k] <+: dn N->∃ j,L++dn (j+1)=dn N/\k=j:=by
  intro N
  induction N with
  | zero =>
   intro L h;have:=h.length_le;simp [dn] at this
  | succ n ih =>
   intro L h;cases L with
   | nil =>
    obtain ⟨t,ht⟩:=h;have e:k::t=n::dn n:=ht;injection e with e1 e2
    exact ⟨n,rfl,e1⟩
   | cons x L =>
    obtain ⟨t,ht⟩:=h;have e:x::(L++[k]++t)=n::dn n:=ht;injection e with e1 e2
    obtain ⟨j,h1,h2⟩:=ih L ⟨t,e2⟩;refine ⟨j,?_,h2⟩;show x::(L++dn (j+1))=n::dn n;rw [h1,e1]
 exact key N L h
theorem mag_down (A:Option Addr) (n c:Nat) (w:World) :
 Calls Tryz.prog 109 #[.slice A n c] w fun r w'=>r = .returned (.func (.func 132) #[] #[.pointer (some ⟨w.heap.size,0,none⟩)])/\w'=w.alloc (.cells #[.slice A n c] 99):=by
 go_enter Tryz.func109,Tryz.ntmps109;go_wp2;go_ret;exact ⟨rfl,rfl⟩
theorem down1_in {α:Type} (ek ed:α->Nat) (n l Bn N c:Nat) (hn:1<=n) (A:Option Addr) (G:World->Prop)
 (hGB:∀ W,G W->W.cell? ⟨Bn,0,none⟩=some (.slice A N c)) (hGc:∀ W k,G W->k<N->∃ b off x,A=some ⟨b,off,none⟩/\W.cell? ⟨b,off+k,none⟩=some (.int .u32 (ed x:Nat))/\ek x=k)
 (J Jx:List α->World->Prop) (W:World) (hY:∀ pre x W1,J pre W1->pre.length<1000->YieldAt Fence.wide (n - 1) Tryz.prog l #[.int .i64 (ek x:Nat),.int .u32 (ed x:Nat)] W1 fun e W' =>
  (e = .returned (.bool true)/\J (pre++[x]) W'/\(G W1->G W'))\/(e = .returned (.bool false)/\Jx (pre++[x]) W')) (hG0:G W) (hN:N<=1000) (hNc:N<=c) (hc:c<=9223372036854775807) (h0:J [] W) :
 CallsIn Fence.wide n Tryz.prog 132 #[.func (.yield l) #[] #[],.pointer (some ⟨Bn,0,none⟩)] W fun e W'=>(∃ v,e = .returned v) /\
  ((∃ ys,ys.map ek=dn N/\J ys W')\/(∃ pre,pre.map ek <+: dn N/\Jx pre W')):=by
 refine callsIn_of_wp Tryz.func132 rfl trivial ?_ rfl;simp only [Tryz.ntmps132,List.size_toArray,List.length_cons,List.length_nil,Nat.reduceAdd,Nat.reduceSub,Array.replicate_succ,Array.replicate_zero,List.push_toArray,List.append_toArray,List.nil_append,List.cons_append];have HG:=Zh hG0;have H0:=Zh h0;have HGB:=Zh hGB;have HGC:=Zh hGc;have hBc:=hGB W hG0;clear hG0 h0 hGB hGc;gi_wp2;clear hBc;gi_loopw [3] (fun i wr=>∃ (j:Nat) (ys:List α),j<=N/\i = .int .i64 ((j:Int) - 1)/\ys.map ek++dn j=dn N/\J ys wr/\G wr) (fun i _=>(intOf i+1).toNat)
 case atStart=>exact ⟨N,[],Zr _,rfl,rfl,H0.out,HG.out⟩
 case round =>
  clear HG H0;obtain ⟨j,ys,hj,rfl,hys,hJ1,hG1⟩:=hrel;have HYS:=Zh hys;have HJ:=Zh hJ1;have HG:=Zh hG1;have hBc:=HGB.out _ hG1;clear hys hJ1 hG1
  by_cases hj0:j=0
  ·subst hj0;have e:(((0:Nat):Int) - 1)=-1:=rfl;rw [e];gi_wp2;go_end0;exact ⟨⟨_,rfl⟩,.inl ⟨ys,by have:=HYS.out; rw [<- this]; exact (List.append_nil _).symm,HJ.out⟩⟩
  ·obtain ⟨m,hm⟩:∃ m,j=m+1:=⟨j - 1,aO⟩;subst hm;have e:(((m+1:Nat):Int) - 1)=(m:Int):=aO
   rw [e];clear e hj0;have hmN:(m:Int)<(N:Int):=aO
   have hmN2:m<N:=aO
   have hm0:(0:Int)<=(m:Int):=aO
   obtain ⟨b,off,x,hA,hcl,hx⟩:=HGC.out _ m HG.out hmN2;subst hA;have hlen:ys.length<1000:=by
    have:=congrArg List.length HYS.out;rw [List.length_append,List.length_map,dn_len,dn_len] at this;omega
   have hyx:=hY ys x _ HJ.out hlen;rw [hx] at hyx;have HX:=Zh hx;obtain ⟨fn,tmps,assign,body,hy,hR⟩:=hyx;clear hx HJ;gi_wp2_with fail;refine hR.mono ?_;clear hR hy;rintro e W3 (⟨rfl,hJ3,hG3⟩ | ⟨rfl,hJx⟩)
   ·have HJ3:=Zh hJ3;have HG3:=Zh (hG3 HG.out);clear hJ3 hG3;gi_wp2;go_roundw
    case rel=>exact ⟨m,ys++[x],aO,rfl,by rw [List.map_append,List.map_cons,List.map_nil,HX.out]; exact dn_cut HYS.out,HJ3.out,HG3.out⟩
    case measure=>simp [intOf]
   ·have HJX:=Zh hJx;clear hJx;gi_wp2;refine bodyPost_ret (results_none rfl _ _ _) rfl ?_;exact ⟨⟨_,rfl⟩,.inr ⟨ys++[x],by rw [List.map_append,List.map_cons,List.map_nil,HX.out]; exact ⟨dn m,dn_cut HYS.out⟩,HJX.out⟩⟩
theorem down_fix (n Bn N c:Nat) (hn:1<=n) (A:Option Addr) (D:List Nat) (w:World) (hB:Boxed w Bn 99 (.slice A N c)) (hv:DigsAt w A N D) (hN:N<=1000) (hNc:N<=c) (hc:c<=9223372036854775807) :
 SeqStopsK Fence.wide n Tryz.prog 132 #[.pointer (some ⟨Bn,0,none⟩)] (fun x:Fin N=>#[.int .i64 (x.val:Nat),.int .u32 (dAt D x.val:Nat)])
  (fun X Y=>(Boxed X Bn 99 (.slice A N c)/\DigsAt X A N D)->(Boxed Y Bn 99 (.slice A N c)/\DigsAt Y A N D)) (fun ys=>ys.map Fin.val=dn N) (fun pre=>pre.map Fin.val <+: dn N) 1000 w:=fun l J Jx W hW _ _ hY h0 =>
 down1_in (α:=Fin N) Fin.val (fun x=>dAt D x.val) n l Bn N c hn A (fun X=>Boxed X Bn 99 (.slice A N c)/\DigsAt X A N D) (fun X h=>(box_own h.1).cell 0)
  (fun X k h hk=>by
   obtain ⟨b,off,e,hb,hc⟩:=h.2.row aO;exact ⟨b,off,⟨k,hk⟩,e,hc k hk,rfl⟩) J Jx W hY ⟨(hW.block Bn hB.lt).trans hB,hv.below hW⟩ hN hNc hc h0
end Go.Proofs.YtflgngjocgiojaaGreat
namespace Go.Proofs.YtflgngjocgiojaaGreat
set_option maxRecDepth 100000
set_option maxHeartbeats 8000000
open Go.RowKit
attribute [local go_sem] Oper.semAt_some
theorem dn_mem {i:Nat}:∀ {N:Nat},i∈dn N↔i<N
 | 0=>by simp [dn]
 | n+1=>by
  show i∈n::dn n↔_;rw [List.mem_cons,dn_mem]; omega
theorem dAt_drop (D:List Nat) (m i:Nat):dAt (D.drop m) i=dAt D (m+i):=by
 unfold dAt; rw [Ze,Ze,List.getElem?_drop]
theorem eq_of_dAt {D E:List Nat} (hl:D.length=E.length) (h:∀ i,i<D.length->dAt D i=dAt E i):D=E:=by
 apply List.ext_getElem hl;intro i h1 h2;rw [dAt_in,dAt_in]; exact h i h1
theorem vD_split (D:List Nat) (k:Nat) (hk:k<D.length):vD D=vD (D.take k)+4294967296^k*dAt D k+4294967296^(k+1)*vD (D.drop (k+1)):=by
 have e:D=D.take (k+1)++D.drop (k+1):=(List.take_append_drop _ _).symm;have h:=vD_append (D.take (k+1)) (D.drop (k+1));rw [<- e,List.length_take,Nat.min_eq_left hk,vD_take'] at h;exact h
theorem vD_less {D E:List Nat} (gD:Dg D) (hl:D.length=E.length) {k:Nat} (hk:k<D.length) (h:dAt D k<dAt E k) (hh:∀ i,k<i->i<D.length->dAt D i=dAt E i):vD D<vD E:=by
 rw [vD_split D k hk,vD_split E k aO];have e:D.drop (k+1)=E.drop (k+1):=eq_of_dAt (by rw [List.length_drop,List.length_drop,hl]) (fun i hi=>by
  rw [List.length_drop] at hi;rw [dAt_drop,dAt_drop]; exact hh _ aO aO)
 rw [e];have h1:=vD_lt (gD.take k);rw [List.length_take,Nat.min_eq_left aO] at h1;have h2:4294967296^k*dAt D k+4294967296^k<=4294967296^k*dAt E k:=by
  have:=Nat.mul_le_mul_left (4294967296^k) (show dAt D k+1<=dAt E k by omega);rw [Nat.mul_add,Nat.mul_one] at this;exact this
 omega
theorem ordI_lt {a b:Int} (h:a<b):ordI a b=-1:=if_pos h
theorem ordI_gt {a b:Int} (h:b<a):ordI a b=1:=by unfold ordI; rw [if_neg aO,if_pos h]
theorem ordI_eq (a:Int):ordI a a=0:=by unfold ordI; rw [if_neg aO,if_neg aO]
theorem vD_ord {D E:List Nat} (gD:Dg D) (gE:Dg E) (hl:D.length=E.length) {k:Nat} (hk:k<D.length) (h:dAt D k≠dAt E k) (hh:∀ i,k<i->i<D.length->dAt D i=dAt E i):ordI (dAt D k:Nat) (dAt E k:Nat)=ordI (vD D:Nat) (vD E:Nat):=by
 rcases Nat.lt_or_gt_of_ne h with h1 | h1
 ·have:=vD_less gD hl hk h1 hh;rw [ordI_lt aO,ordI_lt aO]
 ·have:=vD_less gE hl.symm aO h1 (fun i a b=>(hh i a aO).symm);rw [ordI_gt aO,ordI_gt aO]
theorem digs_ord {M N:Nat} (h:(digs M).length≠(digs N).length):ordI ((digs M).length:Nat) ((digs N).length:Nat)=ordI (M:Nat) (N:Nat):=by
 rcases Nat.lt_or_gt_of_ne h with h1 | h1
 ·have:=digs_lt h1;rw [ordI_lt aO,ordI_lt aO]
 ·have:=digs_lt h1;rw [ordI_gt aO,ordI_gt aO]
theorem isNaN_int (x:Int) (w:World):Calls Tryz.prog 134 #[.int .i64 x] w fun e w'=>e = .returned (.bool false)/\w=w':=by
 go_enter Tryz.func134,Tryz.ntmps134;go_wp2;go_ret;exact ⟨rfl,rfl⟩
theorem isNaN_u32 (x:Int) (w:World):Calls Tryz.prog 135 #[.int .u32 x] w fun e w'=>e = .returned (.bool false)/\w=w':=by
 go_enter Tryz.func135,Tryz.ntmps135;go_wp2;go_ret;exact ⟨rfl,rfl⟩
theorem cmp_int (x y:Int) (w:World):Calls Tryz.prog 111 #[.int .i64 x,.int .i64 y] w fun e w'=>e = .returned (.int .i64 (ordI x y))/\w=w':=by
 go_enter Tryz.func111,Tryz.ntmps111;rcases Int.lt_trichotomy x y with h | h | h
 ·rw [ordI_lt h];go_wp2_with fail;refine Zd (isNaN_int _ _) ?_;rintro e w1 ⟨rfl,rfl⟩;go_wp2_with fail;refine Zd (isNaN_int _ _) ?_;rintro e w1 ⟨rfl,rfl⟩;go_wp2;go_ret;exact ⟨rfl,rfl⟩
 ·subst h;rw [ordI_eq];go_wp2_with fail;refine Zd (isNaN_int _ _) ?_;rintro e w1 ⟨rfl,rfl⟩;go_wp2_with fail;refine Zd (isNaN_int _ _) ?_;rintro e w1 ⟨rfl,rfl⟩;go_wp2;go_ret;exact ⟨rfl,rfl⟩
 ·rw [ordI_gt h];go_wp2_with fail;refine Zd (isNaN_int _ _) ?_;rintro e w1 ⟨rfl,rfl⟩;go_wp2_with fail;refine Zd (isNaN_int _ _) ?_;rintro e w1 ⟨rfl,rfl⟩;go_wp2;go_ret;exact ⟨rfl,rfl⟩
theorem cmp_u32 (x y:Int) (w:World):Calls Tryz.prog 112 #[.int .u32 x,.int .u32 y] w fun e w'=>e = .returned (.int .i64 (ordI x y))/\w=w':=by
 go_enter Tryz.func112,Tryz.ntmps112;rcases Int.lt_trichotomy x y with h | h | h
 ·rw [ordI_lt h];go_wp2_with fail;refine Zd (isNaN_u32 _ _) ?_;rintro e w1 ⟨rfl,rfl⟩;go_wp2_with fail;refine Zd (isNaN_u32 _ _) ?_;rintro e w1 ⟨rfl,rfl⟩;go_wp2;go_ret;exact ⟨rfl,rfl⟩
 ·subst h;rw [ordI_eq];go_wp2_with fail;refine Zd (isNaN_u32 _ _) ?_;rintro e w1 ⟨rfl,rfl⟩;go_wp2_with fail;refine Zd (isNaN_u32 _ _) ?_;rintro e w1 ⟨rfl,rfl⟩;go_wp2;go_ret;exact ⟨rfl,rfl⟩
 ·rw [ordI_gt h];go_wp2_with fail;refine Zd (isNaN_u32 _ _) ?_;rintro e w1 ⟨rfl,rfl⟩;go_wp2_with fail;refine Zd (isNaN_u32 _ _) ?_;rintro e w1 ⟨rfl,rfl⟩;go_wp2;go_ret;exact ⟨rfl,rfl⟩
theorem mag_compare {w:World} {A1 A2:Option Addr} {n1 n2 M1 M2:Nat} (c1 c2:Nat) (h1:DigsAt w A1 n1 (digs M1)) (h2:DigsAt w A2 n2 (digs M2)) (hm:n1<=1000) (hm2:n2<=1000) (hc1:n1<=c1) (hc2:c1<=9223372036854775807) :
 Calls Tryz.prog 70 #[.slice A1 n1 c1,.slice A2 n2 c2] w fun r w'=>r = .returned (.int .i64 (ordI (M1:Nat) (M2:Nat)))/\Below w.heap.size w w':=by
 obtain ⟨o,ho⟩:=Zx (ordI (M1:Nat) (M2:Nat));rw [ho];have hl1:=h1.len;have hl2:=h2.len;have H1:=Zh h1;have H2:=Zh h2;have HO:=Zh ho;have HL:=Zh (Zi hl1 hl2);clear h1 h2 ho hl1 hl2;refine (callsIn_wide (n:=5)).1 ?_;refine callsIn_of_wp_marks Tryz.func70 rfl trivial ?_ rfl;simp only [Tryz.ntmps70,List.size_toArray,List.length_cons,List.length_nil,Nat.reduceAdd,Nat.reduceSub,Array.replicate_succ,Array.replicate_zero,List.push_toArray,List.append_toArray,List.nil_append,List.cons_append]
 by_cases hne:n1=n2
 ·subst hne;gi_wp2_with fail;refine ⟨trivial,(callsIn_wide.2 (mag_down A1 n1 c1 _)).mono ?_⟩;rintro e w2 ⟨rfl,rfl⟩;gi_wp2;have bL:=((Boxed.new w 99 (.slice A2 n1 c2)).alloc (.cells #[.int .i64 0] 3)).alloc (.cells #[.slice A1 n1 c1] 99);have bR:=(Boxed.new (w.alloc (.cells #[.slice A2 n1 c2] 99)) 3 (.int .i64 0)).alloc (.cells #[.slice A1 n1 c1] 99);have bN:=Boxed.new ((w.alloc (.cells #[.slice A2 n1 c2] 99)).alloc (.cells #[.int .i64 0] 3)) 99 (.slice A1 n1 c1);simp only [World.size_alloc] at bR bN;have hB0:Below w.heap.size w (((w.alloc (.cells #[.slice A2 n1 c2] 99)).alloc (.cells #[.int .i64 0] 3)).alloc (.cells #[.slice A1 n1 c1] 99)):=(((Zb _ _).alloc (Zr _) _).alloc aS _).alloc aT _;have hsz:(((w.alloc (.cells #[.slice A2 n1 c2] 99)).alloc (.cells #[.int .i64 0] 3)).alloc (.cells #[.slice A1 n1 c1] 99)).heap.size=w.heap.size+1+1+1:=aS
  have hv1:=H1.out.below hB0;have hv2:=H2.out.below hB0;generalize (((w.alloc (.cells #[.slice A2 n1 c2] 99)).alloc (.cells #[.int .i64 0] 3)).alloc (.cells #[.slice A1 n1 c1] 99))=W0 at *;have hseq:=down_fix (5 - 1) (w.heap.size+1+1) n1 c1 aO A1 (digs M1) W0 bN hv1 hm hc1 hc2;clear H1 H2;refine wpIn_rangeFunc_ownH rfl aO (gf:=132) (lb:=#[.pointer (some ⟨w.heap.size+1+1,0,none⟩)]) rfl trivial (enters_of Tryz.func132 aK rfl)
   hseq (fun h k x=>k (h x)) (fun W l o o' hl ho hc _ h=>⟨box_put h.1 aO,digs_put h.2 ho hc⟩) (Zb _ _) (fun _=>rfl)
   (fun pre W=>(∀ x∈pre,dAt (digs M1) x.val=dAt (digs M2) x.val)/\Boxed W w.heap.size 99 (.slice A2 n1 c2)/\Boxed W (w.heap.size+1) 3 (.int .i64 0)/\DigsAt W A2 n1 (digs M2)/\Below w.heap.size w W)
   (fun cd pre W=>cd = .ret/\∃ pre' x,pre=pre'++[x]/\(∀ x∈pre',dAt (digs M1) x.val=dAt (digs M2) x.val)/\dAt (digs M1) x.val≠dAt (digs M2) x.val/\Boxed W (w.heap.size+1) 3 (.int .i64 (ordI (dAt (digs M1) x.val:Nat) (dAt (digs M2) x.val:Nat)))/\Below w.heap.size w W)
   (fun _ _ _ _ ⟨h1,h2,h3,h4,h5⟩ hg hr=>⟨h1,boxed_own' () _ _ _ h2 hg hr,boxed_own' () _ _ _ h3 hg hr,digs_own () _ _ _ h4 hg hr,ownFrom_below (Zr _) aO () _ _ _ h5 hg hr⟩)
   (fun _ _ _ _ _ ⟨h1,p',x,h2,h3,h4,h5,h6⟩ hg hr=>⟨h1,p',x,h2,h3,h4,boxed_own' () _ _ _ h5 hg hr,ownFrom_below (Zr _) aO () _ _ _ h6 hg hr⟩)
   ⟨fun x hx=>by (cases hx),bL,bR,hv2,hB0⟩
   (fun x a' W=>a'={ tmps:=#[.slice A1 n1 c1,.slice A2 n1 c2,undef,.pointer (some ⟨w.heap.size,0,none⟩),.pointer (some ⟨w.heap.size+1,0,none⟩),.int .i64 (x.val:Nat),.int .u32 (dAt (digs M1) x.val:Nat),.slice A1 n1 c1,.int .i64 (n1:Nat),.slice A2 n1 c2,.int .i64 (n1:Nat),.bool false,undef,undef,undef,undef,undef,.slice A1 n1 c1,.func (.func 132) #[] #[.pointer (some ⟨w.heap.size+1+1,0,none⟩)],.int .i64 (x.val:Nat),.int .u32 (dAt (digs M1) x.val:Nat),undef,undef,undef,undef,undef,undef,undef,undef,undef,undef,undef,undef],defers:=[] })
   (fun x a' _ X Y row hs hg hr=>hs)
   ?assign ?body ?done ?stop
  case assign =>
   rintro l pre x W K ⟨h1,h2,h3,h4,h5⟩ hK;gi_wp2;exact hK _ _ ((KeepsOthers.refl _).from _) (fun h=>h) ⟨h1,h2,h3,h4,h5⟩ rfl
  case body =>
   rintro l pre x a' W hl ⟨r,hr⟩ ⟨h1,h2,h3,h4,h5⟩ rfl hlt;have hc2:=(box_own h2).cell;have hc3:=(box_own h3).cell;have hc4:=(box_own h3).thaw;have HH1:=Zh h1;have hxl:=x.isLt;have hxi:(x.val:Int)<(n1:Int):=aO
   obtain ⟨d,hd⟩:=Zx (dAt (digs M1) x.val);obtain ⟨e,he⟩:=Zx (dAt (digs M2) x.val);obtain ⟨b,off,hA,hb,a2⟩:=h4.cells hxl he;subst hA;rw [hd];have HD:=Zh (Zi hd he);clear h1 hd he
   by_cases hde:d=e
   ·subst hde;gi_wp2;refine ⟨(KeepsOthers.refl _).from _,(fun h=>h),?_,h2,h3,h4,h5⟩;intro y hy;rcases List.mem_append.1 hy with h | h
    ·exact HH1.out y h
    ·rw [List.mem_singleton] at h;rw [h,HD.out.1,HD.out.2]
   ·have hdei:¬ (d:Int)=(e:Int):=aO
    gi_wp2_with fail;refine ⟨trivial,(CallsIn.inRound l (callsIn_wide.2 (cmp_u32 _ _ _))).mono ?_⟩;rintro e' W3 ⟨rfl,rfl⟩;gi_wp2;refine ⟨(KeepsOthers.setCell _ _ _).from _,rfl,pre,x,rfl,HH1.out,?_,?_,h5.setCell aS _⟩
    ·rw [HD.out.1,HD.out.2]; exact hde
    ·rw [HD.out.1,HD.out.2]; exact box_set h3 _
  case done =>
   rintro D ys W hD hys ⟨h1,h2,h3,h4,h5⟩ hK;have hc3:=(box_own h3).cell;have hc4:=(box_own h3).thaw;have heq:M1=M2:=by
    have e:digs M1=digs M2:=eq_of_dAt (by rw [HL.out.1,HL.out.2]) (fun i hi=>by
     rw [HL.out.1] at hi;have hm:i∈ys.map Fin.val:=by rw [hys]; exact dn_mem.2 hi
     obtain ⟨y,hy,rfl⟩:=List.mem_map.1 hm;exact h1 y hy)
    rw [<- digs_val M1,e,digs_val]
   have ho:o=0:=by rw [<- HO.out,heq,ordI_eq]
   subst ho;gi_wp2;have hK2:=(KeepsOthers.setCell W ⟨w.heap.size+1,0,none⟩ (.int .i64 0)).same D _ hK rfl;have hbx:=(box_own (box_put (D:=D) (o:= .deferred none) (box_set h3 (.int .i64 0)) aO)).cell;refine ⟨aS,.inl ⟨_,_,rfl,run_takeDeferred hK2,?_⟩⟩;exact ⟨.int .i64 0,by simp [results,Tryz.results70,go_sem,hbx],rfl,(h5.setCell aS _).trans (belowK_b (w:=w) (Zr _) _ D _ _ aO hK2 rfl rfl)⟩
  case stop =>
   rintro D cd pre W hD hpre ⟨rfl,pre',x,rfl,h1,h2,h3,h4⟩ hK;have ho:ordI (dAt (digs M1) x.val:Nat) (dAt (digs M2) x.val:Nat)=o:=by
    rw [List.map_append,List.map_cons,List.map_nil] at hpre;obtain ⟨j,hj,hxj⟩:=dn_pre hpre;have:=vD_ord (digs_dg M1) (digs_dg M2) (by rw [HL.out.1,HL.out.2]) (by rw [HL.out.1]; exact x.isLt) h2 (fun i hi hil=>by
     rw [HL.out.1] at hil;have hm:i∈pre'.map Fin.val++dn (j+1):=by rw [hj]; exact dn_mem.2 hil
     rcases List.mem_append.1 hm with h | h
     ·obtain ⟨y,hy,rfl⟩:=List.mem_map.1 h;exact h1 y hy
     ·have:=dn_mem.1 h; omega)
    rw [digs_val,digs_val] at this;rw [this];exact HO.out
   gi_wp2;have hbx:=(box_own (box_put (D:=D) (o:= .deferred none) h3 aO)).cell;refine ⟨aS,.inl ⟨_,_,rfl,run_takeDeferred hK,?_⟩⟩;rw [ho] at hbx;exact ⟨.int .i64 o,by simp [results,Tryz.results70,go_sem,hbx],rfl,h4.trans (belowK_b (w:=w) (Zr _) W D _ _ aO hK rfl rfl)⟩
 ·have hnei:¬ (n1:Int)=(n2:Int):=aO
  have hcmp:ordI (n1:Int) (n2:Int)=o:=by
   have:=digs_ord (M:=M1) (N:=M2) (by rw [HL.out.1,HL.out.2]; exact hne);rw [HL.out.1,HL.out.2] at this;exact this.trans HO.out
  have HC:=Zh (congrArg (Value.int IntKind.i64) hcmp);clear hcmp;gi_wp2_with fail;refine ⟨trivial,(callsIn_wide.2 (callv (cmp_int _ _ _) HC.out)).mono ?_⟩;rintro e w2 ⟨rfl,rfl⟩;gi_wp2;exact ⟨.int .i64 o,by simp [results,Tryz.results70,go_sem],rfl,((Zb _ _).alloc (Zr _) _).alloc aS _⟩
end Go.Proofs.YtflgngjocgiojaaGreat
namespace Go.Proofs.YtflgngjocgiojaaGreat
set_option maxRecDepth 100000
set_option maxHeartbeats 8000000
open Go.RowKit
attribute [local go_sem] Oper.semAt_some
theorem drop_dAt {D:List Nat} {j:Nat} (h:j<D.length):D.drop j=dAt D j::D.drop (j+1):=by
 rw [List.drop_eq_getElem_cons h,dAt_in h]
theorem dn_step {L:List Nat} {N k j:Nat} (h:(L++[k])++dn j=dn N):L++dn (j+1)=dn N/\k=j/\j<N:=by
 obtain ⟨i,h1,h2⟩:=dn_pre (L:=L) (N:=N) (k:=k) ⟨dn j,h⟩;have l1:=congrArg List.length h;have l2:=congrArg List.length h1;rw [List.length_append,List.length_append,dn_len,dn_len] at l1;rw [List.length_append,dn_len,dn_len] at l2;have e:([k]:List Nat).length=1:=rfl;obtain rfl:i=j:=aO
 exact ⟨h1,h2,aO⟩
theorem DigsAt.far {w:World} {A:Option Addr} {n:Nat} {D:List Nat} (h:DigsAt w A n D) {p:Addr} (hp:∀ b off,A=some ⟨b,off,none⟩->0<n->b≠p.block) (v:Value):DigsAt (w.setCell p v) A n D:=
 ⟨h.len,h.dg,fun h1=>by
  obtain ⟨b,off,rfl,hlt,hc⟩:=h.row h1;have e:=Below.heap_setCell w p v b (hp b off rfl h1);exact ⟨b,off,rfl,by simp [World.setCell]; exact hlt,fun i hi=>(Zc (w:=w) (a:=⟨b,off+i,none⟩) e).trans (hc i hi)⟩⟩
theorem DigsAt.under {w:World} {A:Option Addr} {n:Nat} {D:List Nat} (h:DigsAt w A n D):∀ b off,A=some ⟨b,off,none⟩->0<n->b<w.heap.size:=fun b off e h1=>by
 obtain ⟨b',off',e',hlt,_⟩:=h.row h1;rw [e] at e'; cases e'; exact hlt
theorem mag_word {w:World} {A:Option Addr} {n:Nat} {D:List Nat} (c:Nat) (hv:DigsAt w A n D) (hn:n<=2) (hc1:n<=c) (hc2:c<=9223372036854775807) :
 Calls Tryz.prog 68 #[.slice A n c] w fun r w'=>r = .returned (.int .u64 (vD D:Nat))/\Below w.heap.size w w':=by
 obtain ⟨o,ho⟩:=Zx (vD D);rw [ho];have hl:=hv.len;have HV:=Zh hv;have HO:=Zh ho;have HA:=Zh hv.under;have HL:=Zh hl;clear hv ho hl;refine (callsIn_wide (n:=5)).1 ?_;refine callsIn_of_wp_marks Tryz.func68 rfl trivial ?_ rfl;simp only [Tryz.ntmps68,List.size_toArray,List.length_cons,List.length_nil,Nat.reduceAdd,Nat.reduceSub,Array.replicate_succ,Array.replicate_zero,List.push_toArray,List.append_toArray,List.nil_append,List.cons_append];gi_wp2_with fail;refine ⟨trivial,(callsIn_wide.2 (mag_down A n c _)).mono ?_⟩;rintro e w2 ⟨rfl,rfl⟩;gi_wp2;have bR:=(Boxed.new w 96 (.int .u64 0)).alloc (.cells #[.slice A n c] 99);have bN:=Boxed.new (w.alloc (.cells #[.int .u64 0] 96)) 99 (.slice A n c);simp only [World.size_alloc] at bR bN;have hB0:Below w.heap.size w ((w.alloc (.cells #[.int .u64 0] 96)).alloc (.cells #[.slice A n c] 99)):=((Zb _ _).alloc (Zr _) _).alloc aS _;have hsz:((w.alloc (.cells #[.int .u64 0] 96)).alloc (.cells #[.slice A n c] 99)).heap.size=w.heap.size+1+1:=aS
 have hv1:=HV.out.below hB0;generalize ((w.alloc (.cells #[.int .u64 0] 96)).alloc (.cells #[.slice A n c] 99))=W0 at *;have hdg:=hv1.dg;have hseq:=down_fix (5 - 1) (w.heap.size+1) n c aO A D W0 bN hv1 aO hc1 hc2;clear HV;refine wpIn_rangeFunc_ownH rfl aO (gf:=132) (lb:=#[.pointer (some ⟨w.heap.size+1,0,none⟩)]) rfl trivial (enters_of Tryz.func132 aK rfl)
  hseq (fun h k x=>k (h x)) (fun W l o o' hl ho hc _ h=>⟨box_put h.1 aO,digs_put h.2 ho hc⟩) (Zb _ _) (fun _=>rfl)
  (fun pre W=>∃ z:Int,Boxed W w.heap.size 96 (.int .u64 z)/\(∀ j,pre.map Fin.val++dn j=dn n->z=(vD (D.drop j):Nat))/\Boxed W (w.heap.size+1) 99 (.slice A n c)/\DigsAt W A n D/\Below w.heap.size w W)
  (fun _ _ _=>False)
  (fun _ _ _ _ ⟨z,h2,h3,h4,h5,h6⟩ hg hr=>⟨z,boxed_own' () _ _ _ h2 hg hr,h3,boxed_own' () _ _ _ h4 hg hr,digs_own () _ _ _ h5 hg hr,ownFrom_below (Zr _) aO () _ _ _ h6 hg hr⟩)
  (fun _ _ _ _ _ h _ _=>h)
  ⟨0,bR,(fun j hj=>by
   have e:j=n:=by
    have:=congrArg List.length hj;rw [List.map_nil,List.nil_append,dn_len,dn_len] at this;exact this
   rw [e,List.drop_of_length_le (by rw [HL.out]; exact Zr _)]; rfl),bN,hv1,hB0⟩
  (fun x a' W=>a'={ tmps:=#[.slice A n c,undef,.int .u64 0,.pointer (some ⟨w.heap.size,0,none⟩),undef,.int .u32 (dAt D x.val:Nat),.slice A n c,.func (.func 132) #[] #[.pointer (some ⟨w.heap.size+1,0,none⟩)],.int .i64 (x.val:Nat),.int .u32 (dAt D x.val:Nat),undef,undef,undef,undef,undef,undef],defers:=[] })
  (fun x a' _ X Y row hs hg hr=>hs)
  ?assign ?body ?done ?stop
 case assign =>
  rintro l pre x W K ⟨z,h2,h3,h4,h5,h6⟩ hK;gi_wp2;exact hK _ _ ((KeepsOthers.refl _).from _) (fun h=>h) ⟨z,h2,h3,h4,h5,h6⟩ rfl
 case body =>
  rintro l pre x a' W hl ⟨r,hr⟩ ⟨z,h2,h3,h4,h5,h6⟩ rfl hlt;have hc2:=(box_own h2).cell;have hc4:=(box_own h2).thaw;have HH:=Zh h3;obtain ⟨d,hd⟩:=Zx (dAt D x.val);have hd1:d<4294967296:=by rw [<- hd]; exact hdg.at_ _
  rw [hd];have HD:=Zh hd;clear h3 hd;gi_wp2;have hfar:∀ b off,A=some ⟨b,off,none⟩->0<n->b≠w.heap.size:=fun b off e h1=>by have:=HA.out b off e h1; omega
  refine ⟨(KeepsOthers.setCell _ _ _).from _,(fun h=>⟨h.1.other aO _,h.2.far hfar _⟩),_,box_set h2 _,?_,h4.other aO _,h5.far hfar _,h6.setCell (Zr _) _⟩;intro j hj;rw [List.map_append,List.map_cons,List.map_nil] at hj;obtain ⟨j1,j2,j3⟩:=dn_step hj;have hz:=HH.out (j+1) j1;have hlen:(D.drop (j+1)).length<=1:=by rw [List.length_drop,HL.out]; omega
  have hlt:=vD_lt (D:=D.drop (j+1)) (fun d hd=>hdg d (List.mem_of_mem_drop hd));have hpow:=Nat.pow_le_pow_right (n:=4294967296) aO hlen;rw [drop_dAt (by rw [HL.out]; exact j3),vD_cons,<- j2,HD.out,hz,j2];generalize vD (D.drop (j+1))=v at *;have hv:v<4294967296:=aO
  have e1:IntKind.u64.wrap ((v:Int)*4294967296)=(v:Int)*4294967296:=by rw [IntKind.wrap_u64]; omega
  rw [e1,or64 hv hd1];omega
 case done =>
  rintro D' ys W hD hys ⟨z,h2,h3,h4,h5,h6⟩ hK;have hc3:=(box_own h2).cell;have hz:z=(o:Int):=by
   have:=h3 0 (by rw [hys]; exact List.append_nil _);rw [this,List.drop_zero,HO.out]
  subst hz;gi_wp2;refine ⟨aS,.inl ⟨_,_,rfl,run_takeDeferred hK,?_⟩⟩;exact ⟨.int .u64 o,by simp [results,Tryz.results68,go_sem],rfl,h6.trans (belowK_b (w:=w) (Zr _) _ D' _ _ aO hK rfl rfl)⟩
 case stop =>
  rintro D' cd pre W hD hpre hf hK;exact hf.elim
end Go.Proofs.YtflgngjocgiojaaGreat
