import Derived.Test.YtflolbnnkbdmfaaGreatPlcW0
set_option linter.all false
namespace Go.Proofs.YtflolbnnkbdmfaaGreat
open Go.RowKit
section
variable {P:Program} {ops:Array Oper} {C:World->Prop} {R:Act->Prop}
theorem quiet_load {o:Oper} {os:List Oper} {a:Act} (ty:TypeId) (x:Operand) (ho:o.op = .load ty x) (hw:Region.wanted o (yielded ops a.tmps)=true) (b off:Nat) (vs:List Value) (d:TypeDesc) (hx:a.eval x = .pointer (some ⟨b,off,none⟩))
 (hr:∀ u,C u->u.rangeAt b off vs) (hu:P.underlying ty=some d) (hd:d.isRow=true) (hi:(P.info? ty).map (·.size)=some vs.length) (h:wpQuiet P ops C R os (a.put o.dst (.agg vs.toArray))):wpQuiet P ops C R (o::os) a:=by
 unfold wpQuiet;rw [if_pos hw];refine ⟨_,fun u hu'=>?_,h⟩;unfold Oper.quietAt execOp;simp only [ho,hx,Sem.run_bind,Sem.run_pure,run_loadAt_mid u b off ty vs d (hr u hu') hu hd hi,Result.andThen_ok,Oper.quietUpon];exact ⟨trivial,trivial⟩
end
theorem Own.range {w:World} {b:Nat} {cs:Array Value} (h:Own w b cs):w.rangeAt b 0 cs.toList:=fun j v hv=>by
 rw [Nat.zero_add,h.cell j];simpa using hv
noncomputable def sb (k:Nat×Nat):Nat->Nat
 | 0=>k.1
 | 1=>(dec k.2).1
 | 2=>(dec (dec k.2).2).1
 | 3=>(dec (dec (dec k.2).2).2).1
 | 4=>(dec (dec (dec (dec k.2).2).2).2).1
 | _=>(dec (dec (dec (dec k.2).2).2).2).2
def sc (a b c d e f:Nat):Nat×Nat:=(a,code b (code c (code d (code e f))))
theorem sb_sc (a b c d e f:Nat):sb (sc a b c d e f) 0=a/\sb (sc a b c d e f) 1=b/\sb (sc a b c d e f) 2=c/\sb (sc a b c d e f) 3=d/\sb (sc a b c d e f) 4=e/\sb (sc a b c d e f) 5=f:=by
 unfold sc sb;simp only [dec_code,and_self]
noncomputable def shB (B:Nat) (q:Nat->QI):EBS [] where
 val k:= .tuple #[.agg #[.bool (sgnN (q 0).1),slN (q 0).1 (sb k 0),.bool (sgnN (q 0).2),slN (q 0).2 (sb k 1),.bool (sgnN (q 1).1),slN (q 1).1 (sb k 2),.bool (sgnN (q 1).2),slN (q 1).2 (sb k 3),.bool (sgnN (q 2).1),slN (q 2).1 (sb k 4),.bool (sgnN (q 2).2),slN (q 2).2 (sb k 5)],.bool true]
 R k u:=(NumO u (sb k 0) (q 0).1/\NumO u (sb k 1) (q 0).2/\NumO u (sb k 2) (q 1).1/\NumO u (sb k 3) (q 1).2/\NumO u (sb k 4) (q 2).1/\NumO u (sb k 5) (q 2).2)/\∀ j,0<j->j<6->B<=sb k j/\sb k j<u.heap.size
 st _ _ _ h k:=⟨⟨fun h1 h2=>(h.1.1 h1 h2).upd k aS,fun h1 h2=>(h.1.2.1 h1 h2).upd k aS,fun h1 h2=>(h.1.2.2.1 h1 h2).upd k aS,fun h1 h2=>(h.1.2.2.2.1 h1 h2).upd k aS,fun h1 h2=>(h.1.2.2.2.2.1 h1 h2).upd k aS,fun h1 h2=>(h.1.2.2.2.2.2 h1 h2).upd k aS⟩,fun j h1 h2=>⟨(h.2 j h1 h2).1,Zl (h.2 j h1 h2).2 k.size⟩⟩
theorem shB_val {B:Nat} {q:Nat->QI} {k:Nat×Nat}:(shB B q).val k = .tuple #[.agg #[.bool (sgnN (q 0).1),slN (q 0).1 (sb k 0),.bool (sgnN (q 0).2),slN (q 0).2 (sb k 1),.bool (sgnN (q 1).1),slN (q 1).1 (sb k 2),.bool (sgnN (q 1).2),slN (q 1).2 (sb k 3),.bool (sgnN (q 2).1),slN (q 2).1 (sb k 4),.bool (sgnN (q 2).2),slN (q 2).2 (sb k 5)],.bool true]:=rfl
theorem sh_make {x:Nat->QI} {v:V3} {u wx:World} {e:Ending} {B:Nat} (h:shiftB x v u e wx) (hB:B<=u.heap.size):∃ w'' ,e = .returned w''/\∃ p,w''=(shB B (shiftQ x v)).val p/\u.heap.size<=p.1/\p.1<wx.heap.size/\Below u.heap.size u wx/\(shB B (shiftQ x v)).R p wx:=by
 obtain ⟨⟨b0,b1,b2,b3,b4,b5,rfl,h1,⟨a0,a0'⟩,⟨a1,a1'⟩,⟨a2,a2'⟩,⟨a3,a3'⟩,⟨a4,a4'⟩,a5,a5'⟩,hb⟩:=h;obtain ⟨e0,e1,e2,e3,e4,e5⟩:=sb_sc b0 b1 b2 b3 b4 b5;refine ⟨_,rfl,sc b0 b1 b2 b3 b4 b5,?_,a0,a0',hb,?_⟩
 ·rw [shB_val,e0,e1,e2,e3,e4,e5]
 ·show (NumO wx (sb (sc b0 b1 b2 b3 b4 b5) 0) (shiftQ x v 0).1/\NumO wx (sb (sc b0 b1 b2 b3 b4 b5) 1) (shiftQ x v 0).2/\NumO wx (sb (sc b0 b1 b2 b3 b4 b5) 2) (shiftQ x v 1).1/\NumO wx (sb (sc b0 b1 b2 b3 b4 b5) 3) (shiftQ x v 1).2/\NumO wx (sb (sc b0 b1 b2 b3 b4 b5) 4) (shiftQ x v 2).1/\NumO wx (sb (sc b0 b1 b2 b3 b4 b5) 5) (shiftQ x v 2).2)/\∀ j,0<j->j<6->B<=sb (sc b0 b1 b2 b3 b4 b5) j/\sb (sc b0 b1 b2 b3 b4 b5) j<wx.heap.size;refine ⟨by rw [e0,e1,e2,e3,e4,e5]; exact h1,fun j h2 h3=>?_⟩;rcases (show j=1\/j=2\/j=3\/j=4\/j=5 by omega) with rfl | rfl | rfl | rfl | rfl
  ·rw [e1]; omega
  ·rw [e2]; omega
  ·rw [e3]; omega
  ·rw [e4]; omega
  ·rw [e5]; omega
theorem sh_left {B:Nat} {q:Nat->QI} {k:Nat×Nat} {u:World} (h:(shB B q).R k u) (hq:∀ i,i<3->SmQ (q i)):∃ (x0 y0:Bool) (X0 Y0:Option Addr) (p0 q0 u0' z0:Nat) (x1 y1:Bool) (X1 Y1:Option Addr) (p1 q1 u1' z1:Nat) (x2 y2:Bool) (X2 Y2:Option Addr) (p2 q2 u2' z2:Nat),(slN (q 0).1 (sb k 0) = .slice X0 p0 q0/\slN (q 0).2 (sb k 1) = .slice Y0 u0' z0/\slN (q 1).1 (sb k 2) = .slice X1 p1 q1/\slN (q 1).2 (sb k 3) = .slice Y1 u1' z1/\slN (q 2).1 (sb k 4) = .slice X2 p2 q2/\slN (q 2).2 (sb k 5) = .slice Y2 u2' z2)/\(sgnN (q 0).1=x0/\sgnN (q 0).2=y0/\sgnN (q 1).1=x1/\sgnN (q 1).2=y1/\sgnN (q 2).1=x2/\sgnN (q 2).2=y2) /\
 RatAt u (.agg #[.bool x0,.slice X0 p0 q0,.bool y0,.slice Y0 u0' z0]) (q 0).1 (q 0).2/\RatAt u (.agg #[.bool x1,.slice X1 p1 q1,.bool y1,.slice Y1 u1' z1]) (q 1).1 (q 1).2/\RatAt u (.agg #[.bool x2,.slice X2 p2 q2,.bool y2,.slice Y2 u2' z2]) (q 2).1 (q 2).2:=by
 obtain ⟨⟨n0,n1,n2,n3,n4,n5⟩,_⟩:(NumO u (sb k 0) (q 0).1/\NumO u (sb k 1) (q 0).2/\NumO u (sb k 2) (q 1).1/\NumO u (sb k 3) (q 1).2/\NumO u (sb k 4) (q 2).1/\NumO u (sb k 5) (q 2).2)/\∀ j,0<j->j<6->B<=sb k j/\sb k j<u.heap.size:=h;obtain ⟨A0,m0,c0,e0⟩:=slN_form (q 0).1 (sb k 0);obtain ⟨A1,m1,c1,e1⟩:=slN_form (q 0).2 (sb k 1);obtain ⟨A2,m2,c2,e2⟩:=slN_form (q 1).1 (sb k 2);obtain ⟨A3,m3,c3,e3⟩:=slN_form (q 1).2 (sb k 3);obtain ⟨A4,m4,c4,e4⟩:=slN_form (q 2).1 (sb k 4);obtain ⟨A5,m5,c5,e5⟩:=slN_form (q 2).2 (sb k 5);have r0:=ratAt_of n0 n1 (hq 0 aO).fit.1 (hq 0 aO).fit.2.1;rw [e0,e1] at r0;have r1:=ratAt_of n2 n3 (hq 1 aO).fit.1 (hq 1 aO).fit.2.1;rw [e2,e3] at r1;have r2:=ratAt_of n4 n5 (hq 2 aO).fit.1 (hq 2 aO).fit.2.1;rw [e4,e5] at r2;exact ⟨sgnN (q 0).1,sgnN (q 0).2,A0,A1,m0,c0,m1,c1,sgnN (q 1).1,sgnN (q 1).2,A2,A3,m2,c2,m3,c3,sgnN (q 2).1,sgnN (q 2).2,A4,A5,m4,c4,m5,c5,⟨e0,e1,e2,e3,e4,e5⟩,⟨rfl,rfl,rfl,rfl,rfl,rfl⟩,r0,r1,r2⟩
def chL (L:List Loc) (f g:Nat->Int):List Loc:=(List.range 6).map fun k=>⟨(lAt L k).p,(lAt L k).n,f k,g k⟩
theorem chL_len (L:List Loc) (f g:Nat->Int):(chL L f g).length=6:=by unfold chL; simp
theorem chL_at (L:List Loc) (f g:Nat->Int) {k:Nat} (hk:k<6):lAt (chL L f g) k=⟨(lAt L k).p,(lAt L k).n,f k,g k⟩:=by
 unfold chL;rcases (show k=0\/k=1\/k=2\/k=3\/k=4\/k=5 by omega) with rfl | rfl | rfl | rfl | rfl | rfl <;> rfl
theorem list_lAt:∀ {L:List Loc},L.length=6->L=(List.range 6).map (lAt L)
 | [a,b,c,d,e,f],_=>rfl
theorem chL_self {L:List Loc} (hl:L.length=6):chL L (fun k=>(lAt L k).lo) (fun k=>(lAt L k).hi)=L:=by
 conv=>rhs; rw [list_lAt hl]
 rfl
theorem chL_M {L:List Loc} (hl:L.length=6) (f g:Nat->Int):locM (chL L f g)=locM L:=by
 have e:locM L=locM ((List.range 6).map (lAt L)):=congrArg locM (list_lAt hl);rw [e];rfl
theorem chL_C {L:List Loc} (hC:locC L=0) {f g:Nat->Int} (h:∀ k,k<6->f k<=g k /\ -10000<=f k/\g k<=10000):locC (chL L f g)=0:=by
 obtain ⟨hl,he,hr⟩:=locC_zero hC;have h1:locE (chL L f g)=0:=locE_zero.2 fun l hl'=>by
  obtain ⟨k,hk,rfl⟩:=List.mem_map.1 (show l∈(List.range 6).map _ from hl');have hk6:=List.mem_range.1 hk;have q:=lAt_ok hC hk6;exact ⟨q.nx,q.ny,q.nz,q.px,q.py,q.pz,h k hk6,q.one⟩
 unfold locC;rw [if_pos (chL_len _ _ _),if_pos h1,chL_M hl];unfold locC at hC;rw [if_pos hl,if_pos he] at hC;exact hC
theorem chL_I {L:List Loc} (hC:locC L=0) {f g:Nat->Int} (h:∀ k,k<6->I64 (f k)/\I64 (g k)):∀ i,i<6->(lAt (chL L f g) i).I:=fun i hi=>by
 rw [chL_at L f g hi];have q:=lAt_ok hC hi;have h1:=q.nx;have h2:=q.ny;have h3:=q.nz;have h4:=q.px;have h5:=q.py;have h6:=q.pz;refine ⟨?_,?_,?_,?_,?_,?_,(h i hi).1,(h i hi).2⟩ <;> (unfold I64; simp only []; omega)
theorem encLs_lo (L:List Loc) (f g:Nat->Int) {k:Nat} (hk:k<6) (v:Int):(encLs (chL L f g)).set (k*8+6) (.int .i64 v)=encLs (chL L (fun i=>if i=k then v else f i) g):=by
 rcases (show k=0\/k=1\/k=2\/k=3\/k=4\/k=5 by omega) with rfl | rfl | rfl | rfl | rfl | rfl <;> rfl
theorem encLs_hi (L:List Loc) (f g:Nat->Int) {k:Nat} (hk:k<6) (v:Int):(encLs (chL L f g)).set (k*8+7) (.int .i64 v)=encLs (chL L f (fun i=>if i=k then v else g i)):=by
 rcases (show k=0\/k=1\/k=2\/k=3\/k=4\/k=5 by omega) with rfl | rfl | rfl | rfl | rfl | rfl <;> rfl
theorem encLs_at_lo (L:List Loc) (f g:Nat->Int) {k:Nat} (hk:k<6):(encLs (chL L f g))[k*8+6]?=some (.int .i64 (f k))/\(encLs (chL L f g))[k*8+7]?=some (.int .i64 (g k)):=by
 rcases (show k=0\/k=1\/k=2\/k=3\/k=4\/k=5 by omega) with rfl | rfl | rfl | rfl | rfl | rfl <;> exact ⟨rfl,rfl⟩
theorem LocsAt.news {w:World} {g:Nat} {L:List Loc} (h:LocsAt w (some ⟨g,0,none⟩) 6 L):∀ j u,(encLs L)[j]?=some u->w.cell? ((⟨g,0,none⟩:Addr).add j)=some u:=fun j u hu=>by
 obtain ⟨b,off,e,_,hr⟩:=h.row aO;cases e;have hj:j<48:=by
  have hl:(encLs L).length=48:=by rw [list_lAt h.len]; rfl
  rcases Nat.lt_or_ge j 48 with h1 | h1
  ·exact h1
  ·rw [List.getElem?_eq_none aO] at hu; cases hu
 have hi:j / 8<6:=aO
 have hj8:j=j / 8*8+j%8:=aO
 have hm:j%8<8:=aO
 rw [hj8,encLs_at (by rw [h.len]; exact hi) hm] at hu;obtain ⟨h0,h1,h2,h3,h4,h5,h6,h7⟩:=hr _ hi;simp only [Nat.zero_add] at h0 h1 h2 h3 h4 h5 h6 h7;rw [hj8,add_off];simp only [Nat.zero_add];rcases (show j%8=0\/j%8=1\/j%8=2\/j%8=3\/j%8=4\/j%8=5\/j%8=6\/j%8=7 by omega) with e | e | e | e | e | e | e | e <;> rw [e] at hu ⊢ <;> cases hu
 ·exact h0
 ·exact h1
 ·exact h2
 ·exact h3
 ·exact h4
 ·exact h5
 ·exact h6
 ·exact h7
theorem corn_in (a b:V3):vIn (cornLo a b)=true/\vIn (cornHi a b)=true/\(cornLo a b).x<=(cornHi a b).x/\(cornLo a b).y<=(cornHi a b).y/\(cornLo a b).z<=(cornHi a b).z:=by
 have h1:=near_in a;have h2:=near_in b;have e:∀ v:V3,vIn v=true↔(-24<=v.x/\v.x<=24)/\(-24<=v.y/\v.y<=24)/\(-24<=v.z/\v.z<=24):=fun v=>by simp [vIn,inB]
 rw [e,e];unfold cornLo cornHi;simp only [];omega
def clampV (lo hi v:V3):V3:=⟨max lo.x (min (nearV v).x hi.x),max lo.y (min (nearV v).y hi.y),max lo.z (min (nearV v).z hi.z)⟩
theorem clamp_in (a b v:V3):BoxIn (cornLo a b) (cornHi a b) (clampV (cornLo a b) (cornHi a b) v):=by
 have h:=corn_in a b;unfold clampV;constructor <;> (simp only []; omega)
theorem clamp_vIn (a b v:V3):vIn (clampV (cornLo a b) (cornHi a b) v)=true:=by
 have h:=clamp_in a b v;obtain ⟨h1,h2,_⟩:=corn_in a b;have e:∀ v:V3,vIn v=true↔(-24<=v.x/\v.x<=24)/\(-24<=v.y/\v.y<=24)/\(-24<=v.z/\v.z<=24):=fun v=>by simp [vIn,inB]
 rw [e] at h1 h2 ⊢;have a1:=h.x;have a2:=h.y;have a3:=h.z;omega
theorem LocsAt.upd {T:List Nat} {w u:World} {A:Option Addr} {n:Nat} {L:List Loc} (h:LocsAt w A n L) (hU:Upd T w u) (hT:∀ b off,A=some ⟨b,off,none⟩->b∉T):LocsAt u A n L:=
 ⟨h.len,h.ok,fun h0=>by
  obtain ⟨b,off,e,hlt,hc⟩:=h.row h0;exact ⟨b,off,e,Zl hlt hU.size,hc.same (hU.block b hlt (hT b off e))⟩⟩
theorem LocsAt.lt {w:World} {b n:Nat} {L:List Loc} (h:LocsAt w (some ⟨b,0,none⟩) n L) (h0:0<n):b<w.heap.size:=by
 obtain ⟨b',off,e,hlt,_⟩:=h.row h0;cases e;exact hlt
theorem rows_upd {T:List Nat} {w u:World} {base:Nat} {e:TypeId} {size:Nat} {v:Value} {n:Nat} {xs:List Value} (h:w.ownsRow base e size v n xs) (hU:Upd T w u) (hT:∀ b,v.ownBlock=some b->b∉T):u.ownsRow base e size v n xs:=by
 refine ⟨h.1,?_⟩;rcases h.2 with h1 | ⟨g,cap,cur,rfl,e2,e3,e4⟩
 ·exact .inl h1
 ·have hg:g<w.heap.size:=by
   rcases Nat.lt_or_ge g w.heap.size with h1 | h1
   ·exact h1
   ·rw [Array.getElem?_eq_none h1] at e3; cases e3
  exact .inr ⟨g,cap,cur,rfl,e2,(hU.block g hg (hT g rfl)).trans e3,e4⟩
theorem chL_locs {w:World} {base g c:Nat} {L:List Loc} {f g':Nat->Int} (h:w.ownsRow base 69 8 (.slice (some ⟨g,0,none⟩) 6 c) 6 (encLs (chL L f g'))) (hC:locC L=0) (hI:∀ k,k<6 -> -10000<=f k/\f k<=10000 /\ -10000<=g' k/\g' k<=10000):LocsAt w (some ⟨g,0,none⟩) 6 (chL L f g'):=by
 obtain ⟨A,c',e,_,_,h3,h4⟩:=locs_of_row h (chL_len _ _ _) (chL_I hC fun k hk=>by have:=hI k hk; unfold I64; omega);simp only [Value.slice.injEq,true_and] at e;rw [e.1];exact h3
theorem UnitZ.corner {L:List Loc} {xs:Nat->Nat->QI} {Ns:Nat->Nat->Int} {D:Int} (h:UnitZ (locM L) xs Ns D) (hC:locC L=0) {v:V3} (hv:vIn v=true):SmCorner xs L v:=
 corner_sm (by have:=h.pos; omega) h.dsm h.nsm h.eq hv (fun k hk=>by have:=(lAt_ok hC hk).lh; omega)
end Go.Proofs.YtflolbnnkbdmfaaGreat
