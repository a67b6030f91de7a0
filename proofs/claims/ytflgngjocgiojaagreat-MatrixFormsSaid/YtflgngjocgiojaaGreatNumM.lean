import Derived.Test.YtflgngjocgiojaaGreatFrame3
set_option linter.all false
namespace Go.Proofs.YtflgngjocgiojaaGreat
open Go.ChangeShapes Go.WideShapes Go.ChangeAt Go.RowKit
set_option maxRecDepth 100000
theorem u8M_wf {n:Int} (h:(Lit.int .u8 n).wf=true):0<=n/\n<=255:=by
 simp [Lit.wf] at h;exact h
section
variable {H:Type} {enc:TypeId×Value->H} {w:World} {base:Nat} {held:Bool}
theorem open_case {v:Value} {cs:Array Value} {d:DataW H} {p:List MemPlace} (hv:v = .agg cs) (h:DataW.Trod enc Tryz.prog w base (fun _=>true) held 24 v d p) :
 ∃ a n c z x y,v = .agg #[.slice a n c,.int .u8 x,.int .u8 y]/\SliceI w a n z/\(0<=x/\x<=255)/\(0<=y/\y<=255):=by
 obtain ⟨fuel,h⟩:=h;subst hv;obtain ⟨xs,f,_,_,hlen,hxs,hat⟩:=DataW.trod_struct Tryz.underlying24 h;have hc3:Tryz.prog.cellsOf 24=3:=aK
 have hl3:cs.toList.length=3:=hlen.trans hc3;have hx3:xs.length=3:=hxs
 match hcs:cs.toList,hl3 with
 | [x0,x1,x2],_ =>
  match xs,hx3 with
  | [y0,y1,y2],_ =>
   have e0:Tryz.prog.cellsOf 22=1:=aK
   have e1:Tryz.prog.cellsOf 5=1:=aK
   have h0:DataW.trod enc Tryz.prog w base (fun _=>true) held f 22 ((List.drop 0 cs.toList).take (Tryz.prog.cellsOf 22))=some y0:=hat 0 _ rfl;have h1:DataW.trod enc Tryz.prog w base (fun _=>true) held f 5 ((List.drop 1 cs.toList).take (Tryz.prog.cellsOf 5))=some y1:=hat 1 _ rfl;have h2:DataW.trod enc Tryz.prog w base (fun _=>true) held f 5 ((List.drop 2 cs.toList).take (Tryz.prog.cellsOf 5))=some y2:=hat 2 _ rfl;rw [e0,hcs] at h0;rw [e1,hcs] at h1;rw [e1,hcs] at h2;simp only [TK] at h0 h1 h2;obtain ⟨a,n,c,z,g0,s0⟩:=slice_in Tryz.underlying22 Tryz.underlying3 aK h0;obtain ⟨m1,g1,_,w1⟩:=DataW.trod_int Tryz.underlying5 h1;obtain ⟨m2,g2,_,w2⟩:=DataW.trod_int Tryz.underlying5 h2;simp at g0 g1 g2;subst g0 g1 g2;have hca:cs=#[.slice a n c,.int .u8 m1,.int .u8 m2]:=by rw [<- Array.toList_inj]; exact hcs
   exact ⟨a,n,c,z,m1,m2,by rw [hca],s0.1,u8M_wf w1,u8M_wf w2⟩
end
end Go.Proofs.YtflgngjocgiojaaGreat
namespace Go.Proofs.YtflgngjocgiojaaGreat
open Go.RowKit
inductive Cut (T:List Nat) where
 | need (m:Nat) (N:List Nat)
 | step (m:Nat) (v:Value)
 | make (m:Nat) (N:List Nat) (b:EBS T)
def kdAt {T:List Nat}:List Nat->Nat->List (Cut T)->Nat->Kind T
 | N,_,[],_=>.quiet N
 | N,k,.need m N'::cs,j=>if j<m then .quiet N else kdAt N' k cs j
 | N,k,.step m _::cs,j=>if j<m then .quiet N else if j=m then .step k N else kdAt N (k+1) cs j
 | N,k,.make m N' b::cs,j=>if j<m then .quiet N else if j=m then .make N' b else kdAt N k cs j
def cutsOk {T:List Nat} (l:List Oper) (c size:Nat):Nat->List (Cut T)->Bool
 | i,[]=>decide (i<=c)&&placesFit ((l.drop i).take (c - i)) size
 | i,.need m _::cs=>decide (i<=m)&&decide (m<=c)&&placesFit ((l.drop i).take (m - i)) size&&cutsOk l c size m cs
 | i,.step m _::cs=>decide (i<=m)&&decide (m<c)&&placesFit ((l.drop i).take (m - i)) size&&cutsOk l c size (m+1) cs
 | i,.make m _ _::cs=>decide (i<=m)&&decide (m<c)&&placesFit ((l.drop i).take (m - i)) size&&cutsOk l c size (m+1) cs
section
variable {P:Program} {T:List Nat} {w:World} {Q:Exit->Act->World->Prop}
def putSeg:List Oper->Act->Act->Act
 | [],_,a=>a
 | o::os,A,a=>putSeg os A (a.put o.dst (A.tmps.getD (o.dst.getD 0) undef))
structure Piece (P:Program) (l:List Oper) (T:List Nat) (w:World) (kd:Nat->Kind T) (N:List Nat) (seg:List Oper) (a A:Asg->Act):Prop where
 walk:∀ f v,Keeps T w v->(∀ x∈rN N,(kd x).R (f x) v)->Nonempty (Later T w v)->wpQuiet P l.toArray (fun w'=>∃ x:Later T w v,w'=x.u) (fun a'=>a'=A f) seg (a f)
 frame:∀ f,putSeg seg (A f) (a f)=A f
 loc:∀ f f':Asg,(∀ x∈vN N,f x=f' x)->(seg.map fun o=>(A f).tmps.getD (o.dst.getD 0) undef)=(seg.map fun o=>(A f').tmps.getD (o.dst.getD 0) undef)
def genWalk (P:Program) (l:List Oper) (T:List Nat) (w:World) (Ph:Nat->World->Prop) (kd:Nat->Kind T) (c:Nat):Nat->Nat->List Nat->List (Cut T)->(Asg->Act)->((Asg->Act)->Prop)->Prop
 | i,_,N,[],a,K=>∃ A:Asg->Act,Piece P l T w kd N ((l.drop i).take (c - i)) a A/\K A
 | i,k,N,.need m N'::cs,a,K=>∃ A:Asg->Act,Piece P l T w kd N ((l.drop i).take (m - i)) a A/\genWalk P l T w Ph kd c m k N' cs A K
 | i,k,N,.step m v::cs,a,K=>∃ A:Asg->Act,Piece P l T w kd N ((l.drop i).take (m - i)) a A /\
  oneOp ((l.drop m).take 1) (fun o=>(∀ f,stepRunN P l.toArray T w Ph kd f k N o v (A f))/\genWalk P l T w Ph kd c (m+1) (k+1) N cs (fun f=>(A f).put o.dst v) K)
 | i,k,N,.make m N' b::cs,a,K=>∃ A:Asg->Act,Piece P l T w kd N ((l.drop i).take (m - i)) a A /\
  oneOp ((l.drop m).take 1) (fun o=>(∀ f,makeRun P l.toArray T w kd f N' b o (A f))/\genWalk P l T w Ph kd c (m+1) k N cs (fun f=>(A f).put o.dst (b.val (f m))) K)
theorem yg_of_piece {ops:Array Oper} {Ph:Nat->World->Prop} {kd:Nat->Kind T} {f:Asg} {N:List Nat}:∀ (is:List Nat) (vs:List Value) (a:Act),(∀ i∈is,kd i = .quiet N)->is.length=vs.length->(∀ i∈is,∃ o,ops[i]?=some o) ->
 (∀ v,Keeps T w v->(∀ x∈rN N,(kd x).R (f x) v)->YSeq P ops (CL T w v) is vs a)->YG ops (DG P ops T w Ph kd f) is vs a
 | [],[],_,_,_,_,_=>trivial
 | i::is,v::vs,a,hn,hl,ho,h=>by
  obtain ⟨o,hoi⟩:=ho i List.mem_cons_self;refine ⟨⟨⟨o,hoi⟩,o,hoi,.inl ⟨N,hn i List.mem_cons_self,fun x hx hr=>?_⟩⟩,yg_of_piece is vs _ (fun j hj=>hn j (List.mem_cons_of_mem _ hj)) (by simpa using hl) (fun j hj=>ho j (List.mem_cons_of_mem _ hj)) (fun x hx hr=>(h x hx hr).2)⟩;obtain ⟨⟨o',ho',hy⟩,_⟩:=h x hx hr;rw [hoi] at ho'; cases ho';exact hy
 | [],_::_,_,_,hl,_,_=>by simp at hl
 | _::_,[],_,_,hl,_,_=>by simp at hl
theorem puts_seg {ops:Array Oper} {A:Act}:∀ (seg:List Oper) (is:List Nat) (a:Act),seg.length=is.length->(∀ (j i:Nat),is[j]?=some i->seg[j]?=ops[i]?) ->
 puts ops is (seg.map fun o=>A.tmps.getD (o.dst.getD 0) undef) a=putSeg seg A a
 | [],[],_,_,_=>rfl
 | o::seg,i::is,a,hlen,hl=>by
  have h0:ops[i]?=some o:=by simpa using (hl 0 i rfl).symm
  simp only [List.map_cons,puts,putSeg];rw [dstOf_some h0];exact puts_seg seg is _ (by simpa using hlen) (fun j x hj=>by simpa using hl (j+1) x (by simpa using hj))
 | [],_::_,_,hlen,_=>by simp at hlen
 | _::_,[],_,hlen,_=>by simp at hlen
theorem piece_yg {l:List Oper} {Ph:Nat->World->Prop} {kd:Nat->Kind T} {N:List Nat} {i m:Nat} {a A:Asg->Act} (hml:m<=l.length) (size:Nat) (hsz:∀ f,(a f).tmps.size=size) (hp:placesFit ((l.drop i).take (m - i)) size=true)
 (hkd:∀ x,i<=x->x<m->kd x = .quiet N) (h:Piece P l T w kd N ((l.drop i).take (m - i)) a A) :
 ∃ va:Asg->Nat->Value,(∀ f,YG l.toArray (DG P l.toArray T w Ph kd f) (List.range' i (m - i)) ((List.range' i (m - i)).map (va f)) (a f)/\puts l.toArray (List.range' i (m - i)) ((List.range' i (m - i)).map (va f)) (a f)=A f) /\
  (∀ f f':Asg,(∀ x∈vN N,f x=f' x)->∀ x,i<=x->x<m->va f x=va f' x)/\∀ f,(A f).tmps.size=size:=by
 have hlen:((l.drop i).take (m - i)).length=(List.range' i (m - i)).length:=aT
 have hat:∀ (j x:Nat),(List.range' i (m - i))[j]?=some x->((l.drop i).take (m - i))[j]?=l.toArray[x]?:=fun j x hj=>by rw [(seg_at hj).1]; simp
 refine ⟨fun f x=>(((l.drop i).take (m - i)).map fun o=>(A f).tmps.getD (o.dst.getD 0) undef).getD (x - i) undef,fun f=>?_,fun f f' hf x h1 h2=>by simp only []; rw [h.loc f f' hf],fun f=>?_⟩
 ·have hmap:(List.range' i (m - i)).map (fun x=>(((l.drop i).take (m - i)).map fun o=>(A f).tmps.getD (o.dst.getD 0) undef).getD (x - i) undef)=((l.drop i).take (m - i)).map fun o=>(A f).tmps.getD (o.dst.getD 0) undef:=by
   apply List.ext_getElem?;intro j
   by_cases hj:j<m - i
   ·rw [List.getElem?_map,List.getElem?_range' hj];simp only [Option.map_some,Nat.one_mul,show i+j - i=j by omega];have hj2:j<(((l.drop i).take (m - i)).map fun o=>(A f).tmps.getD (o.dst.getD 0) undef).length:=by rw [List.length_map,hlen]; simpa using hj
    rw [Ze,List.getElem?_eq_getElem hj2];rfl
   ·rw [List.getElem?_eq_none aT,List.getElem?_eq_none (by rw [List.length_map,hlen]; simp; omega)]
  rw [hmap];refine ⟨?_,by rw [puts_seg _ _ _ hlen hat]; exact h.frame f⟩;simp only [placesFit,Bool.and_eq_true,decide_eq_true_eq] at hp;refine yg_of_piece (N:=N) _ _ _ (fun x hx=>by have:=List.mem_range'_1.1 hx; exact hkd x aO aO) (by rw [List.length_map]; exact hlen.symm) (fun x hx=>by
   have h1:=List.mem_range'_1.1 hx;have h2:x<l.length:=aO
   exact ⟨l[x],by simp [h2]⟩) (fun v hv hr=>?_)
  exact (yseq_of_quiet (P:=P) (ops:=l.toArray) (C:=CL T w v) (A:=A f) ((l.drop i).take (m - i)) (List.range' i (m - i)) (a f) hlen hat (fun o ho=>by
   have:=List.all_eq_true.1 hp.1 o ho;cases hd:o.dst with
   | none=>rw [hd] at this; cases this
   | some d=>rw [hd] at this; exact ⟨d,rfl,by rw [hsz f]; simpa using this⟩) hp.2 (h.walk f v hv hr ⟨⟨v,hv,Zb _ _⟩⟩)).1
 ·rw [<- h.frame f];have key:∀ (seg:List Oper) (B x:Act),(putSeg seg B x).tmps.size=x.tmps.size:=by
   intro seg B
   induction seg with
   | nil=>intro x; rfl
   | cons o os ih=>intro x; simp only [putSeg]; rw [ih,put_size]
  rw [key,hsz f]
theorem range_cut {i m c:Nat} (h1:i<=m) (h2:m<=c):List.range' i (c - i)=List.range' i (m - i)++List.range' m (c - m):=by
 have h:=List.range'_append_1 (s:=i) (m:=m - i) (n:=c - m);rw [show i+(m - i)=m by omega,show m - i+(c - m)=c - i by omega] at h;exact h.symm
theorem range_head {m c:Nat} (h:m<c):List.range' m (c - m)=m::List.range' (m+1) (c - (m+1)):=by
 rw [show c - m=(c - (m+1))+1 by omega,List.range'_succ]
theorem map_join {i m c:Nat} {g g1 g2:Nat->Value} (h1:i<=m) (h2:m<=c) (e1:∀ x,i<=x->x<m->g x=g1 x) (e2:∀ x,m<=x->x<c->g x=g2 x) :
 (List.range' i (c - i)).map g=(List.range' i (m - i)).map g1++(List.range' m (c - m)).map g2:=by
 rw [range_cut h1 h2,List.map_append];congr 1
 ·exact List.map_congr_left (fun x hx=>by have:=List.mem_range'_1.1 hx; exact e1 x aO aO)
 ·exact List.map_congr_left (fun x hx=>by have:=List.mem_range'_1.1 hx; exact e2 x aO aO)
theorem gen_walk {l:List Oper} {Ph:Nat->World->Prop} {kd:Nat->Kind T} {c:Nat} (hcl:c<=l.length) (size:Nat):∀ (cs:List (Cut T)) (i k:Nat) (N:List Nat) (a:Asg->Act) (K:(Asg->Act)->Prop),cutsOk l c size i cs=true->(∀ f,(a f).tmps.size=size) ->
 (∀ j,i<=j->j<c->kd j=kdAt N k cs j)->genWalk P l T w Ph kd c i k N cs a K ->
 ∃ (va:Asg->Nat->Value) (Af:Asg->Act),K Af/\(∀ f,YG l.toArray (DG P l.toArray T w Ph kd f) (List.range' i (c - i)) ((List.range' i (c - i)).map (va f)) (a f)/\puts l.toArray (List.range' i (c - i)) ((List.range' i (c - i)).map (va f)) (a f)=Af f) /\
  (∀ (f f':Asg) j,i<=j->j<c->(kd j).isMake=false->(∀ x∈(kd j).needs,f x=f' x)->va f j=va f' j)
 | [],i,k,N,a,K,hok,hsz,hkd,h=>by
  obtain ⟨A,hp,hK⟩:=h;simp only [cutsOk,Bool.and_eq_true,decide_eq_true_eq] at hok;obtain ⟨va,h1,h2,_⟩:=piece_yg (Ph:=Ph) hcl size hsz hok.2 (fun x hx hx2=>by rw [hkd x hx hx2]; rfl) hp;exact ⟨va,A,hK,h1,fun f f' j hj hj2 _ hn=>h2 f f' (by rw [hkd j hj hj2] at hn; exact hn) j hj hj2⟩
 | .need m N'::cs,i,k,N,a,K,hok,hsz,hkd,h=>by
  obtain ⟨A,hp,hrest⟩:=h;simp only [cutsOk,Bool.and_eq_true,decide_eq_true_eq] at hok;obtain ⟨⟨⟨him,hmc⟩,hpf⟩,hok2⟩:=hok;obtain ⟨va1,h1,h2,h3⟩:=piece_yg (Ph:=Ph) (m:=m) aO size hsz hpf (fun x hx hx2=>by rw [hkd x hx aO]; simp only [kdAt]; rw [if_pos hx2]) hp;obtain ⟨va2,Af,g1,g2,g3⟩:=gen_walk hcl size cs m k N' A K hok2 h3 (fun j hj hj2=>by rw [hkd j aO hj2]; simp only [kdAt]; rw [if_neg aO]) hrest;refine ⟨fun f j=>if j<m then va1 f j else va2 f j,Af,g1,fun f=>?_,fun f f' j hj hj2 hnm hn=>?_⟩
  ·have hmj:=map_join (g:=fun j=>if j<m then va1 f j else va2 f j) (g1:=va1 f) (g2:=va2 f) him hmc (fun x _ hx=>if_pos hx) (fun x hx _=>if_neg aO);have hy2:=(g2 f).1;rw [<- (h1 f).2] at hy2;have hap:=yg_append _ _ _ _ _ (h1 f).1 hy2;rw [hmj,range_cut him hmc];refine ⟨hap.1,?_⟩;rw [hap.2,(h1 f).2]; exact (g2 f).2
  ·simp only []
   by_cases hjm:j<m
   ·rw [if_pos hjm,if_pos hjm];exact h2 f f' (by rw [hkd j hj hj2] at hn; simp only [kdAt] at hn; rw [if_pos hjm] at hn; exact hn) j hj hjm
   ·rw [if_neg hjm,if_neg hjm];exact g3 f f' j aO hj2 hnm hn
 | .step m v::cs,i,k,N,a,K,hok,hsz,hkd,h=>by
  obtain ⟨A,hp,hrest⟩:=h;simp only [cutsOk,Bool.and_eq_true,decide_eq_true_eq] at hok;obtain ⟨⟨⟨him,hmc⟩,hpf⟩,hok2⟩:=hok;obtain ⟨va1,h1,h2,h3⟩:=piece_yg (Ph:=Ph) (m:=m) aO size hsz hpf (fun x hx hx2=>by rw [hkd x hx aO]; simp only [kdAt]; rw [if_pos hx2]) hp;have hml:m<l.length:=aO
  have e:(l.drop m).take 1=[l[m]]:=by rw [List.drop_eq_getElem_cons hml]; rfl
  rw [e] at hrest;obtain ⟨hst,hrest⟩:=hrest;have hom:l.toArray[m]?=some l[m]:=by simp [hml]
  have hkm:kd m = .step k N:=by rw [hkd m him hmc]; simp only [kdAt]; rw [if_neg aO]; simp
  obtain ⟨va2,Af,g1,g2,g3⟩:=gen_walk hcl size cs (m+1) (k+1) N (fun f=>(A f).put l[m].dst v) K hok2 (fun f=>by rw [put_size]; exact h3 f) (fun j hj hj2=>by rw [hkd j aO hj2]; simp only [kdAt]; rw [if_neg aO,if_neg aO]) hrest;refine ⟨fun f j=>if j<m then va1 f j else if j=m then v else va2 f j,Af,g1,fun f=>?_,fun f f' j hj hj2 hnm hn=>?_⟩
  ·have hmj:=map_join (g:=fun j=>if j<m then va1 f j else if j=m then v else va2 f j) (g1:=va1 f) (g2:=fun j=>if j=m then v else va2 f j) him (Nat.le_of_lt hmc) (fun x _ hx=>if_pos hx) (fun x hx _=>if_neg aO);have hm2:(List.range' m (c - m)).map (fun j=>if j=m then v else va2 f j)=v::(List.range' (m+1) (c - (m+1))).map (va2 f):=by
    rw [range_head hmc,List.map_cons,if_pos rfl];congr 1;exact List.map_congr_left (fun x hx=>by have:=List.mem_range'_1.1 hx; exact if_neg aO)
   have hy2:YG l.toArray (DG P l.toArray T w Ph kd f) (m::List.range' (m+1) (c - (m+1))) (v::(List.range' (m+1) (c - (m+1))).map (va2 f)) (A f):=by
    refine ⟨⟨⟨_,hom⟩,_,hom,.inr (.inl ⟨k,N,hkm,hst f⟩)⟩,?_⟩;rw [dstOf_some hom]; exact (g2 f).1
   have hpc:puts l.toArray (m::List.range' (m+1) (c - (m+1))) (v::(List.range' (m+1) (c - (m+1))).map (va2 f)) (A f)=Af f:=by
    simp only [puts]; rw [dstOf_some hom]; exact (g2 f).2
   rw [<- (h1 f).2] at hy2 hpc;have hap:=yg_append _ _ _ _ _ (h1 f).1 hy2;rw [hmj,hm2,range_cut him (Nat.le_of_lt hmc),range_head hmc];exact ⟨hap.1,by rw [hap.2]; exact hpc⟩
  ·simp only []
   by_cases hjm:j<m
   ·rw [if_pos hjm,if_pos hjm];exact h2 f f' (by rw [hkd j hj hj2] at hn; simp only [kdAt] at hn; rw [if_pos hjm] at hn; exact hn) j hj hjm
   ·rw [if_neg hjm,if_neg hjm]
    by_cases hje:j=m
    ·rw [if_pos hje,if_pos hje]
    ·rw [if_neg hje,if_neg hje];exact g3 f f' j aO hj2 hnm hn
 | .make m N' b::cs,i,k,N,a,K,hok,hsz,hkd,h=>by
  obtain ⟨A,hp,hrest⟩:=h;simp only [cutsOk,Bool.and_eq_true,decide_eq_true_eq] at hok;obtain ⟨⟨⟨him,hmc⟩,hpf⟩,hok2⟩:=hok;obtain ⟨va1,h1,h2,h3⟩:=piece_yg (Ph:=Ph) (m:=m) aO size hsz hpf (fun x hx hx2=>by rw [hkd x hx aO]; simp only [kdAt]; rw [if_pos hx2]) hp;have hml:m<l.length:=aO
  have e:(l.drop m).take 1=[l[m]]:=by rw [List.drop_eq_getElem_cons hml]; rfl
  rw [e] at hrest;obtain ⟨hst,hrest⟩:=hrest;have hom:l.toArray[m]?=some l[m]:=by simp [hml]
  have hkm:kd m = .make N' b:=by rw [hkd m him hmc]; simp only [kdAt]; rw [if_neg aO]; simp
  obtain ⟨va2,Af,g1,g2,g3⟩:=gen_walk hcl size cs (m+1) k N (fun f=>(A f).put l[m].dst (b.val (f m))) K hok2 (fun f=>by rw [put_size]; exact h3 f) (fun j hj hj2=>by rw [hkd j aO hj2]; simp only [kdAt]; rw [if_neg aO,if_neg aO]) hrest;refine ⟨fun f j=>if j<m then va1 f j else if j=m then b.val (f m) else va2 f j,Af,g1,fun f=>?_,fun f f' j hj hj2 hnm hn=>?_⟩
  ·have hmj:=map_join (g:=fun j=>if j<m then va1 f j else if j=m then b.val (f m) else va2 f j) (g1:=va1 f) (g2:=fun j=>if j=m then b.val (f m) else va2 f j) him (Nat.le_of_lt hmc) (fun x _ hx=>if_pos hx) (fun x hx _=>if_neg aO);have hm2:(List.range' m (c - m)).map (fun j=>if j=m then b.val (f m) else va2 f j)=b.val (f m)::(List.range' (m+1) (c - (m+1))).map (va2 f):=by
    rw [range_head hmc,List.map_cons,if_pos rfl];congr 1;exact List.map_congr_left (fun x hx=>by have:=List.mem_range'_1.1 hx; exact if_neg aO)
   have hy2:YG l.toArray (DG P l.toArray T w Ph kd f) (m::List.range' (m+1) (c - (m+1))) (b.val (f m)::(List.range' (m+1) (c - (m+1))).map (va2 f)) (A f):=by
    refine ⟨⟨⟨_,hom⟩,_,hom,.inr (.inr ⟨N',b,hkm,rfl,hst f⟩)⟩,?_⟩;rw [dstOf_some hom]; exact (g2 f).1
   have hpc:puts l.toArray (m::List.range' (m+1) (c - (m+1))) (b.val (f m)::(List.range' (m+1) (c - (m+1))).map (va2 f)) (A f)=Af f:=by
    simp only [puts]; rw [dstOf_some hom]; exact (g2 f).2
   rw [<- (h1 f).2] at hy2 hpc;have hap:=yg_append _ _ _ _ _ (h1 f).1 hy2;rw [hmj,hm2,range_cut him (Nat.le_of_lt hmc),range_head hmc];exact ⟨hap.1,by rw [hap.2]; exact hpc⟩
  ·simp only []
   by_cases hjm:j<m
   ·rw [if_pos hjm,if_pos hjm];exact h2 f f' (by rw [hkd j hj hj2] at hn; simp only [kdAt] at hn; rw [if_pos hjm] at hn; exact hn) j hj hjm
   ·rw [if_neg hjm,if_neg hjm];have hje:j≠m:=fun e=>by rw [e,hkm] at hnm; cases hnm
    rw [if_neg hje,if_neg hje];exact g3 f f' j aO hj2 hnm hn
def genFit {T:List Nat} (l:List Oper) (kd:Nat->Kind T) (c ns N:Nat):Bool:=
 Region.noSelect l.toArray&&(l.zipIdx.all fun x=>x.1.after.all fun e=>!Region.binds .any e || decide (e.on<x.2)) &&
 ((List.range c).all fun i=>(List.range l.length).all fun j=>decide (j<=i) || apartFrom l i j) &&
 (l.zipIdx.all fun x=>decide (x.2<=c) || x.1.after.any fun e=>Region.binds .any e&&e.on==x.2 - 1) &&
 ((List.range c).all fun i=>(kd i).needs.all fun m=>decide (m<c)&&(kd m).isMake&&anc l.toArray N i m) &&
 ((List.range c).all fun i=>(decide (c=l.length) || (kd i).isFree || anc l.toArray N c i))&&decide (c<=l.length) &&
 ((List.range c).all fun i=>match kd i with
  | .step n _=>decide (n<ns)&&(List.range c).all fun i'=>match kd i' with
   | .step n' _=>(decide (n≠n') || decide (i=i'))&&(decide (n'≠n+1) || anc l.toArray N i' i)
   | _=>true
  | _=>true) &&
 ((List.range ns).all fun n=>(List.range c).any fun i=>match kd i with
  | .step n' _=>decide (n=n')
  | _=>false)
theorem genFit_of {l:List Oper} {kd:Nat->Kind T} {c ns N:Nat} (h:genFit l kd c ns N=true):GenFit l.toArray kd c ns N/\c<=l.length:=by
 simp only [genFit,Bool.and_eq_true] at h;obtain ⟨⟨⟨⟨⟨⟨⟨⟨h1,h2⟩,h3⟩,h4⟩,h5⟩,h6⟩,hlen⟩,h7⟩,h8⟩:=h;have hlen':c<=l.length:=by simpa using hlen
 have hst:∀ i i' n n' N1 N2,i<c->i'<c->kd i = .step n N1->kd i' = .step n' N2->n<ns/\(n≠n'\/i=i')/\(n'≠n+1\/anc l.toArray N i' i=true):=by
  intro i i' n n' N1 N2 hi hi' hk hk';have h9:=List.all_eq_true.1 h7 i (List.mem_range.2 hi);simp only [hk,Bool.and_eq_true,decide_eq_true_eq] at h9;have h10:=List.all_eq_true.1 h9.2 i' (List.mem_range.2 hi');simp only [hk',Bool.and_eq_true,Bool.or_eq_true,decide_eq_true_eq] at h10;exact ⟨h9.1,h10.1,h10.2⟩
 refine ⟨⟨fun j o cs b ho=>Region.noSelect_spec h1 j o cs b ho,fun j o ho e he hb=>?_,fun i j oi oj hi hij hoi hoj hno=>?_,fun j o hj ho=>?_,fun i hi m hm=>?_,fun i i' n _ _ hi hi' hk hk'=>?_,fun i n _ hi hk=>?_,fun n hn=>?_,fun i i' n _ _ hi hi' hk hk'=>?_,fun i hi hc=>?_⟩,hlen'⟩
 ·have h9:=List.all_eq_true.1 h2 _ (mem_zipIdx_of (by simpa using ho));have h10:=Array.all_eq_true'.1 h9 e he;simpa [hb] using h10
 ·have hjl:j<l.length:=by
   have:=(Zt.1 hoj).1; simpa using this
  have h9:=List.all_eq_true.1 (List.all_eq_true.1 h3 i (List.mem_range.2 hi)) j (List.mem_range.2 hjl);have e1:l[i]?=some oi:=by simpa using hoi
  have e2:l[j]?=some oj:=by simpa using hoj
  simp only [apartFrom,e1,e2,Bool.or_eq_true,decide_eq_true_eq] at h9;rcases h9 with h9 | h9 | h9
  ·omega
  ·obtain ⟨e,he,hb⟩:=Array.any_eq_true'.1 h9;simp only [Bool.and_eq_true,beq_iff_eq] at hb;exact absurd hb.2 (hno e he hb.1)
  ·exact h9
 ·have h9:=List.all_eq_true.1 h4 _ (mem_zipIdx_of (by simpa using ho));simp only [Bool.or_eq_true,decide_eq_true_eq] at h9;rcases h9 with h9 | h9
  ·omega
  ·obtain ⟨e,he,hb⟩:=Array.any_eq_true'.1 h9;simp only [Bool.and_eq_true,beq_iff_eq] at hb;exact ⟨e,he,hb.1,hb.2⟩
 ·have h9:=List.all_eq_true.1 (List.all_eq_true.1 h5 i (List.mem_range.2 hi)) m hm;simp only [Bool.and_eq_true,decide_eq_true_eq] at h9;exact ⟨h9.1.1,h9.1.2,h9.2⟩
 ·rcases (hst i i' n n _ _ hi hi' hk hk').2.1 with h | h
  ·exact absurd rfl h
  ·exact h
 ·exact (hst i i n n _ _ hi hi hk hk).1
 ·have h9:=List.all_eq_true.1 h8 n (List.mem_range.2 hn);obtain ⟨i,hi,hb⟩:=List.any_eq_true.1 h9;refine ⟨i,?_⟩;have hi2:i<c/\i<l.toArray.size:=⟨List.mem_range.1 hi,by have:=List.mem_range.1 hi; simp; omega⟩;cases hk:kd i with
  | quiet N=>simp [hk] at hb
  | step n' N1=>simp [hk] at hb; subst hb; exact ⟨N1,hi2.1,hi2.2,rfl⟩
  | make N b=>simp [hk] at hb
 ·rcases (hst i i' n (n+1) _ _ hi hi' hk hk').2.2 with h | h
  ·exact absurd rfl h
  ·exact h
 ·have h9:=List.all_eq_true.1 h6 i (List.mem_range.2 hi);simp only [Bool.or_eq_true,decide_eq_true_eq] at h9;rcases h9 with (h9 | h9) | h9
  ·simp at hc; omega
  ·exact .inl h9
  ·exact .inr h9
theorem any_gen {a:Act} {l:List Oper} (n0:Nat) (cs:List (Cut T)) (c ns N:Nat) (Ph:Nat->World->Prop) (hPB:∀ k u u',Ph k u->Below u.heap.size u u'->Ph k u') (hP0:Ph 0 w)
 (hn0:n0<=c) (hB:genFit l (kdAt [] 0 cs) c ns N=true) (hbefore:((List.range n0).all fun i=>(kdAt [] 0 cs i).isFree)=true) (hp:cutsOk l c a.tmps.size n0 cs=true)
 (h:genWalk P l T w Ph (kdAt [] 0 cs) c n0 0 [] cs (fun _=>a) (fun A=>∀ f u',Upd T w u'->Ph ns u'->(∀ m,m<c->(kdAt [] 0 cs m).isMake=true->Made T w (kdAt [] 0 cs) f m u') ->
  (∀ m m',m<c->m'<c->(kdAt [] 0 cs m).isMake=true->(kdAt [] 0 cs m').isMake=true->m≠m'->(f m).1≠(f m').1)->effChain P l.toArray T w (Q .normal) (l.drop c) (A f) u'))
 {u:World} (hwu:Below w.heap.size w u) {listed:Array Bool} (hls:listed.size=l.length) (hl1:∀ i,i<n0->listed.getD i true=true) (hl2:∀ i,n0<=i->i<l.length->listed.getD i true=false) :
 wpAny P .any l.toArray Q (l.length - n0) listed a u:=by
 obtain ⟨F,hcl⟩:=genFit_of hB;obtain ⟨va,Af,hK,hY,hloc⟩:=gen_walk (P:=P) (w:=w) (Ph:=Ph) (kd:=kdAt [] 0 cs) hcl a.tmps.size cs n0 0 [] (fun _=>a) _ hp (fun _=>rfl) (fun _ _ _=>rfl) h;have hfr:∀ i,i<n0->(kdAt [] 0 cs i).isMake=false/\∀ n N1,kdAt [] 0 cs i ≠ .step n N1:=fun i hi=>by
  have h1:=List.all_eq_true.1 hbefore i (List.mem_range.2 hi);revert h1;cases kdAt [] 0 cs i with
  | quiet N=>exact fun _=>⟨rfl,fun _ _ h=>by cases h⟩
  | step n N=>exact fun h=>by cases h
  | make N b=>exact fun h=>by cases h
 have hlen:(List.range' n0 (c - n0)).length=c - n0:=aS
 refine gen_main (P:=P) (T:=T) (w:=w) (Q:=Q) (va:=fun f i=>if i<c then (if n0<=i then va f i else undef) else undef) F hPB (fun f f' i hnm hn=>?_) (l.length - n0) (List.range' n0 (c - n0)) (l.drop c) c listed a u 0 (fun _=>True)
  (by rw [hlen]; simp; omega) (by simpa using hls) aT (Zr _) (fun i=>by rw [List.getElem?_drop]; simp) List.pairwise_lt_range'
  (fun i hi=>by have:=List.mem_range'_1.1 hi; simp; omega)
  (fun i hi=>by
   have hi':i<l.length:=by simpa using hi
   rw [List.mem_range'_1];rcases Nat.lt_or_ge i n0 with h1 | h1
   ·rw [hl1 i h1]; simp; omega
   ·rw [hl2 i h1 hi']; simp; omega)
  (fun i o ho hi e he hb=>by
   have h1:=F.back i o ho e he hb;have hil:i<l.length:=by have:=(Zt.1 ho).1; simpa using this
   have hin:i<n0:=by
    rcases Nat.lt_or_ge i n0 with h2 | h2
    ·exact h2
    ·have h3:=hl2 i h2 hil;rw [Array.getD_eq_getD_getElem?,Array.getElem?_eq_getElem aO] at hi h3;simp only [Option.getD_some] at hi h3;rw [hi] at h3; cases h3
   have h4:=hl1 e.on aO;rw [Array.getD_eq_getD_getElem?,Array.getElem?_eq_getElem aO] at h4 ⊢;exact h4)
  ⟨fun _=>(0,0),trivial⟩ (fun _ _ _ _ _=>trivial) (fun f f' _ _ m h1 h2 h3=>by
   rcases Nat.lt_or_ge m n0 with h4 | h4
   ·rw [(hfr m h4).1] at h2; cases h2
   ·exact absurd (List.mem_range'_1.2 aO) h3) (fun f _=>?_) (Keeps.of_below hwu)
  (fun i n N1 hi _ hk=>⟨fun _=>Nat.zero_le _,fun _=>by
   rcases Nat.lt_or_ge i n0 with h4 | h4
   ·exact absurd hk ((hfr i h4).2 n N1)
   ·exact List.mem_range'_1.2 aO⟩) (Nat.zero_le _)
  (.inl ⟨rfl,hPB _ _ _ hP0 hwu,fun f _ m h1 h2 h3=>by
   rcases Nat.lt_or_ge m n0 with h4 | h4
   ·rw [(hfr m h4).1] at h2; cases h2
   ·exact absurd (List.mem_range'_1.2 aO) h3,fun f _ m m' h1 _ h2 _ h3 _=>by
   rcases Nat.lt_or_ge m n0 with h4 | h4
   ·rw [(hfr m h4).1] at h2; cases h2
   ·exact absurd (List.mem_range'_1.2 aO) h3,fun f _ u' h1 h2 h3 h4=>?_⟩)
 ·by_cases hi:i<c
  ·rw [if_pos hi,if_pos hi]
   by_cases hi2:n0<=i
   ·rw [if_pos hi2,if_pos hi2]; exact hloc f f' i hi2 hi hnm hn
   ·rw [if_neg hi2,if_neg hi2]
  ·rw [if_neg hi,if_neg hi]
 ·have e:(List.range' n0 (c - n0)).map (fun i=>if i<c then (if n0<=i then va f i else undef) else undef)=(List.range' n0 (c - n0)).map (va f):=List.map_congr_left (fun x hx=>by have:=List.mem_range'_1.1 hx; rw [if_pos aO,if_pos aO]);rw [e]; exact (hY f).1
 ·have e:(List.range' n0 (c - n0)).map (fun i=>if i<c then (if n0<=i then va f i else undef) else undef)=(List.range' n0 (c - n0)).map (va f):=List.map_congr_left (fun x hx=>by have:=List.mem_range'_1.1 hx; rw [if_pos aO,if_pos aO]);rw [e,(hY f).2];exact hK f u' ((Upd.of_below hwu).trans h1) h2 h3 h4
theorem region_gen {id:Nat} {a:Act} {l:List Oper} (cs:List (Cut T)) (c ns N:Nat) (Ph:Nat->World->Prop) (hPB:∀ k u u',Ph k u->Below u.heap.size u u'->Ph k u') (hP0:Ph 0 w)
 (hm:P.follows .mixedOrders=true) (hB:genFit l (kdAt [] 0 cs) c ns N=true) (hp:cutsOk l c a.tmps.size 0 cs=true)
 (h:genWalk P l T w Ph (kdAt [] 0 cs) c 0 0 [] cs (fun _=>a) (fun A=>∀ f u',Upd T w u'->Ph ns u'->(∀ m,m<c->(kdAt [] 0 cs m).isMake=true->Made T w (kdAt [] 0 cs) f m u') ->
  (∀ m m',m<c->m'<c->(kdAt [] 0 cs m).isMake=true->(kdAt [] 0 cs m').isMake=true->m≠m'->(f m).1≠(f m').1)->effChain P l.toArray T w (Q .normal) (l.drop c) (A f) u')):(Code.region id l.toArray true).wp P Q a w:=by
 refine wp_region_any hm ?_;have:=any_gen (P:=P) (Q:=Q) (a:=a) (l:=l) 0 cs c ns N Ph hPB hP0 (Nat.zero_le _) hB rfl hp h (u:=w.drew) (Zb _ _).drew (listed:=Array.replicate l.toArray.size false) aS (fun i hi=>aO) (fun i _ hi=>by simp [hi]);simpa using this
end
theorem one_of {l:List Oper} {m:Nat} {o:Oper} {K:Oper->Prop} (h:l[m]?=some o) (k:K o):oneOp ((l.drop m).take 1) K:=by
 have e:(l.drop m).take 1=[o]:=by
  obtain ⟨h1,h2⟩:=List.getElem?_eq_some_iff.1 h;rw [List.drop_eq_getElem_cons h1,h2]; rfl
 rw [e]; exact k
def ownB (T:List Nat) (cs:Array Value) (val:Nat->Value):EBS T where
 val p:=val p.1
 R p u:=p.1∉T/\Own u p.1 cs
 st _ _ _ h k:=⟨h.1,h.2.upd k h.1⟩
theorem make_own {P:Program} {T:List Nat} {o:Oper} {A:Act} {u:World} {cs:Array Value} {e:TypeId} {val:Nat->Value} (hrun:(execOp A.eval o).run P u = .ok (.value (val u.heap.size)) (u.alloc (.cells cs e))) (hT:u.heap.size∉T) :
 lateOp P o A u (fun v' u'=>∃ p:Nat×Nat,v'=(ownB T cs val).val p/\u.heap.size<=p.1/\p.1<u'.heap.size/\Below u.heap.size u u'/\(ownB T cs val).R p u'):=by
 unfold lateOp;rw [hrun];exact ⟨(u.heap.size,0),rfl,Zr _,aS,(Zb _ _).alloc (Zr _) _,hT,Own.new rfl⟩
theorem make_call {P:Program} {T:List Nat} {o:Oper} {A:Act} {u:World} {b:EBS T} {f:FuncId} {args:Array Value} (hrun:(execOp A.eval o).run P u = .ok (.enter f args) u)
 (hc:Calls P f args u fun e w'=>∃ p:Nat×Nat,e = .returned (b.val p)/\u.heap.size<=p.1/\p.1<w'.heap.size/\Below u.heap.size u w'/\b.R p w') :
 lateOp P o A u (fun v' u'=>∃ p:Nat×Nat,v'=b.val p/\u.heap.size<=p.1/\p.1<u'.heap.size/\Below u.heap.size u u'/\b.R p u'):=by
 unfold lateOp;rw [hrun];exact hc.mono fun e w' ⟨p,h1,h2⟩=>⟨_,h1,p,rfl,h2⟩
theorem ownB_val {T:List Nat} {cs:Array Value} {val:Nat->Value} {p:Nat×Nat}:(ownB T cs val).val p=val p.1:=rfl
end Go.Proofs.YtflgngjocgiojaaGreat
namespace Go.Proofs.YtflgngjocgiojaaGreat
def valD (B:Nat):List Nat->Nat
 | []=>0
 | d::l=>d+B*valD B l
theorem valD_append (B:Nat):∀ (l m:List Nat),valD B (l++m)=valD B l+B^l.length*valD B m
 | [],m=>by simp [valD]
 | d::l,m=>by
  simp only [List.cons_append,valD,valD_append B l m,List.length_cons,Nat.pow_succ];grind
theorem valD_lt {B:Nat} (hB:0<B):∀ (l:List Nat),(∀ d∈l,d<B)->valD B l<B^l.length
 | [],_=>by simp [valD]
 | d::l,h=>by
  have h1:=valD_lt hB l (fun x hx=>h x (List.mem_cons_of_mem _ hx));have h2:=h d List.mem_cons_self;simp only [valD,List.length_cons,Nat.pow_succ];have h3:B*(valD B l+1)<=B*B^l.length:=Nat.mul_le_mul_left _ h1;rw [Nat.mul_add] at h3;rw [Nat.mul_comm (B^l.length) B];omega
theorem valD_take (B:Nat) {l:List Nat} {k:Nat} (h:k<l.length):valD B (l.take (k+1))=valD B (l.take k)+B^k*l[k]:=by
 rw [List.take_succ_eq_append_getElem h,valD_append,List.length_take,Nat.min_eq_left (Nat.le_of_lt h)];simp [valD]
theorem valD_zeros (B:Nat):∀ n,valD B (List.replicate n 0)=0
 | 0=>rfl
 | n+1=>by simp [List.replicate_succ,valD,valD_zeros B n]
theorem valD_ge {B:Nat} (hB:0<B):∀ (l:List Nat),l≠[]->(∀ h:l≠[],l.getLast h≠0)->B^(l.length - 1)<=valD B l
 | [],h,_=>absurd rfl h
 | [d],_,h=>by
  have:=h aS;simp at this;simp [valD];omega
 | d::e::l,_,h=>by
  have q:=valD_ge hB (e::l) aS (fun _=>by have:=h aS; simpa using this);have e1:valD B (d::e::l)=d+B*valD B (e::l):=rfl;rw [e1];have q2:B*B^((e::l).length - 1)<=B*valD B (e::l):=Nat.mul_le_mul_left _ q;have e2:B^((d::e::l).length - 1)=B*B^((e::l).length - 1):=by
   simp [Nat.pow_succ,Nat.mul_comm]
  rw [e2];omega
theorem add_step {B p x y c k o r s dx dy:Nat} (hp:p=B^k) (h:o+p*c=x+y) (hd:r+B*s=dx+dy+c):(o+p*r)+B^(k+1)*s=(x+p*dx)+(y+p*dy):=by
 rw [Nat.pow_succ,<- hp];have e:p*r+p*(B*s)=p*dx+p*dy+p*c:=by rw [<- Nat.mul_add,hd,Nat.mul_add,Nat.mul_add]
 grind
theorem guess_hi {u v uh ul vh vl W:Nat} (hv:v=vh*W+vl) (hu:u=uh*W+ul) (hul:ul<W) (hvh:0<vh):u / v<=uh / vh:=by
 rw [Nat.le_div_iff_mul_le hvh];have h1:u / v*v<=u:=Nat.div_mul_le_self u v;have h2:u / v*(vh*W)<=u / v*v:=Nat.mul_le_mul_left _ aO;have h3:(u / v*vh)*W<(uh+1)*W:=by
  rw [Nat.add_mul,Nat.mul_assoc];omega
 have h4:=Nat.lt_of_mul_lt_mul_right h3;omega
theorem valD_set (B:Nat):∀ (l:List Nat) (j r:Nat) (h:j<l.length),valD B (l.set j r)+B^j*l[j]=valD B l+B^j*r
 | [],j,r,h=>by simp at h
 | d::l,0,r,_=>by simp [valD]; omega
 | d::l,j+1,r,h=>by
  have q:=valD_set B l j r (by simpa using h);simp only [List.set_cons_succ,valD,List.getElem_cons_succ,Nat.pow_succ];have e:B*(valD B (l.set j r)+B^j*l[j]'(by simpa using h))=B*(valD B l+B^j*r):=by rw [q]
  rw [Nat.mul_add,Nat.mul_add] at e;grind
theorem mul_step {B p v v' d r c s x y t:Nat} (hset:v'+p*d=v+p*r) (hd:r+B*s=c+d+x*y) (h:v+p*c=t):v'+p*B*s=t+p*(x*y):=by
 have e:p*r+p*B*s=p*c+p*d+p*(x*y):=by rw [Nat.mul_assoc,<- Nat.mul_add,hd,Nat.mul_add,Nat.mul_add]
 omega
theorem sub_step {B p x y c k o r s dx dy:Nat} (hp:p=B^k) (h:o+y=x+p*c) (hd:r+dy+c=dx+B*s):(o+p*r)+(y+p*dy)=(x+p*dx)+B^(k+1)*s:=by
 rw [Nat.pow_succ,<- hp];have e:p*r+p*dy+p*c=p*dx+p*(B*s):=by rw [<- Nat.mul_add,<- Nat.mul_add,hd,Nat.mul_add]
 grind
theorem div_of {u v q r:Nat} (h:u=q*v+r) (hr:r<v):u / v=q/\u%v=r:=by
 subst h;have hv:0<v:=aO
 constructor
 ·rw [Nat.mul_comm,Nat.mul_add_div hv,Nat.div_eq_of_lt hr,Nat.add_zero]
 ·rw [Nat.mul_comm,Nat.mul_add_mod,Nat.mod_eq_of_lt hr]
theorem div_shift {u v s:Nat} (hs:0<s):(u*s) / (v*s)=u / v/\(u*s)%(v*s)=u%v*s:=by
 constructor
 ·exact Nat.mul_div_mul_right u v hs
 ·exact Nat.mul_mod_mul_right s u v
end Go.Proofs.YtflgngjocgiojaaGreat
