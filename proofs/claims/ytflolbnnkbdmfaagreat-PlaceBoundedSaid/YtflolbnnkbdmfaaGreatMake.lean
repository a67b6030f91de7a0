import Derived.Test.YtflolbnnkbdmfaaGreatRows
import Derived.ProofKit
import Derived.OpenShut
import Derived.ShutString
import Derived.Test.YtflolbnnkbdmfaaGreatDraw
set_option linter.all false
namespace Go.Proofs.YtflolbnnkbdmfaaGreat
open Go.ChangeShapes Go.WideShapes Go.ChangeAt Go.RowKit
theorem own:ownKnob Tryz.prog.godebug=none:=aK
theorem laidOut:laidOutB Tryz.prog=true:=aK
section
variable {H:Type} {enc:TypeId×Value->H} {P:Program} {w:World} {base:Nat} {spare:Nat->Bool} {held:Bool}
def Flat (P:Program) (t:TypeId) (n:Nat) (k:IntKind):Prop:=
 ∀ (H:Type) (enc:TypeId×Value->H) (w:World) (base:Nat) (spare:Nat->Bool) (held:Bool) (fuel:Nat) (cs:List Value) (x:DataW H×List MemPlace),
  DataW.trod enc P w base spare held fuel t cs=some x->cs.length=n/\∀ i,i<n->∃ m,cs[i]?=some (.int k m)/\(Lit.int k m).wf=true
theorem flat_int {t:TypeId} {k:IntKind} (ht:P.underlying t=some (.int k)):Flat P t 1 k:=by
 intro H enc w base spare held fuel cs x h;obtain ⟨n,rfl,_,hw⟩:=DataW.trod_int ht h;refine ⟨rfl,fun i hi=>?_⟩;obtain rfl:i=0:=aO
 exact ⟨n,rfl,hw⟩
theorem flat_array {t e:TypeId} {c m:Nat} {k:IntKind} (ht:P.underlying t=some (.array c e)) (hm:P.cellsOf e=m) (hc:P.cellsOf t=c*m) (h0:0<m) (he:Flat P e m k):Flat P t (c*m) k:=by
 intro H enc w base spare held fuel cs x h;obtain ⟨xs,f,_,_,hlen,hxs,hat⟩:=DataW.trod_array ht h;refine ⟨hlen.trans hc,fun i hi=>?_⟩;have hq:i / m<c:=Nat.div_lt_of_lt_mul (by rw [Nat.mul_comm]; exact hi);have h1:=hat (i / m) hq;rw [hm] at h1;have hx:xs[i / m]?=some (xs[i / m]'(aO)):=List.getElem?_eq_getElem aO;rw [hx] at h1;obtain ⟨_,h2⟩:=he _ _ _ _ _ _ _ _ _ h1;obtain ⟨v,hv,hw⟩:=h2 (i%m) (Nat.mod_lt _ h0);refine ⟨v,?_,hw⟩;rw [List.getElem?_take_of_lt (Nat.mod_lt _ h0),List.getElem?_drop,Nat.mul_comm,Nat.div_add_mod] at hv;exact hv
theorem flat_struct {t:TypeId} {fs:Array Field} {n:Nat} {k:IntKind} (ht:P.underlying t=some (.struct fs)) (hc:P.cellsOf t=n)
 (hcov:∀ i,i<n->∃ (j:Nat) (f:Field),fs[j]?=some f/\f.offset<=i/\i<f.offset+P.cellsOf f.type/\Flat P f.type (P.cellsOf f.type) k):Flat P t n k:=by
 intro H enc w base spare held fuel cs x h;obtain ⟨xs,f,_,_,hlen,hxs,hat⟩:=DataW.trod_struct ht h;refine ⟨hlen.trans hc,fun i hi=>?_⟩;obtain ⟨j,f,hf,h1,h2,hfl⟩:=hcov i hi;have h3:=hat j f hf;have hj:j<fs.size:=(Zt.1 hf).1;have hx:xs[j]?=some (xs[j]'(aO)):=List.getElem?_eq_getElem aO;rw [hx] at h3;obtain ⟨_,h4⟩:=hfl _ _ _ _ _ _ _ _ _ h3;obtain ⟨v,hv,hw⟩:=h4 (i - f.offset) aO;refine ⟨v,?_,hw⟩;rw [List.getElem?_take_of_lt aO,List.getElem?_drop,show f.offset+(i - f.offset)=i by omega] at hv;exact hv
theorem ints_of {k:IntKind}:∀ (cs:List Value),(∀ i,i<cs.length->∃ m,cs[i]?=some (.int k m)/\(Lit.int k m).wf=true)->∃ ms:List Int,cs=ms.map (Value.int k)/\∀ m∈ms,(Lit.int k m).wf=true
 | [],_=>⟨[],rfl,aS⟩
 | c::cs,h=>by
  obtain ⟨m,hm,hw⟩:=h 0 aS;obtain ⟨ms,he,hws⟩:=ints_of cs (fun i hi=>by simpa using h (i+1) aT);simp at hm;refine ⟨m::ms,by rw [he,hm]; rfl,?_⟩;intro x hx;rcases List.mem_cons.1 hx with rfl | hx
  ·exact hw
  ·exact hws x hx
theorem okWide_arr {t:TypeId} {v:Value} {r:Reach} {b:Nat} {c:Nat} {e:TypeId} (ht:P.underlying t=some (.array c e)) (h:Value.okWide P w r b t v):∃ cs,v = .agg cs/\cs.size=P.cellsOf t:=by
 simp only [Value.okWide,ht] at h;obtain ⟨cs,h1,h2,_⟩:=h;exact ⟨cs,h1,h2⟩
theorem open_flat {t:TypeId} {n:Nat} {k:IntKind} {v:Value} {cs:Array Value} {d:DataW H} {p:List MemPlace} (hf:Flat P t n k) (hv:v = .agg cs) (h:DataW.Trod enc P w base spare held t v d p) :
 ∃ ms:List Int,v = .agg (ms.map (Value.int k)).toArray/\ms.length=n/\∀ m∈ms,(Lit.int k m).wf=true:=by
 obtain ⟨fuel,h⟩:=h;subst hv;obtain ⟨h1,h2⟩:=hf _ _ _ _ _ _ _ _ _ h;obtain ⟨ms,he,hw⟩:=ints_of cs.toList (fun i hi=>h2 i (by simpa [Value.cells] using h1 ▸ hi));refine ⟨ms,?_,?_,hw⟩
 ·rw [<- he]
 ·have:cs.toList.length=n:=h1;rw [he] at this; simpa using this
end
theorem sliceI_of {W:World} {a:Option Addr} {len cap:Nat} {zs:List Int}
 (h:(a=none/\len=0/\cap=0/\zs=[])\/∃ x,a=some x/\len<=cap/\cap<=maxLen/\zs.length=cap/\(∀ i,i<zs.length->W.cell? (x.add i)=some (.int .i64 (zs.getD i 0)))/\∀ n∈zs,(Lit.int .i64 n).wf=true)
 : SliceI W a len (zs.take len)/\len<=cap/\cap<=9223372036854775807:=by
 rcases h with ⟨rfl,rfl,rfl,rfl⟩ | ⟨x,rfl,hl,hm,hz,hc,_⟩
 ·exact ⟨⟨rfl,aO,fun h=>absurd rfl h⟩,aO,aO⟩
 ·unfold maxLen at hm;refine ⟨⟨aT,aO,fun hne=>?_⟩,hl,hm⟩;have hpos:0<len:=by
   rcases Nat.eq_zero_or_pos len with h | h
   ·rw [h] at hne; simp at hne
   ·exact h
  obtain ⟨b,off,spot⟩:=x;have h0:=hc 0 aO;have hs:spot=none:=by simpa [Addr.add] using World.cell?_spot h0
  subst hs;refine ⟨b,off,rfl,?_,fun i hi=>?_⟩
  ·simp [Addr.add] at h0;rcases Nat.lt_or_ge b W.heap.size with h | h
   ·exact h
   ·simp [World.cell?,Array.getElem?_eq_none h] at h0
  ·have hi':i<len:=by simp at hi; omega
   have h1:=hc i aO;have e:(zs.take len).getD i 0=zs.getD i 0:=by
    simp [List.getElem?_take_of_lt hi']
   rw [e,<- h1]
   by_cases h2:i=0
   ·subst h2; simp [Addr.add]
   ·simp [Addr.add,h2]
theorem flatVec:Flat Tryz.prog 44 3 .i64:=
 flat_struct Tryz.underlying44 aK (fun i hi=>by
  have h1:Tryz.prog.cellsOf 3=1:=aK
  have hI:=flat_int Tryz.underlying3
  match i,hi with
  | 0,_=>exact ⟨0,_,rfl,aS,by simp [h1],by simpa [h1] using hI⟩
  | 1,_=>exact ⟨1,_,rfl,aS,by simp [h1],by simpa [h1] using hI⟩
  | 2,_=>exact ⟨2,_,rfl,aS,by simp [h1],by simpa [h1] using hI⟩)
theorem len3 {l:List Int} (h:l.length=3):∃ a b c,l=[a,b,c]:=by
 match l,h with
 | [a,b,c],_=>exact ⟨a,b,c,rfl⟩
end Go.Proofs.YtflolbnnkbdmfaaGreat
namespace Go.Proofs.YtflolbnnkbdmfaaGreat
open Go.RowKit
end Go.Proofs.YtflolbnnkbdmfaaGreat
namespace Go.Proofs.YtflolbnnkbdmfaaGreat
open Go.ChangeShapes Go.WideShapes Go.ChangeAt Go.RowKit
set_option maxRecDepth 100000
section
variable {H:Type} {enc:TypeId×Value->H} {P:Program} {w:World} {base:Nat} {held:Bool}
end
theorem u8M_wf {n:Int} (h:(Lit.int .u8 n).wf=true):0<=n/\n<=255:=by
 simp [Lit.wf] at h;exact h
section
variable {H:Type} {enc:TypeId×Value->H} {w:World} {base:Nat} {held:Bool}
end
theorem len2 {l:List Int} (h:l.length=2):∃ a b,l=[a,b]:=by
 match l,h with
 | [a,b],_=>exact ⟨a,b,rfl⟩
end Go.Proofs.YtflolbnnkbdmfaaGreat
namespace Go.Proofs.YtflolbnnkbdmfaaGreat
theorem flatVecx2:Flat Tryz.prog 60 6 .i64:=flat_array (c:=2) (m:=3) Tryz.underlying60 aK aK aO flatVec
theorem len6 {l:List Int} (h:l.length=6):∃ a b c d e f,l=[a,b,c,d,e,f]:=by
 match l,h with
 | [a,b,c,d,e,f],_=>exact ⟨a,b,c,d,e,f,rfl⟩
end Go.Proofs.YtflolbnnkbdmfaaGreat
namespace Go.Proofs.YtflolbnnkbdmfaaGreat
open Go.RowKit
inductive Cut (T:List Nat) where
 | need (m:Nat) (N:List Nat)
 | step (m:Nat) (v:Value)
 | make (m:Nat) (N:List Nat) (b:EBS T)
def kdAt {T:List Nat}:List Nat->Nat->List (Cut T)->Nat->Kind T
 | N,_,[],_=>.quiet N
 | N,k,.need m N'::cs,j=>if j<m then .quiet N else kdAt N' k cs j
 | N,k,.step m _::cs,j=>if j<m then .quiet N else if j=m then .step k N else kdAt N (k+1) cs j
 | N,k,.make m N' b::cs,j=>if j<m then .quiet N else if j=m then .make N' b else kdAt N k cs j
def cutsOk {T:List Nat} (l:List Oper) (c size:Nat):Nat->List (Cut T)->Bool
 | i,[]=>decide (i<=c)&&placesFit ((l.drop i).take (c - i)) size
 | i,.need m _::cs=>decide (i<=m)&&decide (m<=c)&&placesFit ((l.drop i).take (m - i)) size&&cutsOk l c size m cs
 | i,.step m _::cs=>decide (i<=m)&&decide (m<c)&&placesFit ((l.drop i).take (m - i)) size&&cutsOk l c size (m+1) cs
 | i,.make m _ _::cs=>decide (i<=m)&&decide (m<c)&&placesFit ((l.drop i).take (m - i)) size&&cutsOk l c size (m+1) cs
section
variable {P:Program} {T:List Nat} {w:World} {Q:Exit->Act->World->Prop}
def putSeg:List Oper->Act->Act->Act
 | [],_,a=>a
 | o::os,A,a=>putSeg os A (a.put o.dst (A.tmps.getD (o.dst.getD 0) undef))
structure Piece (P:Program) (l:List Oper) (T:List Nat) (w:World) (kd:Nat->Kind T) (N:List Nat) (seg:List Oper) (a A:Asg->Act):Prop where
 walk:∀ f v,Keeps T w v->(∀ x∈rN N,(kd x).R (f x) v)->Nonempty (Later T w v)->wpQuiet P l.toArray (fun w'=>∃ x:Later T w v,w'=x.u) (fun a'=>a'=A f) seg (a f)
 frame:∀ f,putSeg seg (A f) (a f)=A f
 loc:∀ f f':Asg,(∀ x∈vN N,f x=f' x)->(seg.map fun o=>(A f).tmps.getD (o.dst.getD 0) undef)=(seg.map fun o=>(A f').tmps.getD (o.dst.getD 0) undef)
def genWalk (P:Program) (l:List Oper) (T:List Nat) (w:World) (Ph:Nat->World->Prop) (kd:Nat->Kind T) (c:Nat):Nat->Nat->List Nat->List (Cut T)->(Asg->Act)->((Asg->Act)->Prop)->Prop
 | i,_,N,[],a,K=>∃ A:Asg->Act,Piece P l T w kd N ((l.drop i).take (c - i)) a A/\K A
 | i,k,N,.need m N'::cs,a,K=>∃ A:Asg->Act,Piece P l T w kd N ((l.drop i).take (m - i)) a A/\genWalk P l T w Ph kd c m k N' cs A K
 | i,k,N,.step m v::cs,a,K=>∃ A:Asg->Act,Piece P l T w kd N ((l.drop i).take (m - i)) a A /\
  oneOp ((l.drop m).take 1) (fun o=>(∀ f,stepRunN P l.toArray T w Ph kd f k N o v (A f))/\genWalk P l T w Ph kd c (m+1) (k+1) N cs (fun f=>(A f).put o.dst v) K)
 | i,k,N,.make m N' b::cs,a,K=>∃ A:Asg->Act,Piece P l T w kd N ((l.drop i).take (m - i)) a A /\
  oneOp ((l.drop m).take 1) (fun o=>(∀ f,makeRun P l.toArray T w kd f N' b o (A f))/\genWalk P l T w Ph kd c (m+1) k N cs (fun f=>(A f).put o.dst (b.val (f m))) K)
theorem yg_of_piece {ops:Array Oper} {Ph:Nat->World->Prop} {kd:Nat->Kind T} {f:Asg} {N:List Nat}:∀ (is:List Nat) (vs:List Value) (a:Act),(∀ i∈is,kd i = .quiet N)->is.length=vs.length->(∀ i∈is,∃ o,ops[i]?=some o) ->
 (∀ v,Keeps T w v->(∀ x∈rN N,(kd x).R (f x) v)->YSeq P ops (CL T w v) is vs a)->YG ops (DG P ops T w Ph kd f) is vs a
 | [],[],_,_,_,_,_=>trivial
 | i::is,v::vs,a,hn,hl,ho,h=>by
  obtain ⟨o,hoi⟩:=ho i List.mem_cons_self;refine ⟨⟨⟨o,hoi⟩,o,hoi,.inl ⟨N,hn i List.mem_cons_self,fun x hx hr=>?_⟩⟩,yg_of_piece is vs _ (fun j hj=>hn j (List.mem_cons_of_mem _ hj)) (by simpa using hl) (fun j hj=>ho j (List.mem_cons_of_mem _ hj)) (fun x hx hr=>(h x hx hr).2)⟩;obtain ⟨⟨o',ho',hy⟩,_⟩:=h x hx hr;rw [hoi] at ho'; cases ho';exact hy
 | [],_::_,_,_,hl,_,_=>by simp at hl
 | _::_,[],_,_,hl,_,_=>by simp at hl
theorem puts_seg {ops:Array Oper} {A:Act}:∀ (seg:List Oper) (is:List Nat) (a:Act),seg.length=is.length->(∀ (j i:Nat),is[j]?=some i->seg[j]?=ops[i]?) ->
 puts ops is (seg.map fun o=>A.tmps.getD (o.dst.getD 0) undef) a=putSeg seg A a
 | [],[],_,_,_=>rfl
 | o::seg,i::is,a,hlen,hl=>by
  have h0:ops[i]?=some o:=by simpa using (hl 0 i rfl).symm
  simp only [List.map_cons,puts,putSeg];rw [dstOf_some h0];exact puts_seg seg is _ (by simpa using hlen) (fun j x hj=>by simpa using hl (j+1) x (by simpa using hj))
 | [],_::_,_,hlen,_=>by simp at hlen
 | _::_,[],_,hlen,_=>by simp at hlen
theorem piece_yg {l:List Oper} {Ph:Nat->World->Prop} {kd:Nat->Kind T} {N:List Nat} {i m:Nat} {a A:Asg->Act} (hml:m<=l.length) (size:Nat) (hsz:∀ f,(a f).tmps.size=size) (hp:placesFit ((l.drop i).take (m - i)) size=true)
 (hkd:∀ x,i<=x->x<m->kd x = .quiet N) (h:Piece P l T w kd N ((l.drop i).take (m - i)) a A) :
 ∃ va:Asg->Nat->Value,(∀ f,YG l.toArray (DG P l.toArray T w Ph kd f) (List.range' i (m - i)) ((List.range' i (m - i)).map (va f)) (a f)/\puts l.toArray (List.range' i (m - i)) ((List.range' i (m - i)).map (va f)) (a f)=A f) /\
  (∀ f f':Asg,(∀ x∈vN N,f x=f' x)->∀ x,i<=x->x<m->va f x=va f' x)/\∀ f,(A f).tmps.size=size:=by
 have hlen:((l.drop i).take (m - i)).length=(List.range' i (m - i)).length:=aT
 have hat:∀ (j x:Nat),(List.range' i (m - i))[j]?=some x->((l.drop i).take (m - i))[j]?=l.toArray[x]?:=fun j x hj=>by rw [(seg_at hj).1]; simp
 refine ⟨fun f x=>(((l.drop i).take (m - i)).map fun o=>(A f).tmps.getD (o.dst.getD 0) undef).getD (x - i) undef,fun f=>?_,fun f f' hf x h1 h2=>by simp only []; rw [h.loc f f' hf],fun f=>?_⟩
 ·have hmap:(List.range' i (m - i)).map (fun x=>(((l.drop i).take (m - i)).map fun o=>(A f).tmps.getD (o.dst.getD 0) undef).getD (x - i) undef)=((l.drop i).take (m - i)).map fun o=>(A f).tmps.getD (o.dst.getD 0) undef:=by
   apply List.ext_getElem?;intro j
   by_cases hj:j<m - i
   ·rw [List.getElem?_map,List.getElem?_range' hj];simp only [Option.map_some,Nat.one_mul,show i+j - i=j by omega];have hj2:j<(((l.drop i).take (m - i)).map fun o=>(A f).tmps.getD (o.dst.getD 0) undef).length:=by rw [List.length_map,hlen]; simpa using hj
    rw [Ze,List.getElem?_eq_getElem hj2];rfl
   ·rw [List.getElem?_eq_none aT,List.getElem?_eq_none (by rw [List.length_map,hlen]; simp; omega)]
  rw [hmap];refine ⟨?_,by rw [puts_seg _ _ _ hlen hat]; exact h.frame f⟩;simp only [placesFit,Bool.and_eq_true,decide_eq_true_eq] at hp;refine yg_of_piece (N:=N) _ _ _ (fun x hx=>by have:=List.mem_range'_1.1 hx; exact hkd x aO aO) (by rw [List.length_map]; exact hlen.symm) (fun x hx=>by
   have h1:=List.mem_range'_1.1 hx;have h2:x<l.length:=aO
   exact ⟨l[x],by simp [h2]⟩) (fun v hv hr=>?_)
  exact (yseq_of_quiet (P:=P) (ops:=l.toArray) (C:=CL T w v) (A:=A f) ((l.drop i).take (m - i)) (List.range' i (m - i)) (a f) hlen hat (fun o ho=>by
   have:=List.all_eq_true.1 hp.1 o ho;cases hd:o.dst with
   | none=>rw [hd] at this; cases this
   | some d=>rw [hd] at this; exact ⟨d,rfl,by rw [hsz f]; simpa using this⟩) hp.2 (h.walk f v hv hr ⟨⟨v,hv,Zb _ _⟩⟩)).1
 ·rw [<- h.frame f];have key:∀ (seg:List Oper) (B x:Act),(putSeg seg B x).tmps.size=x.tmps.size:=by
   intro seg B
   induction seg with
   | nil=>intro x; rfl
   | cons o os ih=>intro x; simp only [putSeg]; rw [ih,put_size]
  rw [key,hsz f]
theorem range_cut {i m c:Nat} (h1:i<=m) (h2:m<=c):List.range' i (c - i)=List.range' i (m - i)++List.range' m (c - m):=by
 have h:=List.range'_append_1 (s:=i) (m:=m - i) (n:=c - m);rw [show i+(m - i)=m by omega,show m - i+(c - m)=c - i by omega] at h;exact h.symm
theorem range_head {m c:Nat} (h:m<c):List.range' m (c - m)=m::List.range' (m+1) (c - (m+1)):=by
 rw [show c - m=(c - (m+1))+1 by omega,List.range'_succ]
theorem map_join {i m c:Nat} {g g1 g2:Nat->Value} (h1:i<=m) (h2:m<=c) (e1:∀ x,i<=x->x<m->g x=g1 x) (e2:∀ x,m<=x->x<c->g x=g2 x) :
 (List.range' i (c - i)).map g=(List.range' i (m - i)).map g1++(List.range' m (c - m)).map g2:=by
 rw [range_cut h1 h2,List.map_append];congr 1
 ·exact List.map_congr_left (fun x hx=>by have:=List.mem_range'_1.1 hx; exact e1 x aO aO)
 ·exact List.map_congr_left (fun x hx=>by have:=List.mem_range'_1.1 hx; exact e2 x aO aO)
theorem gen_walk {l:List Oper} {Ph:Nat->World->Prop} {kd:Nat->Kind T} {c:Nat} (hcl:c<=l.length) (size:Nat):∀ (cs:List (Cut T)) (i k:Nat) (N:List Nat) (a:Asg->Act) (K:(Asg->Act)->Prop),cutsOk l c size i cs=true->(∀ f,(a f).tmps.size=size) ->
 (∀ j,i<=j->j<c->kd j=kdAt N k cs j)->genWalk P l T w Ph kd c i k N cs a K ->
 ∃ (va:Asg->Nat->Value) (Af:Asg->Act),K Af/\(∀ f,YG l.toArray (DG P l.toArray T w Ph kd f) (List.range' i (c - i)) ((List.range' i (c - i)).map (va f)) (a f)/\puts l.toArray (List.range' i (c - i)) ((List.range' i (c - i)).map (va f)) (a f)=Af f) /\
  (∀ (f f':Asg) j,i<=j->j<c->(kd j).isMake=false->(∀ x∈(kd j).needs,f x=f' x)->va f j=va f' j)
 | [],i,k,N,a,K,hok,hsz,hkd,h=>by
  obtain ⟨A,hp,hK⟩:=h;simp only [cutsOk,Bool.and_eq_true,decide_eq_true_eq] at hok;obtain ⟨va,h1,h2,_⟩:=piece_yg (Ph:=Ph) hcl size hsz hok.2 (fun x hx hx2=>by rw [hkd x hx hx2]; rfl) hp;exact ⟨va,A,hK,h1,fun f f' j hj hj2 _ hn=>h2 f f' (by rw [hkd j hj hj2] at hn; exact hn) j hj hj2⟩
 | .need m N'::cs,i,k,N,a,K,hok,hsz,hkd,h=>by
  obtain ⟨A,hp,hrest⟩:=h;simp only [cutsOk,Bool.and_eq_true,decide_eq_true_eq] at hok;obtain ⟨⟨⟨him,hmc⟩,hpf⟩,hok2⟩:=hok;obtain ⟨va1,h1,h2,h3⟩:=piece_yg (Ph:=Ph) (m:=m) aO size hsz hpf (fun x hx hx2=>by rw [hkd x hx aO]; simp only [kdAt]; rw [if_pos hx2]) hp;obtain ⟨va2,Af,g1,g2,g3⟩:=gen_walk hcl size cs m k N' A K hok2 h3 (fun j hj hj2=>by rw [hkd j aO hj2]; simp only [kdAt]; rw [if_neg aO]) hrest;refine ⟨fun f j=>if j<m then va1 f j else va2 f j,Af,g1,fun f=>?_,fun f f' j hj hj2 hnm hn=>?_⟩
  ·have hmj:=map_join (g:=fun j=>if j<m then va1 f j else va2 f j) (g1:=va1 f) (g2:=va2 f) him hmc (fun x _ hx=>if_pos hx) (fun x hx _=>if_neg aO);have hy2:=(g2 f).1;rw [<- (h1 f).2] at hy2;have hap:=yg_append _ _ _ _ _ (h1 f).1 hy2;rw [hmj,range_cut him hmc];refine ⟨hap.1,?_⟩;rw [hap.2,(h1 f).2]; exact (g2 f).2
  ·simp only []
   by_cases hjm:j<m
   ·rw [if_pos hjm,if_pos hjm];exact h2 f f' (by rw [hkd j hj hj2] at hn; simp only [kdAt] at hn; rw [if_pos hjm] at hn; exact hn) j hj hjm
   ·rw [if_neg hjm,if_neg hjm];exact g3 f f' j aO hj2 hnm hn
 | .step m v::cs,i,k,N,a,K,hok,hsz,hkd,h=>by
  obtain ⟨A,hp,hrest⟩:=h;simp only [cutsOk,Bool.and_eq_true,decide_eq_true_eq] at hok;obtain ⟨⟨⟨him,hmc⟩,hpf⟩,hok2⟩:=hok;obtain ⟨va1,h1,h2,h3⟩:=piece_yg (Ph:=Ph) (m:=m) aO size hsz hpf (fun x hx hx2=>by rw [hkd x hx aO]; simp only [kdAt]; rw [if_pos hx2]) hp;have hml:m<l.length:=aO
  have e:(l.drop m).take 1=[l[m]]:=by rw [List.drop_eq_getElem_cons hml]; rfl
  rw [e] at hrest;obtain ⟨hst,hrest⟩:=hrest;have hom:l.toArray[m]?=some l[m]:=by simp [hml]
  have hkm:kd m = .step k N:=by rw [hkd m him hmc]; simp only [kdAt]; rw [if_neg aO]; simp
  obtain ⟨va2,Af,g1,g2,g3⟩:=gen_walk hcl size cs (m+1) (k+1) N (fun f=>(A f).put l[m].dst v) K hok2 (fun f=>by rw [put_size]; exact h3 f) (fun j hj hj2=>by rw [hkd j aO hj2]; simp only [kdAt]; rw [if_neg aO,if_neg aO]) hrest;refine ⟨fun f j=>if j<m then va1 f j else if j=m then v else va2 f j,Af,g1,fun f=>?_,fun f f' j hj hj2 hnm hn=>?_⟩
  ·have hmj:=map_join (g:=fun j=>if j<m then va1 f j else if j=m then v else va2 f j) (g1:=va1 f) (g2:=fun j=>if j=m then v else va2 f j) him (Nat.le_of_lt hmc) (fun x _ hx=>if_pos hx) (fun x hx _=>if_neg aO);have hm2:(List.range' m (c - m)).map (fun j=>if j=m then v else va2 f j)=v::(List.range' (m+1) (c - (m+1))).map (va2 f):=by
    rw [range_head hmc,List.map_cons,if_pos rfl];congr 1;exact List.map_congr_left (fun x hx=>by have:=List.mem_range'_1.1 hx; exact if_neg aO)
   have hy2:YG l.toArray (DG P l.toArray T w Ph kd f) (m::List.range' (m+1) (c - (m+1))) (v::(List.range' (m+1) (c - (m+1))).map (va2 f)) (A f):=by
    refine ⟨⟨⟨_,hom⟩,_,hom,.inr (.inl ⟨k,N,hkm,hst f⟩)⟩,?_⟩;rw [dstOf_some hom]; exact (g2 f).1
   have hpc:puts l.toArray (m::List.range' (m+1) (c - (m+1))) (v::(List.range' (m+1) (c - (m+1))).map (va2 f)) (A f)=Af f:=by
    simp only [puts]; rw [dstOf_some hom]; exact (g2 f).2
   rw [<- (h1 f).2] at hy2 hpc;have hap:=yg_append _ _ _ _ _ (h1 f).1 hy2;rw [hmj,hm2,range_cut him (Nat.le_of_lt hmc),range_head hmc];exact ⟨hap.1,by rw [hap.2]; exact hpc⟩
  ·simp only []
   by_cases hjm:j<m
   ·rw [if_pos hjm,if_pos hjm];exact h2 f f' (by rw [hkd j hj hj2] at hn; simp only [kdAt] at hn; rw [if_pos hjm] at hn; exact hn) j hj hjm
   ·rw [if_neg hjm,if_neg hjm]
    by_cases hje:j=m
    ·rw [if_pos hje,if_pos hje]
    ·rw [if_neg hje,if_neg hje];exact g3 f f' j aO hj2 hnm hn
 | .make m N' b::cs,i,k,N,a,K,hok,hsz,hkd,h=>by
  obtain ⟨A,hp,hrest⟩:=h;simp only [cutsOk,Bool.and_eq_true,decide_eq_true_eq] at hok;obtain ⟨⟨⟨him,hmc⟩,hpf⟩,hok2⟩:=hok;obtain ⟨va1,h1,h2,h3⟩:=piece_yg (Ph:=Ph) (m:=m) aO size hsz hpf (fun x hx hx2=>by rw [hkd x hx aO]; simp only [kdAt]; rw [if_pos hx2]) hp;have hml:m<l.length:=aO
  have e:(l.drop m).take 1=[l[m]]:=by rw [List.drop_eq_getElem_cons hml]; rfl
  rw [e] at hrest;obtain ⟨hst,hrest⟩:=hrest;have hom:l.toArray[m]?=some l[m]:=by simp [hml]
  have hkm:kd m = .make N' b:=by rw [hkd m him hmc]; simp only [kdAt]; rw [if_neg aO]; simp
  obtain ⟨va2,Af,g1,g2,g3⟩:=gen_walk hcl size cs (m+1) k N (fun f=>(A f).put l[m].dst (b.val (f m))) K hok2 (fun f=>by rw [put_size]; exact h3 f) (fun j hj hj2=>by rw [hkd j aO hj2]; simp only [kdAt]; rw [if_neg aO,if_neg aO]) hrest;refine ⟨fun f j=>if j<m then va1 f j else if j=m then b.val (f m) else va2 f j,Af,g1,fun f=>?_,fun f f' j hj hj2 hnm hn=>?_⟩
  ·have hmj:=map_join (g:=fun j=>if j<m then va1 f j else if j=m then b.val (f m) else va2 f j) (g1:=va1 f) (g2:=fun j=>if j=m then b.val (f m) else va2 f j) him (Nat.le_of_lt hmc) (fun x _ hx=>if_pos hx) (fun x hx _=>if_neg aO);have hm2:(List.range' m (c - m)).map (fun j=>if j=m then b.val (f m) else va2 f j)=b.val (f m)::(List.range' (m+1) (c - (m+1))).map (va2 f):=by
    rw [range_head hmc,List.map_cons,if_pos rfl];congr 1;exact List.map_congr_left (fun x hx=>by have:=List.mem_range'_1.1 hx; exact if_neg aO)
   have hy2:YG l.toArray (DG P l.toArray T w Ph kd f) (m::List.range' (m+1) (c - (m+1))) (b.val (f m)::(List.range' (m+1) (c - (m+1))).map (va2 f)) (A f):=by
    refine ⟨⟨⟨_,hom⟩,_,hom,.inr (.inr ⟨N',b,hkm,rfl,hst f⟩)⟩,?_⟩;rw [dstOf_some hom]; exact (g2 f).1
   have hpc:puts l.toArray (m::List.range' (m+1) (c - (m+1))) (b.val (f m)::(List.range' (m+1) (c - (m+1))).map (va2 f)) (A f)=Af f:=by
    simp only [puts]; rw [dstOf_some hom]; exact (g2 f).2
   rw [<- (h1 f).2] at hy2 hpc;have hap:=yg_append _ _ _ _ _ (h1 f).1 hy2;rw [hmj,hm2,range_cut him (Nat.le_of_lt hmc),range_head hmc];exact ⟨hap.1,by rw [hap.2]; exact hpc⟩
  ·simp only []
   by_cases hjm:j<m
   ·rw [if_pos hjm,if_pos hjm];exact h2 f f' (by rw [hkd j hj hj2] at hn; simp only [kdAt] at hn; rw [if_pos hjm] at hn; exact hn) j hj hjm
   ·rw [if_neg hjm,if_neg hjm];have hje:j≠m:=fun e=>by rw [e,hkm] at hnm; cases hnm
    rw [if_neg hje,if_neg hje];exact g3 f f' j aO hj2 hnm hn
def genFit {T:List Nat} (l:List Oper) (kd:Nat->Kind T) (c ns N:Nat):Bool:=
 Region.noSelect l.toArray&&(l.zipIdx.all fun x=>x.1.after.all fun e=>!Region.binds .any e || decide (e.on<x.2)) &&
 ((List.range c).all fun i=>(List.range l.length).all fun j=>decide (j<=i) || apartFrom l i j) &&
 (l.zipIdx.all fun x=>decide (x.2<=c) || x.1.after.any fun e=>Region.binds .any e&&e.on==x.2 - 1) &&
 ((List.range c).all fun i=>(kd i).needs.all fun m=>decide (m<c)&&(kd m).isMake&&anc l.toArray N i m) &&
 ((List.range c).all fun i=>(decide (c=l.length) || (kd i).isFree || anc l.toArray N c i))&&decide (c<=l.length) &&
 ((List.range c).all fun i=>match kd i with
  | .step n _=>decide (n<ns)&&(List.range c).all fun i'=>match kd i' with
   | .step n' _=>(decide (n≠n') || decide (i=i'))&&(decide (n'≠n+1) || anc l.toArray N i' i)
   | _=>true
  | _=>true) &&
 ((List.range ns).all fun n=>(List.range c).any fun i=>match kd i with
  | .step n' _=>decide (n=n')
  | _=>false)
theorem genFit_of {l:List Oper} {kd:Nat->Kind T} {c ns N:Nat} (h:genFit l kd c ns N=true):GenFit l.toArray kd c ns N/\c<=l.length:=by
 simp only [genFit,Bool.and_eq_true] at h;obtain ⟨⟨⟨⟨⟨⟨⟨⟨h1,h2⟩,h3⟩,h4⟩,h5⟩,h6⟩,hlen⟩,h7⟩,h8⟩:=h;have hlen':c<=l.length:=by simpa using hlen
 have hst:∀ i i' n n' N1 N2,i<c->i'<c->kd i = .step n N1->kd i' = .step n' N2->n<ns/\(n≠n'\/i=i')/\(n'≠n+1\/anc l.toArray N i' i=true):=by
  intro i i' n n' N1 N2 hi hi' hk hk';have h9:=List.all_eq_true.1 h7 i (List.mem_range.2 hi);simp only [hk,Bool.and_eq_true,decide_eq_true_eq] at h9;have h10:=List.all_eq_true.1 h9.2 i' (List.mem_range.2 hi');simp only [hk',Bool.and_eq_true,Bool.or_eq_true,decide_eq_true_eq] at h10;exact ⟨h9.1,h10.1,h10.2⟩
 refine ⟨⟨fun j o cs b ho=>Region.noSelect_spec h1 j o cs b ho,fun j o ho e he hb=>?_,fun i j oi oj hi hij hoi hoj hno=>?_,fun j o hj ho=>?_,fun i hi m hm=>?_,fun i i' n _ _ hi hi' hk hk'=>?_,fun i n _ hi hk=>?_,fun n hn=>?_,fun i i' n _ _ hi hi' hk hk'=>?_,fun i hi hc=>?_⟩,hlen'⟩
 ·have h9:=List.all_eq_true.1 h2 _ (mem_zipIdx_of (by simpa using ho));have h10:=Array.all_eq_true'.1 h9 e he;simpa [hb] using h10
 ·have hjl:j<l.length:=by
   have:=(Zt.1 hoj).1; simpa using this
  have h9:=List.all_eq_true.1 (List.all_eq_true.1 h3 i (List.mem_range.2 hi)) j (List.mem_range.2 hjl);have e1:l[i]?=some oi:=by simpa using hoi
  have e2:l[j]?=some oj:=by simpa using hoj
  simp only [apartFrom,e1,e2,Bool.or_eq_true,decide_eq_true_eq] at h9;rcases h9 with h9 | h9 | h9
  ·omega
  ·obtain ⟨e,he,hb⟩:=Array.any_eq_true'.1 h9;simp only [Bool.and_eq_true,beq_iff_eq] at hb;exact absurd hb.2 (hno e he hb.1)
  ·exact h9
 ·have h9:=List.all_eq_true.1 h4 _ (mem_zipIdx_of (by simpa using ho));simp only [Bool.or_eq_true,decide_eq_true_eq] at h9;rcases h9 with h9 | h9
  ·omega
  ·obtain ⟨e,he,hb⟩:=Array.any_eq_true'.1 h9;simp only [Bool.and_eq_true,beq_iff_eq] at hb;exact ⟨e,he,hb.1,hb.2⟩
 ·have h9:=List.all_eq_true.1 (List.all_eq_true.1 h5 i (List.mem_range.2 hi)) m hm;simp only [Bool.and_eq_true,decide_eq_true_eq] at h9;exact ⟨h9.1.1,h9.1.2,h9.2⟩
 ·rcases (hst i i' n n _ _ hi hi' hk hk').2.1 with h | h
  ·exact absurd rfl h
  ·exact h
 ·exact (hst i i n n _ _ hi hi hk hk).1
 ·have h9:=List.all_eq_true.1 h8 n (List.mem_range.2 hn);obtain ⟨i,hi,hb⟩:=List.any_eq_true.1 h9;refine ⟨i,?_⟩;have hi2:i<c/\i<l.toArray.size:=⟨List.mem_range.1 hi,by have:=List.mem_range.1 hi; simp; omega⟩;cases hk:kd i with
  | quiet N=>simp [hk] at hb
  | step n' N1=>simp [hk] at hb; subst hb; exact ⟨N1,hi2.1,hi2.2,rfl⟩
  | make N b=>simp [hk] at hb
 ·rcases (hst i i' n (n+1) _ _ hi hi' hk hk').2.2 with h | h
  ·exact absurd rfl h
  ·exact h
 ·have h9:=List.all_eq_true.1 h6 i (List.mem_range.2 hi);simp only [Bool.or_eq_true,decide_eq_true_eq] at h9;rcases h9 with (h9 | h9) | h9
  ·simp at hc; omega
  ·exact .inl h9
  ·exact .inr h9
theorem any_gen {a:Act} {l:List Oper} (n0:Nat) (cs:List (Cut T)) (c ns N:Nat) (Ph:Nat->World->Prop) (hPB:∀ k u u',Ph k u->Below u.heap.size u u'->Ph k u') (hP0:Ph 0 w)
 (hn0:n0<=c) (hB:genFit l (kdAt [] 0 cs) c ns N=true) (hbefore:((List.range n0).all fun i=>(kdAt [] 0 cs i).isFree)=true) (hp:cutsOk l c a.tmps.size n0 cs=true)
 (h:genWalk P l T w Ph (kdAt [] 0 cs) c n0 0 [] cs (fun _=>a) (fun A=>∀ f u',Upd T w u'->Ph ns u'->(∀ m,m<c->(kdAt [] 0 cs m).isMake=true->Made T w (kdAt [] 0 cs) f m u') ->
  (∀ m m',m<c->m'<c->(kdAt [] 0 cs m).isMake=true->(kdAt [] 0 cs m').isMake=true->m≠m'->(f m).1≠(f m').1)->effChain P l.toArray T w (Q .normal) (l.drop c) (A f) u'))
 {u:World} (hwu:Below w.heap.size w u) {listed:Array Bool} (hls:listed.size=l.length) (hl1:∀ i,i<n0->listed.getD i true=true) (hl2:∀ i,n0<=i->i<l.length->listed.getD i true=false) :
 wpAny P .any l.toArray Q (l.length - n0) listed a u:=by
 obtain ⟨F,hcl⟩:=genFit_of hB;obtain ⟨va,Af,hK,hY,hloc⟩:=gen_walk (P:=P) (w:=w) (Ph:=Ph) (kd:=kdAt [] 0 cs) hcl a.tmps.size cs n0 0 [] (fun _=>a) _ hp (fun _=>rfl) (fun _ _ _=>rfl) h;have hfr:∀ i,i<n0->(kdAt [] 0 cs i).isMake=false/\∀ n N1,kdAt [] 0 cs i ≠ .step n N1:=fun i hi=>by
  have h1:=List.all_eq_true.1 hbefore i (List.mem_range.2 hi);revert h1;cases kdAt [] 0 cs i with
  | quiet N=>exact fun _=>⟨rfl,fun _ _ h=>by cases h⟩
  | step n N=>exact fun h=>by cases h
  | make N b=>exact fun h=>by cases h
 have hlen:(List.range' n0 (c - n0)).length=c - n0:=aS
 refine gen_main (P:=P) (T:=T) (w:=w) (Q:=Q) (va:=fun f i=>if i<c then (if n0<=i then va f i else undef) else undef) F hPB (fun f f' i hnm hn=>?_) (l.length - n0) (List.range' n0 (c - n0)) (l.drop c) c listed a u 0 (fun _=>True)
  (by rw [hlen]; simp; omega) (by simpa using hls) aT (Zr _) (fun i=>by rw [List.getElem?_drop]; simp) List.pairwise_lt_range'
  (fun i hi=>by have:=List.mem_range'_1.1 hi; simp; omega)
  (fun i hi=>by
   have hi':i<l.length:=by simpa using hi
   rw [List.mem_range'_1];rcases Nat.lt_or_ge i n0 with h1 | h1
   ·rw [hl1 i h1]; simp; omega
   ·rw [hl2 i h1 hi']; simp; omega)
  (fun i o ho hi e he hb=>by
   have h1:=F.back i o ho e he hb;have hil:i<l.length:=by have:=(Zt.1 ho).1; simpa using this
   have hin:i<n0:=by
    rcases Nat.lt_or_ge i n0 with h2 | h2
    ·exact h2
    ·have h3:=hl2 i h2 hil;rw [Array.getD_eq_getD_getElem?,Array.getElem?_eq_getElem aO] at hi h3;simp only [Option.getD_some] at hi h3;rw [hi] at h3; cases h3
   have h4:=hl1 e.on aO;rw [Array.getD_eq_getD_getElem?,Array.getElem?_eq_getElem aO] at h4 ⊢;exact h4)
  ⟨fun _=>(0,0),trivial⟩ (fun _ _ _ _ _=>trivial) (fun f f' _ _ m h1 h2 h3=>by
   rcases Nat.lt_or_ge m n0 with h4 | h4
   ·rw [(hfr m h4).1] at h2; cases h2
   ·exact absurd (List.mem_range'_1.2 aO) h3) (fun f _=>?_) (Keeps.of_below hwu)
  (fun i n N1 hi _ hk=>⟨fun _=>Nat.zero_le _,fun _=>by
   rcases Nat.lt_or_ge i n0 with h4 | h4
   ·exact absurd hk ((hfr i h4).2 n N1)
   ·exact List.mem_range'_1.2 aO⟩) (Nat.zero_le _)
  (.inl ⟨rfl,hPB _ _ _ hP0 hwu,fun f _ m h1 h2 h3=>by
   rcases Nat.lt_or_ge m n0 with h4 | h4
   ·rw [(hfr m h4).1] at h2; cases h2
   ·exact absurd (List.mem_range'_1.2 aO) h3,fun f _ m m' h1 _ h2 _ h3 _=>by
   rcases Nat.lt_or_ge m n0 with h4 | h4
   ·rw [(hfr m h4).1] at h2; cases h2
   ·exact absurd (List.mem_range'_1.2 aO) h3,fun f _ u' h1 h2 h3 h4=>?_⟩)
 ·by_cases hi:i<c
  ·rw [if_pos hi,if_pos hi]
   by_cases hi2:n0<=i
   ·rw [if_pos hi2,if_pos hi2]; exact hloc f f' i hi2 hi hnm hn
   ·rw [if_neg hi2,if_neg hi2]
  ·rw [if_neg hi,if_neg hi]
 ·have e:(List.range' n0 (c - n0)).map (fun i=>if i<c then (if n0<=i then va f i else undef) else undef)=(List.range' n0 (c - n0)).map (va f):=List.map_congr_left (fun x hx=>by have:=List.mem_range'_1.1 hx; rw [if_pos aO,if_pos aO]);rw [e]; exact (hY f).1
 ·have e:(List.range' n0 (c - n0)).map (fun i=>if i<c then (if n0<=i then va f i else undef) else undef)=(List.range' n0 (c - n0)).map (va f):=List.map_congr_left (fun x hx=>by have:=List.mem_range'_1.1 hx; rw [if_pos aO,if_pos aO]);rw [e,(hY f).2];exact hK f u' ((Upd.of_below hwu).trans h1) h2 h3 h4
theorem region_gen {id:Nat} {a:Act} {l:List Oper} (cs:List (Cut T)) (c ns N:Nat) (Ph:Nat->World->Prop) (hPB:∀ k u u',Ph k u->Below u.heap.size u u'->Ph k u') (hP0:Ph 0 w)
 (hm:P.follows .mixedOrders=true) (hB:genFit l (kdAt [] 0 cs) c ns N=true) (hp:cutsOk l c a.tmps.size 0 cs=true)
 (h:genWalk P l T w Ph (kdAt [] 0 cs) c 0 0 [] cs (fun _=>a) (fun A=>∀ f u',Upd T w u'->Ph ns u'->(∀ m,m<c->(kdAt [] 0 cs m).isMake=true->Made T w (kdAt [] 0 cs) f m u') ->
  (∀ m m',m<c->m'<c->(kdAt [] 0 cs m).isMake=true->(kdAt [] 0 cs m').isMake=true->m≠m'->(f m).1≠(f m').1)->effChain P l.toArray T w (Q .normal) (l.drop c) (A f) u')):(Code.region id l.toArray true).wp P Q a w:=by
 refine wp_region_any hm ?_;have:=any_gen (P:=P) (Q:=Q) (a:=a) (l:=l) 0 cs c ns N Ph hPB hP0 (Nat.zero_le _) hB rfl hp h (u:=w.drew) (Zb _ _).drew (listed:=Array.replicate l.toArray.size false) aS (fun i hi=>aO) (fun i _ hi=>by simp [hi]);simpa using this
end
theorem one_of {l:List Oper} {m:Nat} {o:Oper} {K:Oper->Prop} (h:l[m]?=some o) (k:K o):oneOp ((l.drop m).take 1) K:=by
 have e:(l.drop m).take 1=[o]:=by
  obtain ⟨h1,h2⟩:=List.getElem?_eq_some_iff.1 h;rw [List.drop_eq_getElem_cons h1,h2]; rfl
 rw [e]; exact k
def ownB (T:List Nat) (cs:Array Value) (val:Nat->Value):EBS T where
 val p:=val p.1
 R p u:=p.1∉T/\Own u p.1 cs
 st _ _ _ h k:=⟨h.1,h.2.upd k h.1⟩
theorem make_own {P:Program} {T:List Nat} {o:Oper} {A:Act} {u:World} {cs:Array Value} {e:TypeId} {val:Nat->Value} (hrun:(execOp A.eval o).run P u = .ok (.value (val u.heap.size)) (u.alloc (.cells cs e))) (hT:u.heap.size∉T) :
 lateOp P o A u (fun v' u'=>∃ p:Nat×Nat,v'=(ownB T cs val).val p/\u.heap.size<=p.1/\p.1<u'.heap.size/\Below u.heap.size u u'/\(ownB T cs val).R p u'):=by
 unfold lateOp;rw [hrun];exact ⟨(u.heap.size,0),rfl,Zr _,aS,(Zb _ _).alloc (Zr _) _,hT,Own.new rfl⟩
theorem make_call {P:Program} {T:List Nat} {o:Oper} {A:Act} {u:World} {b:EBS T} {f:FuncId} {args:Array Value} (hrun:(execOp A.eval o).run P u = .ok (.enter f args) u)
 (hc:Calls P f args u fun e w'=>∃ p:Nat×Nat,e = .returned (b.val p)/\u.heap.size<=p.1/\p.1<w'.heap.size/\Below u.heap.size u w'/\b.R p w') :
 lateOp P o A u (fun v' u'=>∃ p:Nat×Nat,v'=b.val p/\u.heap.size<=p.1/\p.1<u'.heap.size/\Below u.heap.size u u'/\b.R p u'):=by
 unfold lateOp;rw [hrun];exact hc.mono fun e w' ⟨p,h1,h2⟩=>⟨_,h1,p,rfl,h2⟩
theorem ownB_val {T:List Nat} {cs:Array Value} {val:Nat->Value} {p:Nat×Nat}:(ownB T cs val).val p=val p.1:=rfl
end Go.Proofs.YtflolbnnkbdmfaaGreat
