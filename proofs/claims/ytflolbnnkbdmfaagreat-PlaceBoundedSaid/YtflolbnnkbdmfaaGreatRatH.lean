import Derived.Test.YtflolbnnkbdmfaaGreatRatE
set_option linter.all false
namespace Go.Proofs.YtflolbnnkbdmfaaGreat
open Go.RowKit
set_option maxHeartbeats 8000000
set_option maxRecDepth 100000
def prodV (z:Int) (b:Nat):Value:= .agg #[.bool (sgnN z),slN z b,.bool (fits z)]
def RetP (w:World) (z:Int) (r:Ending) (w':World):Prop:=(∃ b,r = .returned (prodV z b)/\NumO w' b z/\w.heap.size<=b/\b<w'.heap.size)/\Below w.heap.size w w'
theorem ratio_times {w:World} {v1 v2:Value} {z1 z2:Int} (h1:NumAt w v1 z1) (h2:NumAt w v2 z2):Calls Tryz.prog 113 #[v1,v2] w (RetP w (z1*z2)):=by
 obtain ⟨z,hz⟩:=Zx (z1*z2);rw [hz];have G1:=Zh h1;have G2:=Zh h2;obtain ⟨r1,k1⟩:=h1.raw;obtain ⟨r2,k2⟩:=h2.raw;obtain ⟨A1,n1,c1,rfl,hc1,hm1,hl1,d1⟩:=h1;obtain ⟨A2,n2,c2,rfl,hc2,hm2,hl2,d2⟩:=h2;obtain ⟨s1,hs1⟩:=Zx (decide (z1<0));obtain ⟨s2,hs2⟩:=Zx (decide (z2<0));rw [hs1] at r1 k1 G1 ⊢;rw [hs2] at r2 k2 G2 ⊢;have H:=Zh (Zi hz (Zi hs1 hs2));clear hz hs1 hs2 d1 d2 r1 k1 r2 k2;go_enter Tryz.func113,Tryz.ntmps113;have hW:=((((Zb w.heap.size w).alloc (Zr _) (.cells #[.bool s1,.slice A1 n1 c1] 40)).alloc aS (.cells #[.bool s2,.slice A2 n2 c2] 40)).alloc aT (.cells #[.bool false,.slice none 0 0,.bool false] 176));go_wp2_with fail;have o6:Own (((w.alloc (.cells #[.bool s1,.slice A1 n1 c1] 40)).alloc (.cells #[.bool s2,.slice A2 n2 c2] 40)).alloc (.cells #[.bool false,.slice none 0 0,.bool false] 176)) (w.heap.size+1+1) #[.bool false,.slice none 0 0,.bool false]:=aOwn;generalize (((w.alloc (.cells #[.bool s1,.slice A1 n1 c1] 40)).alloc (.cells #[.bool s2,.slice A2 n2 c2] 40)).alloc (.cells #[.bool false,.slice none 0 0,.bool false] 176))=W0 at *;have q:=num_Mul (G1.out.below hW) (G2.out.below hW);rw [H.out.1] at q;refine Zd q ?_;rintro e u1 ⟨⟨b,rfl,g2,g3,g1⟩,hb⟩;obtain ⟨A9,n9,c9,hsl⟩:=slN_form z b;simp only [numV];rw [hsl];obtain ⟨ok,hok⟩:=Zx (fits z);rw [hok];have HSL:=Zh (Zi hsl hok);have hk:=(Zb u1.heap.size u1).alloc (Zr _) (.cells #[.bool (sgnN z),.slice A9 n9 c9] 40);have hbz:=hb.size;have HB:=Zh (Zi (Zl o6.lt g2) (Zi g3 (g1.below hk)));have hw:=hW.trans ((hb.trans (hk.mono hbz)).mono hW.size);have p2:=(o6.below hb).below hk;have p2c:=p2.cell;have p2f:=p2.thaw;clear hsl hok g1 g2 g3 hk hb;go_wp2;refine retC (b:=w.heap.size+1+1) (v:= .agg #[.bool (sgnN z),.slice A9 n9 c9,.bool ok]) (((p2.set 0 _).set 1 _).set 2 _) (fun w' hw'=>by simp [results,Tryz.results113,go_sem,hw']) rfl ⟨⟨b,by rw [prodV,HSL.out.1,HSL.out.2],((HB.out.2.2.far (by simp; have:=HB.out.1; omega) _).far (by simp; have:=HB.out.1; omega) _).far (by simp; have:=HB.out.1; omega) _,by have:=HB.out.1; omega,by have:=HB.out.2.1; simp; omega⟩,((hw.setCell aT _).setCell aT _).setCell aT _⟩
def rnE (σ:Nat->Nat) (e:Edge):Edge:={ e with on:=σ e.on }
def rnO (σ:Nat->Nat) (o:Oper):Oper:={ o with after:=o.after.map (rnE σ),guard:=o.guard.map fun g=>(σ g.1,g.2) }
section
variable {P:Program} {ops ops':Array Oper} {σ:Nat->Nat} {md:Region.Mode}
theorem wp_rn {Q:Exit->Act->World->Prop} {K:Act->World->Prop} {a:Act} {w:World} (o:Oper):(rnO σ o).wp P a w K Q=o.wp P a w K Q:=rfl
theorem mem_ready {listed:Array Bool} {i:Nat}:i∈Region.ready md ops listed↔listed.getD i true=false/\∃ o,ops[i]?=some o/\∀ e∈o.after,Region.binds md e=true->listed.getD e.on false=true:=by
 unfold Region.ready;rw [List.mem_filter,List.mem_range,Bool.and_eq_true];constructor
 ·rintro ⟨h1,h2,h3⟩;have ho:ops[i]?=some ops[i]:=Array.getElem?_eq_getElem h1;refine ⟨by simpa using h2,_,ho,fun e he hb=>?_⟩;rw [ho] at h3;simp only [Option.map_some,Option.getD_some] at h3;have q:=Array.all_eq_true'.1 h3 e he;simpa [hb] using q
 ·rintro ⟨h1,o,ho,h2⟩;refine ⟨(Zt.1 ho).1,by simpa using h1,?_⟩;rw [ho];simp only [Option.map_some,Option.getD_some];rw [Array.all_eq_true'];intro e he;cases hb:Region.binds md e with
  | false=>simp
  | true=>simpa using h2 e he hb
structure Perm (ops ops':Array Oper) (σ:Nat->Nat):Prop where
 size:ops'.size=ops.size
 lt:∀ i,i<ops.size->σ i<ops.size
 inj:∀ i j,i<ops.size->j<ops.size->σ i=σ j->i=j
 on:∀ j,j<ops.size->∃ i,i<ops.size/\σ i=j
 at_:∀ (i:Nat) (o:Oper),ops[i]?=some o->ops'[σ i]?=some (rnO σ o)
 edge:∀ (i:Nat) (o:Oper),ops[i]?=some o->∀ e∈o.after,e.on<ops.size
 guard:∀ (i:Nat) (o:Oper),ops[i]?=some o->∀ g,o.guard=some g->g.1<ops.size
theorem Perm.yielded (p:Perm ops ops' σ) {t:Array Value} {j:Nat} (hj:j<ops.size):yielded ops' t (σ j)=yielded ops t j:=by
 have ho:ops[j]?=some ops[j]:=Array.getElem?_eq_getElem hj;unfold Go.yielded;rw [p.at_ j _ ho,ho];rfl
theorem Perm.wanted (p:Perm ops ops' σ) {t:Array Value} {i:Nat} {o:Oper} (ho:ops[i]?=some o):Region.wanted (rnO σ o) (Go.yielded ops' t)=Region.wanted o (Go.yielded ops t):=by
 unfold Region.wanted rnO;cases hg:o.guard with
 | none=>rfl
 | some g =>
  obtain ⟨j,b⟩:=g;simp only [Option.map_some];rw [p.yielded (p.guard i o ho _ hg)]
theorem Perm.ready (p:Perm ops ops' σ) {listed listed':Array Bool} (h:∀ i,i<ops.size->listed'[σ i]?=listed[i]?) {i:Nat} (hi:i<ops.size) :
 σ i∈Region.ready md ops' listed'↔i∈Region.ready md ops listed:=by
 have ho:ops[i]?=some ops[i]:=Array.getElem?_eq_getElem hi;have gd:∀ j d,j<ops.size->listed'.getD (σ j) d=listed.getD j d:=fun j d hj=>by
  rw [Array.getD_eq_getD_getElem?,Array.getD_eq_getD_getElem?,h j hj]
 rw [mem_ready,mem_ready,gd i true hi];refine and_congr_right fun _=>?_
 constructor
 ·rintro ⟨o',ho',he⟩;rw [p.at_ i _ ho] at ho';cases ho';refine ⟨_,ho,fun e hm hb=>?_⟩;have q:=he (rnE σ e) (Array.mem_map.2 ⟨e,hm,rfl⟩) hb;exact (gd e.on false (p.edge i _ ho e hm)).symm.trans q
 ·rintro ⟨o,ho2,he⟩;refine ⟨_,p.at_ i o ho2,fun e' hm hb=>?_⟩;obtain ⟨e,hm2,rfl⟩:=Array.mem_map.1 hm;exact (gd e.on false (p.edge i o ho2 e hm2)).trans (he e hm2 hb)
theorem ready_lt {listed:Array Bool} {i:Nat} (h:i∈Region.ready md ops listed):i<ops.size:=by
 obtain ⟨_,o,ho,_⟩:=mem_ready.1 h;exact (Zt.1 ho).1
theorem Perm.empty (p:Perm ops ops' σ) {listed listed':Array Bool} (h:∀ i,i<ops.size->listed'[σ i]?=listed[i]?) :
 Region.ready md ops' listed'=[]↔Region.ready md ops listed=[]:=by
 constructor
 ·intro e;rw [List.eq_nil_iff_forall_not_mem];intro i hi;have:=(p.ready h (ready_lt hi)).2 hi;rw [e] at this;cases this
 ·intro e;rw [List.eq_nil_iff_forall_not_mem];intro j hj;have hl:=ready_lt hj;rw [p.size] at hl;obtain ⟨i,hi,rfl⟩:=p.on j hl;have:=(p.ready h hi).1 hj;rw [e] at this;cases this
theorem perm_main {Q:Exit->Act->World->Prop} (p:Perm ops ops' σ):∀ (fuel:Nat) (listed listed':Array Bool) (a:Act) (w:World),listed.size=ops.size->listed'.size=ops.size ->
 (∀ i,i<ops.size->listed'[σ i]?=listed[i]?)->wpAny P md ops' Q fuel listed' a w->wpAny P md ops Q fuel listed a w:=by
 intro fuel
 induction fuel with
 | zero =>
  intro listed listed' a w h1 h2 h hw;exact ⟨(p.empty h).1 hw.1,hw.2⟩
 | succ fuel ih =>
  intro listed listed' a w h1 h2 h hw;refine ⟨fun e=>hw.1 ((p.empty h).2 e),fun i hi=>?_⟩;have hil:=ready_lt hi;have ho:ops[i]?=some ops[i]:=Array.getElem?_eq_getElem hil;have q:=hw.2 (σ i) ((p.ready h hil).2 hi);have step:∀ a w,wpAny P md ops' Q fuel (listed'.setIfInBounds (σ i) true) a w->wpAny P md ops Q fuel (listed.setIfInBounds i true) a w:=fun a w hk =>
   ih _ _ a w (by simpa using h1) (by simpa using h2) (fun j hj=>by
    rw [Array.getElem?_setIfInBounds,Array.getElem?_setIfInBounds]
    by_cases e:i=j
    ·subst e;have:=p.lt i hj;rw [if_pos rfl,if_pos rfl,if_pos aO,if_pos aO]
    ·rw [if_neg (fun e2=>e (p.inj i j hil hj e2)),if_neg e];exact h j hj) hk
  unfold wpOp at q ⊢;rw [p.at_ i _ ho] at q;rw [ho];simp only [] at q ⊢;rw [p.wanted ho] at q
  by_cases hwt:Region.wanted ops[i] (Go.yielded ops a.tmps)=true
  ·rw [if_pos hwt] at q ⊢;rw [wp_rn] at q;rcases q with q | ⟨q1,q2⟩
   ·exact .inl (Oper.wp_mono step q)
   ·exact .inr ⟨q1,q2⟩
  ·rw [if_neg hwt] at q ⊢;exact step _ _ q
end
def noOper : Oper := { dst := none, op := .move (.const undef), type := 0, pos := "", after := #[], guard := none }
def tab (τ:List Nat) (j:Nat):Nat:=τ.getD j j
def pickO (σ:Nat->Nat):Option Oper->Oper
 | some o=>rnO σ o
 | none=>noOper
def permOps (l:List Oper) (π τ:List Nat):List Oper:=π.map fun i=>pickO (tab τ) l[i]?
def permFit (l:List Oper) (π τ:List Nat):Bool:=
 decide (π.length=l.length)&&decide (τ.length=l.length)&&((List.range l.length).all fun i=>decide (tab τ i<l.length)&&decide (π[tab τ i]?=some i)) &&
 ((List.range l.length).all fun j=>decide (π.getD j l.length<l.length)&&decide (tab τ (π.getD j l.length)=j)) &&
 (l.all fun o=>(o.after.all fun e=>decide (e.on<l.length))&&(match o.guard with | none=>true | some g=>decide (g.1<l.length)))
theorem perm_of {l:List Oper} {π τ:List Nat} (h:permFit l π τ=true):Perm l.toArray (permOps l π τ).toArray (tab τ):=by
 simp only [permFit,Bool.and_eq_true,decide_eq_true_eq,List.all_eq_true,List.mem_range] at h;obtain ⟨⟨⟨⟨h1,h2⟩,h3⟩,h4⟩,h5⟩:=h;refine ⟨by simp [permOps,h1],fun i hi=>by have:=h3 i (by simpa using hi); simpa using this.1,fun i j hi hj e=>?_,fun j hj=>?_,fun i o ho=>?_,fun i o ho e he=>?_,fun i o ho g hg=>?_⟩
 ·have q1:=(h3 i (by simpa using hi)).2;have q2:=(h3 j (by simpa using hj)).2;rw [e,q2] at q1;exact (Option.some.inj q1).symm
 ·have q:=h4 j (by simpa using hj);exact ⟨_,by simpa using q.1,q.2⟩
 ·have hi:i<l.length:=by have:=(Zt.1 ho).1; simpa using this
  have q:=(h3 i hi).2;have ho':l[i]?=some o:=by simpa using ho
  simp only [permOps,List.getElem?_toArray,List.getElem?_map,q,Option.map_some,ho',pickO]
 ·have ho':l[i]?=some o:=by simpa using ho
  have q:=(h5 o (List.mem_of_getElem? ho')).1;have:=Array.all_eq_true'.1 q e he;simpa using this
 ·have ho':l[i]?=some o:=by simpa using ho
  have q:=(h5 o (List.mem_of_getElem? ho')).2;rw [hg] at q;simpa using q
section
variable {P:Program} {T:List Nat} {w:World} {Q:Exit->Act->World->Prop}
end
section
variable {P:Program} {T:List Nat} {w:World} {Q:Exit->Act->World->Prop}
theorem region_sinkp {id:Nat} {a:Act} {l:List Oper} (π τ:List Nat) (l':List Oper) (hl:permOps l π τ=l') (hf:permFit l π τ=true) (n:Nat) (T:List Nat) (hm:P.follows .mixedOrders=true) (hB:lateFit l' n (l'.length - n)=true) (hp:placesFit (l'.take n) a.tmps.size=true)
 (h:∃ A,(∀ v,Keeps T w v->Nonempty (Later T w v)->wpQuiet P l'.toArray (fun w'=>∃ x:Later T w v,w'=x.u) (fun a'=>a'=A) (l'.take n) a) /\
  (∀ u,Below w.heap.size w u->wpSink P l'.toArray n true T w (Q .normal) (l'.drop n) A u)):(Code.region id l.toArray true).wp P Q a w:=by
 subst hl;have p:=perm_of hf;refine wp_region_any hm ?_;have hnl:n+((permOps l π τ).length - n)<=(permOps l π τ).length:=by simp only [lateFit,Bool.and_eq_true,decide_eq_true_eq] at hB; exact hB.2
 have e1:(permOps l π τ).drop (n+((permOps l π τ).length - n))=[]:=List.drop_eq_nil_of_le aO;have e2:((permOps l π τ).drop n).take ((permOps l π τ).length - n)=(permOps l π τ).drop n:=List.take_of_length_le aS;have e3:(n+((permOps l π τ).length - n)==(permOps l π τ).length)=true:=aT
 have q:=sink_any (P:=P) (w:=w) (Q:=Q) (a:=a) (l:=permOps l π τ) n ((permOps l π τ).length - n) T hB (by rw [e1,List.append_nil]; exact hp) (by rw [e1,List.append_nil,e2,e3]; exact h);rw [p.size] at q;refine perm_main p _ _ _ _ _ aS aS (fun i hi=>?_) q;have:=p.lt i hi;rw [Array.getElem?_replicate,Array.getElem?_replicate,if_pos this,if_pos hi]
end
def ratV (p q:Int) (b1 b2:Nat):Value:= .agg #[.bool (sgnN p),slN p b1,.bool (sgnN q),slN q b2]
def RetR (w:World) (p q:Int) (r:Ending) (w':World):Prop:=(∃ b1 b2,r = .returned (.tuple #[ratV p q b1 b2,.bool true])/\NumO w' b1 p/\NumO w' b2 q/\w.heap.size<=b1/\b1<w'.heap.size/\w.heap.size<=b2/\b2<w'.heap.size)/\Below w.heap.size w w'
theorem noU_rat:noU nz2:=fun i d h=>by
 match i with
 | 0=>cases h
 | 1=>cases h
 | 2=>cases h
 | 3=>cases h
 | i+4=>simp at h
theorem NumAt.keepU {T:List Nat} {w u:World} {v:Value} {z:Int} (h:NumAt w v z) (hk:Keeps T w u) (hT:∀ b∈T,∃ cs,Own w b cs/\noU cs):NumAt u v z:=by
 obtain ⟨A,n,c,e,h1,h2,h3,h4⟩:=h;exact ⟨A,n,c,e,h1,h2,h3,h4.keepU hk hT⟩
def ofN (n d:Int):Int:=(if d<0 then -n else n) / ((Nat.gcd n.natAbs d.natAbs:Nat):Int)
def ofD (n d:Int):Int:=(if d<0 then -d else d) / ((Nat.gcd n.natAbs d.natAbs:Nat):Int)
theorem ratio_Of_pos {w:World} {v1 v2:Value} {z1 z2:Int} (h1:NumAt w v1 z1) (h2:NumAt w v2 z2) (h0:0<z2):Calls Tryz.prog 46 #[v1,v2] w (RetR w (ofN z1 z2) (ofD z1 z2)):=by
 obtain ⟨y,hy⟩:=Zx (ofD z1 z2);rw [hy];have HY:=Zh (Zi hy h0);clear hy h0;obtain ⟨z,hz⟩:=Zx (ofN z1 z2);rw [hz];have G1:=Zh h1;have G2:=Zh h2;obtain ⟨r1,k1⟩:=h1.raw;obtain ⟨r2,k2⟩:=h2.raw;obtain ⟨A1,n1,c1,rfl,hc1,hm1,hl1,d1⟩:=h1;obtain ⟨A2,n2,c2,rfl,hc2,hm2,hl2,d2⟩:=h2;obtain ⟨s1,hs1⟩:=Zx (decide (z1<0));obtain ⟨s2,hs2⟩:=Zx (decide (z2<0));rw [hs1] at r1 k1 G1 ⊢;rw [hs2] at r2 k2 G2 ⊢;have H:=Zh (Zi hz (Zi hs1 hs2));clear hz hs1 hs2 d1 d2 r1 k1 r2 k2;have HS2:Hid (s2=false):=Zh (by rw [<- H.out.2.2]; exact decide_eq_false (by have:=HY.out.2; omega));go_enter Tryz.func46,Tryz.ntmps46;have hW:=((((Zb w.heap.size w).alloc (Zr _) (.cells #[.bool s1,.slice A1 n1 c1] 40)).alloc aS (.cells #[.bool s2,.slice A2 n2 c2] 40)).alloc aT (.cells nz2 42));have o2:Own (((w.alloc (.cells #[.bool s1,.slice A1 n1 c1] 40)).alloc (.cells #[.bool s2,.slice A2 n2 c2] 40)).alloc (.cells nz2 42)) w.heap.size #[.bool s1,.slice A1 n1 c1]:=aOwn;have o3:Own (((w.alloc (.cells #[.bool s1,.slice A1 n1 c1] 40)).alloc (.cells #[.bool s2,.slice A2 n2 c2] 40)).alloc (.cells nz2 42)) (w.heap.size+1) #[.bool s2,.slice A2 n2 c2]:=aOwn;have o4:Own (((w.alloc (.cells #[.bool s1,.slice A1 n1 c1] 40)).alloc (.cells #[.bool s2,.slice A2 n2 c2] 40)).alloc (.cells nz2 42)) (w.heap.size+1+1) nz2:=aOwn;go_wp2;generalize (((w.alloc (.cells #[.bool s1,.slice A1 n1 c1] 40)).alloc (.cells #[.bool s2,.slice A2 n2 c2] 40)).alloc (.cells nz2 42))=W0 at *;refine region_gen (T:=[]) [.make 2 [] (ownB [] #[.bool s1,.slice A1 n1 c1,.bool s2,.slice A2 n2 c2] (fun p=>.slice (some ⟨p,0,none⟩) 2 2)),.need 3 [2],.need 4 []] 11 0 40 (fun _ _=>True) (fun _ _ _ _ _=>trivial) trivial aK aK (by rfl) ?_;have q_d2:=fun v y=>(o2.later (v:=v) (T:=[]) aS y).cell
 have q_d3:=fun v y=>(o3.later (v:=v) (T:=[]) aS y).cell
 unfold genWalk;refine ⟨_,pz1,?_⟩;refine one_of (by rfl) ⟨fun f=>⟨rfl,fun u hu _=>?_⟩,?_⟩
 ·refine make_own (e:=40) gA1 aS
 unfold genWalk;refine ⟨_,pz6,?_⟩;unfold genWalk;apply Zs;apply Zi
 ·apply Piece.mk
  ·intro f v hv hr hne;simp only [TK,Nat.reduceSub,Nat.reduceAdd]
   (try simp only [LN])
   (try simp only [VB1])
   have h4:Own v (f 2).1 #[.bool s1,.slice A1 n1 c1,.bool s2,.slice A2 n2 c2]:=(hr 2 aS).2;have k4:=fun x:Later [] W0 v=>Own.below h4 x.g
   have L1:=fun x:Later [] W0 v=>NumAt.keeps (G1.out.below hW) x.h
   have L2:=fun x:Later [] W0 v=>NumAt.keeps (G2.out.below hW) x.h
   repeat (go_big_quiet_step ((go_at_call 117; with_reducible exact lateB (ratio_right2 (k4 _) (L1 _) (L2 _)))))
   refine wpQuiet_nil ?_;exact rfl
  ·intro f; kernel_rfl
  ·intro f f' hf; first | (simp; done) | (simp [hf 2 aS])
 unfold genWalk;apply Zs;apply Zi
 ·apply Piece.mk
  ·intro f v hv hr hne;simp only [TK,Nat.reduceSub,Nat.reduceAdd]
   (try simp only [LN])
   (try simp only [VB1])
   have d3:=fun y=>(o3.later (v:=v) (T:=[]) aS y).cell
   have L2:=fun x:Later [] W0 v=>NumAt.keeps (G2.out.below hW) x.h
   repeat (go_big_quiet_step (first | (go_at_call 108; with_reducible exact lateB ratio_zero) | (go_at_call 107; with_reducible exact lateB (cmp_zero (ordI_gt HY.out.2) (L2 _)))))
   refine wpQuiet_nil ?_;exact rfl
  ·intro f; kernel_rfl
  ·intro f f' hf; simp
 intro f u' hup hph hmade hdist;refine effc_nil ?_;simp only [TK,Nat.reduceSub,Nat.reduceAdd]
 (try simp only [LN])
 (try simp only [VB1])
 clear hmade hdist hph;have hwU:Below w.heap.size w u':=Upd.below hW hup aS;have p2:=o2.upd hup aS;have p3:=o3.upd hup aS;have p4:=o4.upd hup aS;have M1:=Zh (NumAt.keeps (G1.out.below hW) (Upd.keeps (Keeps.refl _ _) hup));have M2:=Zh (NumAt.keeps (G2.out.below hW) (Upd.keeps (Keeps.refl _ _) hup));generalize (f 2).1=b4 at *;clear f hup o2 o3 o4 hW;have hzU:=hwU.size;have p2c:=p2.cell;have p3c:=p3.cell;have hs2:=HS2.out;subst hs2;go_wp2_with fail;obtain ⟨g,hg⟩:∃ g:Nat,Nat.gcd z1.natAbs z2.natAbs=g:=⟨_,rfl⟩;have hz20:=HY.out.2;have hgf:fits (g:Int)=true:=fits_le (b:=z2) (by rw [<- hg]; exact Nat.le_of_dvd aO (Nat.gcd_dvd_right _ _)) (NumAt.fits M2.out);have hg0:(g:Int)≠0:=by
  have:0<Nat.gcd z1.natAbs z2.natAbs:=Nat.gcd_pos_of_pos_right _ aO;omega
 have HD:Hid (z1 / (g:Int)=z/\z2 / (g:Int)=y):=Zh (by
  have e1:=H.out.1;have e2:=HY.out.1;unfold ofN at e1;unfold ofD at e2;rw [if_neg aO,hg] at e1 e2;exact ⟨e1,e2⟩)
 have qq:=num_Gcd M1.out M2.out;rw [hg] at qq;have HGF:=Zh (Zi hg0 hgf);clear hg hgf hg0 hz20;refine Zd qq ?_;clear qq;rintro e u1 ⟨⟨b,rfl,h1,h2,h3⟩,hb⟩;rw [HGF.out.2];have hk:=(Zb u1.heap.size u1).alloc (Zr _) (.cells #[.bool (sgnN g),slN g b] 40);have r6:Own (u1.alloc (.cells #[.bool (sgnN g),slN g b] 40)) u1.heap.size #[.bool (sgnN g),slN g b]:=Own.new rfl;have hbk:=hb.trans (hk.mono hb.size);have hw1:=hwU.trans (hbk.mono hzU);have N1:=Zh (NumO.at_ (NumO.below h3 hk) HGF.out.2);have K1:=Zh (NumAt.below M1.out hbk);have K2:=Zh (NumAt.below M2.out hbk);have h16:=Zl p4.lt hb.size;replace p2:=p2.below hbk;replace p3:=p3.below hbk;replace p4:=p4.below hbk;obtain ⟨A9,n9,c9,hsl⟩:=slN_form g b;simp only [numV] at N1 ⊢;rw [hsl] at r6 N1 hw1 p2 p3 p4 K1 K2 ⊢;clear h1 h2 h3 hb hk hsl hbk M1 M2 p2c p3c;go_wp2;generalize (u1.alloc (.cells #[.bool (sgnN (g:Int)),.slice A9 n9 c9] 40))=u2 at *;have p4z:=p4.lt;have hTb:∀ b,b∈[w.heap.size+1+1]->b<u2.heap.size:=fun b hm=>by
  have h1:=List.mem_singleton.1 hm;omega
 have hTn:∀ b∈[w.heap.size+1+1],∃ cs,Own u2 b cs/\noU cs:=fun b hm=>by
  have h1:=List.mem_singleton.1 hm;subst h1;exact ⟨_,p4,noU_rat⟩
 have hwT:∀ u,Upd [w.heap.size+1+1] u2 u->Below w.heap.size w u:=fun u hu=>Upd.below hw1 hu aT
 refine region_gen (T:=[w.heap.size+1+1]) [.make 2 [] (valB _ z),.make 5 [] (valB _ y),.need 6 [2,5]] 7 0 40 (fun _ u=>Own u (w.heap.size+1+1) nz2) (fun _ _ _ h k=>h.below k) p4 aK aK (by rfl) ?_;have q_d2:=fun v y=>(p2.later (v:=v) (T:=[w.heap.size+1+1]) aT y).cell
 have q_d6:=fun v y=>(r6.later (v:=v) (T:=[w.heap.size+1+1]) aT y).cell
 unfold genWalk;refine ⟨_,pz1,?_⟩;refine one_of (by rfl) ⟨fun f=>⟨rfl,fun u hu _=>?_⟩,?_⟩
 ·refine make_call (f:=115) (args:=#[.agg #[.bool s1,.slice A1 n1 c1],.agg #[.bool (sgnN (g:Int)),.slice A9 n9 c9]]) (by (try simp only [LN]); (try simp only [valB_val]); go_simp) ?_;have q:=ratio_quotient (w:=u) (NumAt.keepU K1.out hu hTn) (NumAt.keepU N1.out hu hTn) HGF.out.1;rw [HD.out.1] at q;refine q.mono ?_;rintro e wx ⟨⟨b,rfl,q1,q2,q3⟩,hbx⟩;exact ⟨(b,0),rfl,q2,q3,hbx,fun hm=>absurd (hTb b hm) (by have:=hu.1; omega),q1⟩
 have q_d3:=fun v y=>(p3.later (v:=v) (T:=[w.heap.size+1+1]) aS y).cell
 have q_d6:=fun v y=>(r6.later (v:=v) (T:=[w.heap.size+1+1]) aT y).cell
 unfold genWalk;refine ⟨_,pz13,?_⟩;refine one_of (by rfl) ⟨fun f=>⟨rfl,fun u hu _=>?_⟩,?_⟩
 ·refine make_call (f:=115) (args:=#[.agg #[.bool false,.slice A2 n2 c2],.agg #[.bool (sgnN (g:Int)),.slice A9 n9 c9]]) (by (try simp only [LN]); (try simp only [valB_val]); go_simp) ?_;have q:=ratio_quotient (w:=u) (NumAt.keepU K2.out hu hTn) (NumAt.keepU N1.out hu hTn) HGF.out.1;rw [HD.out.2] at q;refine q.mono ?_;rintro e wx ⟨⟨b,rfl,q1,q2,q3⟩,hbx⟩;exact ⟨(b,0),rfl,q2,q3,hbx,fun hm=>absurd (hTb b hm) (by have:=hu.1; omega),q1⟩
 unfold genWalk;refine ⟨_,pz13,?_⟩;unfold genWalk;refine ⟨_,pz3,?_⟩;intro f u' hup hph hmade hdist;obtain ⟨⟨hT1,oN⟩,loN,hiN⟩:=hmade 2 aO rfl;obtain ⟨⟨hT2,oM⟩,loM,hiM⟩:=hmade 5 aO rfl;replace oN:NumO u' (f 2).1 z:=oN;replace oM:NumO u' (f 5).1 y:=oM;have q4:Own u' (w.heap.size+1+1) nz2:=hph;have hwu:Below w.heap.size w u':=hwT u' hup;clear hmade hdist hph;simp only [TK,Nat.reduceSub,Nat.reduceAdd]
 (try simp only [LN])
 (try simp only [VB2,numV])
 generalize (f 2).1=b1 at *;generalize (f 5).1=b2 at *;clear f;obtain ⟨A7,n7,c7,hs7⟩:=slN_form z b1;obtain ⟨A8,n8,c8,hs8⟩:=slN_form y b2;rw [hs7,hs8];have HSL:=Zh (Zi hs7 hs8);clear hs7 hs8;have q4c:=q4.cell;have q4f:=q4.thaw;have hkT:=Upd.keeps (Keeps.refl _ _) hup;refine effc_mem (by rfl) (fun K hK=>?_);go_simp;refine hK _ _ (((((hkT).set aS _).set aS _).set aS _).set aS _) (fun u3 hu3=>?_);clear hK K;have hs3:=hu3.size;simp [World.setCell] at hs3;have hwu1:=((((hwu.setCell aT _).setCell aT _).setCell aT _).setCell aT _).trans (hu3.mono (by simp [World.setCell]; exact hwu.size));have q5:=((((q4.set 0 (.bool (sgnN z))).set 1 (.slice A7 n7 c7)).set 2 (.bool (sgnN y))).set 3 (.slice A8 n8 c8)).below hu3;have oN1:=NumO.below (((((oN).far aT _).far aT _).far aT _).far aT _) hu3;have oM1:=NumO.below (((((oM).far aT _).far aT _).far aT _).far aT _) hu3;have hk1:=(((((hkT).set aS _).set aS _).set aS _).set aS _).later hu3;clear q4 q4c q4f oN oM hu3;refine effc_mem (by rfl) (fun K hK=>?_);go_simp;refine hK _ _ hk1 (fun u4 hu4=>?_);clear hK K;have q6:=q5.below hu4;have oN2:=oN1.below hu4;have oM2:=oM1.below hu4;have hwu2:=hwu1.trans (hu4.mono hwu1.size);have hs4:=hu4.size;refine effc_nil ?_
 (try simp only [LN])
 go_wp2;refine retC (b:=w.heap.size+1+1) (v:= .tuple #[.agg #[.bool (sgnN z),.slice A7 n7 c7,.bool (sgnN y),.slice A8 n8 c8],.bool true]) q6 (fun w' hw'=>by simp [results,Tryz.results46,go_sem,hw']) rfl ⟨⟨b1,b2,by rw [ratV,HSL.out.1,HSL.out.2],oN2,oM2,aO,aO,aO,aO⟩,hwu2⟩
def ProdAt (w:World) (v:Value) (z:Int):Prop:=∃ s A n c,v = .agg #[.bool s,.slice A n c,.bool true]/\NumAt w (.agg #[.bool s,.slice A n c]) z
theorem RetP.prod {w':World} {z:Int} {b:Nat} (h:NumO w' b z) (hf:fits z=true):ProdAt w' (prodV z b) z:=by
 have q:=h.at_ hf;obtain ⟨A,n,c,hs⟩:=slN_form z b;unfold numV at q;rw [hs] at q;exact ⟨_,A,n,c,by rw [prodV,hs,hf],q⟩
theorem ratio_over {w:World} {v1 v2:Value} {z1 z2:Int} (h1:ProdAt w v1 z1) (h2:ProdAt w v2 z2) (h0:0<z2):Calls Tryz.prog 112 #[v1,v2] w (RetR w (ofN z1 z2) (ofD z1 z2)):=by
 obtain ⟨z,hz⟩:=Zx (ofN z1 z2);obtain ⟨y,hy⟩:=Zx (ofD z1 z2);rw [hz,hy];obtain ⟨s1,A1,n1,c1,rfl,g1⟩:=h1;obtain ⟨s2,A2,n2,c2,rfl,g2⟩:=h2;have G1:=Zh g1;have G2:=Zh g2;have H:=Zh (Zi hz (Zi hy h0));clear g1 g2 hz hy h0;have hW:=((((Zb w.heap.size w).alloc (Zr _) (.cells #[.bool s1,.slice A1 n1 c1,.bool true] 176)).alloc aS (.cells #[.bool s2,.slice A2 n2 c2,.bool true] 176)).alloc aT (.cells nz2 42));have o4:Own (((w.alloc (.cells #[.bool s1,.slice A1 n1 c1,.bool true] 176)).alloc (.cells #[.bool s2,.slice A2 n2 c2,.bool true] 176)).alloc (.cells nz2 42)) (w.heap.size+1+1) nz2:=aOwn;go_enter Tryz.func112,Tryz.ntmps112;go_wp2_with fail;generalize (((w.alloc (.cells #[.bool s1,.slice A1 n1 c1,.bool true] 176)).alloc (.cells #[.bool s2,.slice A2 n2 c2,.bool true] 176)).alloc (.cells nz2 42))=W0 at *;have hz0:=hW.size;have q:=ratio_Of_pos (G1.out.below hW) (G2.out.below hW) H.out.2.2;rw [H.out.1,H.out.2.1] at q;refine Zd q ?_;clear q;rintro e u1 ⟨⟨b1,b2,rfl,oN,oM,loN,hiN,loM,hiM⟩,hb⟩;have q4:=o4.below hb;have hwu:=hW.trans (hb.mono hz0);have q4c:=q4.cell;have q4f:=q4.thaw;have o4l:=o4.lt;have HN:=Zh (Zi oN oM);obtain ⟨A7,n7,c7,hs7⟩:=slN_form z b1;obtain ⟨A8,n8,c8,hs8⟩:=slN_form y b2;simp only [ratV];rw [hs7,hs8];have HSL:=Zh (Zi hs7 hs8);clear hs7 hs8 oN oM hb o4;go_wp2;refine retC (b:=w.heap.size+1+1) (v:= .tuple #[.agg #[.bool (sgnN z),.slice A7 n7 c7,.bool (sgnN y),.slice A8 n8 c8],.bool true]) (((((q4.set 0 (.bool (sgnN z))).set 1 (.slice A7 n7 c7)).set 2 (.bool (sgnN y))).set 3 (.slice A8 n8 c8))) (fun w' hw'=>by simp [results,Tryz.results112,go_sem,hw']) rfl ⟨⟨b1,b2,by rw [ratV,HSL.out.1,HSL.out.2],((((HN.out.1).far aT _).far aT _).far aT _).far aT _,((((HN.out.2).far aT _).far aT _).far aT _).far aT _,aO,aT,aO,aT⟩,((((hwu.setCell aT _).setCell aT _).setCell aT _).setCell aT _)⟩
end Go.Proofs.YtflolbnnkbdmfaaGreat
