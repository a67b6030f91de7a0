import Derived.Test.YtflolbnnkbdmfaaGreatPlcD
set_option linter.all false
namespace Go.Proofs.YtflolbnnkbdmfaaGreat
open Go.RowKit
set_option maxHeartbeats 8000000
set_option maxRecDepth 100000
def RowsG (base:Nat) (w:World) (v:Value) (M:List (List Int)):Prop:=∃ xs,w.ownsRow base 22 1 v M.length xs/\RowsW (fun b=>some b≠v.ownBlock) w xs M
theorem RowsG.nil (base:Nat) (w:World):RowsG base w (.slice none 0 0) []:=⟨[],⟨rfl,.inl ⟨rfl,rfl⟩⟩,RowsW.nil _ _⟩
theorem RowsG.below {base:Nat} {w w':World} {v:Value} {M:List (List Int)} (h:RowsG base w v M) (hb:Below w.heap.size w w'):RowsG base w' v M:=by
 obtain ⟨xs,h1,h2⟩:=h;exact ⟨xs,ownsRow_stay h1 hb,h2.below hb⟩
theorem RowsG.rows {base n:Nat} {w:World} {v:Value} {M:List (List Int)} (h:RowsG base w v M) (hn:M.length=n) (h0:0<n):∃ g c,v = .slice (some ⟨g,0,none⟩) n c/\n<=c/\c<=9223372036854775807/\RowsAt w (some ⟨g,0,none⟩) n M:=by
 subst hn;obtain ⟨xs,h1,h2⟩:=h;obtain ⟨A2,c2,rfl,g1,g2,g3,g4⟩:=rows_of_row h1 h2 rfl;obtain ⟨g,rfl,_,_⟩:=g4 h0;exact ⟨g,c2,rfl,g1,g2,g3⟩
theorem RowsW.grow {base tl j c4 gg cg:Nat} {wr w7:World} {v:Value} {xs:List Value} {M:List (List Int)} {Z:List Int} {A4:Option Addr}
 (hrw:RowsW (fun b=>some b≠v.ownBlock) wr xs M) (hn:M.length=tl) (h1:j<=c4) (h2:c4<=9223372036854775807) (hX:∀ b off,A4=some ⟨b,off,none⟩->b<wr.heap.size/\some b≠v.ownBlock) (h3:IntsAt wr A4 j Z)
 (hs:wr.heap.size<=w7.heap.size) (hk:∀ b,b<wr.heap.size->some b≠v.ownBlock->w7.heap[b]?=wr.heap[b]?) (hat:v.ownBlock=some gg\/wr.heap.size<=gg)
 (ho7:w7.ownsRow base 22 1 (.slice (some ⟨gg,0,none⟩) (tl+1) cg) (tl+1) (xs++[.slice A4 j c4])):RowsG base w7 (.slice (some ⟨gg,0,none⟩) (tl+1) cg) (M++[Z]):=by
 refine ⟨_,by rw [List.length_append,hn]; exact ho7,(hrw.snoc h1 h2 hX h3).move hs fun b hlt hb=>⟨hk b hlt hb,fun e=>?_⟩⟩;have e:b=gg:=Option.some.inj e;subst e;rcases hat with h | h
 ·exact hb h.symm
 ·omega
theorem locM_take (L:List Loc) {k:Nat} (hk:k<L.length):locM (L.take (k+1))=locM (L.take k)++[locR (lAt L k)]:=by
 unfold locM lAt;rw [List.take_succ,List.map_append,List.getElem?_eq_getElem hk,Ze,List.getElem?_eq_getElem hk];rfl
theorem wr_I64 (n:Int):-9223372036854775808<=wrap64 n/\wrap64 n<=9223372036854775807:=by unfold wrap64; omega
theorem locR_I {l:Loc} (h:l.I):I64L (locR l):=by
 obtain ⟨_,_,_,h1,h2,h3,_,_⟩:=h;intro i hi
 match i,hi with
 | 0,_=>exact h1
 | 1,_=>exact h2
 | 2,_=>exact h3
 | 3,_=>exact wr_I64 _
 | 4,_=>exact wr_I64 _
 | 5,_=>exact wr_I64 _
theorem plc_rows {w:World} {A:Option Addr} {n:Nat} {L:List Loc} (c:Nat) (h:LocsAt w A n L) (hn:n<=1000):Calls Tryz.prog 79 #[.slice A n c] w fun e w'=>(∃ v,e = .returned v/\RowsG w.heap.size w' v (locM L))/\Below w.heap.size w w':=by
 obtain ⟨i0,hi,hz0,hz1,hz2⟩:=info_parts infoI;obtain ⟨i1,hi1,hy0,hy1,hy2'⟩:=info_parts infoIs;have hlen:=h.len;have H:=Zh h;clear h;go_enter Tryz.func79,Tryz.ntmps79;go_wp2;go_loopw [3,10] (fun v i wr=>∃ k:Nat,k<=n/\i = .int .i64 k/\Below w.heap.size w wr/\RowsG w.heap.size wr v (locM (L.take k))) (fun _ i _=>n - (intOf i).toNat)
 case atStart=>exact ⟨0,aO,rfl,Zb _ _,RowsG.nil _ _⟩
 case round =>
  obtain ⟨k,hk,rfl,hW,hrow⟩:=hrel;have HR:=Zh hrow;clear hrow
  by_cases hkn:k<n
  ·have hkni:(k:Int)<(n:Int):=aO
   obtain ⟨b,off,rfl,hlt,hcs⟩:=H.out.row aO;obtain ⟨l,hl⟩:=Zx (lAt L k);have hc:=hcs k hkn;have hI:=H.out.ok k hkn;rw [hl] at hc hI;have hbk:=hW.block b hlt;obtain ⟨h0,h1,h2,h3,h4,h5,h6,h7⟩:=hc;have e0:=(Zc (w:=w) (a:=⟨b,off+k*8,none⟩) hbk).trans h0;have e1:=(Zc (w:=w) (a:=⟨b,off+k*8+1,none⟩) hbk).trans h1;have e2:=(Zc (w:=w) (a:=⟨b,off+k*8+2,none⟩) hbk).trans h2;have e3:=(Zc (w:=w) (a:=⟨b,off+k*8+3,none⟩) hbk).trans h3;have e4:=(Zc (w:=w) (a:=⟨b,off+k*8+4,none⟩) hbk).trans h4;have e5:=(Zc (w:=w) (a:=⟨b,off+k*8+5,none⟩) hbk).trans h5;have e6:=(Zc (w:=w) (a:=⟨b,off+k*8+6,none⟩) hbk).trans h6;have e7:=(Zc (w:=w) (a:=⟨b,off+k*8+7,none⟩) hbk).trans h7;have HL:=Zh (Zi hl hI);clear hcs h0 h1 h2 h3 h4 h5 h6 h7 hl hI hbk;obtain ⟨⟨px,py,pz⟩,⟨nx,ny,nz⟩,lo,hi'⟩:=l;obtain ⟨cv,hcv⟩:=Zx (vCross ⟨px,py,pz⟩ ⟨nx,ny,nz⟩);obtain ⟨cx,cy,cz⟩:=cv;have HC:=Zh hcv;have HCV:=Zh (congrArg V3.v hcv);clear hcv;go_wp2;have hz:=Zr wr.heap.size;have ox:Own (wr.alloc (.cells #[.int .i64 px,.int .i64 py,.int .i64 pz,.int .i64 nx,.int .i64 ny,.int .i64 nz,.int .i64 lo,.int .i64 hi'] 69)) wr.heap.size #[.int .i64 px,.int .i64 py,.int .i64 pz,.int .i64 nx,.int .i64 ny,.int .i64 nz,.int .i64 lo,.int .i64 hi']:=Own.new rfl;replace hw:Below wr.heap.size wr (wr.alloc (.cells #[.int .i64 px,.int .i64 py,.int .i64 pz,.int .i64 nx,.int .i64 ny,.int .i64 nz,.int .i64 lo,.int .i64 hi'] 69)):=aBel;generalize (wr.alloc (.cells #[.int .i64 px,.int .i64 py,.int .i64 pz,.int .i64 nx,.int .i64 ny,.int .i64 nz,.int .i64 lo,.int .i64 hi'] 69))=W1 at *;obtain ⟨bx,hbx⟩:=Zx (wr.heap.size);rw [hbx] at ox
   (try rw [hbx])
   clear hbx;replace hz:=hw.size;refine region_gen (T:=[]) [.make 7 [] (ownB [] nv3 (fun p=>.pointer (some ⟨p,0,none⟩))),.make 8 [] (ownB [] nv3 (fun p=>.pointer (some ⟨p,0,none⟩)))] 9 0 60 (fun _ _=>True) (fun _ _ _ _ _=>trivial) trivial aK aK (by rfl) ?_;unfold genWalk;apply Zs;apply Zi
   ·apply Piece.mk
    ·intro f v hv hr hne;simp only [TK,Nat.reduceSub,Nat.reduceAdd];have dox:=fun x=>(ox.later (v:=v) (T:=[]) (by first | (simp; done) | (simp; omega)) x).cell
     repeat (go_big_quiet_step ((first | (go_at_call 71; with_reducible exact lateB (callv (plane_Cross px py pz nx ny nz _) HCV.out)))))
     refine wpQuiet_nil ?_;exact rfl
    ·intro f; kernel_rfl
    ·intro f f' hf; kernel_rfl
   refine one_of (by rfl) ⟨fun f=>⟨rfl,fun u hu _=>?_⟩,?_⟩
   ·refine make_own (e:=44) gA1 aS
   unfold genWalk;refine ⟨_,pz6,?_⟩;refine one_of (by rfl) ⟨fun f=>⟨rfl,fun u hu _=>?_⟩,?_⟩
   ·refine make_own (e:=44) gA1 aS
   unfold genWalk;refine ⟨_,pz6,?_⟩;intro f u1 hup hph hmade hdist;obtain ⟨⟨_,nb⟩,nbg,_⟩:=hmade 7 aO rfl;obtain ⟨⟨_,mb⟩,mbg,_⟩:=hmade 8 aO rfl;have nnbmb:=hdist 7 8 aO aO rfl rfl aO;replace nb:Own u1 (f 7).1 nv3:=nb;replace mb:Own u1 (f 8).1 nv3:=mb;clear hmade hdist hph;simp only [TK,Nat.reduceSub,Nat.reduceAdd]
   (try simp only [LN])
   (try simp only [VB1])
   generalize (f 7).1=nbb at *;generalize (f 8).1=mbb at *;clear f;have hk:Keeps [] W1 u1:=Upd.keeps (Keeps.refl _ _) hup;replace hw:=Upd.below hw hup aS;have huz:=hup.1;clear hup;have nby:wr.heap.size<=nbb:=aO
   have mby:wr.heap.size<=mbb:=aO
   have nbc:=nb.cell;have nbf:=nb.thaw;have nmbnb:mbb≠nbb:=fun e=>nnbmb e.symm
   refine effc_mem (by rfl) (fun K hK=>?_);go_simp;refine hK _ _ (((hk.new nbg _).new nbg _).new nbg _) (fun u2 hun=>?_);clear hK K;replace hk:Keeps [] W1 u2:=(((hk.new nbg _).new nbg _).new nbg _).later hun;replace nb:Own u2 nbb #[.int .i64 nx,.int .i64 ny,.int .i64 nz]:=(((nb.set 0 _).set 1 _).set 2 _).below hun;replace mb:=(((mb.far nmbnb _).far nmbnb _).far nmbnb _).below hun;replace hw:=Below.hop (((hw.setCell nby _).setCell nby _).setCell nby _) hun;clear hun;replace mbc:=mb.cell;replace mbf:=mb.thaw;refine effc_mem (by rfl) (fun K hK=>?_);go_simp;refine hK _ _ (((hk.new mbg _).new mbg _).new mbg _) (fun u3 hun=>?_);clear hK K;replace mb:Own u3 mbb #[.int .i64 cx,.int .i64 cy,.int .i64 cz]:=(((mb.set 0 _).set 1 _).set 2 _).below hun;replace nb:=(((nb.far nnbmb _).far nnbmb _).far nnbmb _).below hun;replace hw:=Below.hop (((hw.setCell mby _).setCell mby _).setCell mby _) hun;clear hun;refine effc_nil ?_
   (try simp only [LN])
   clear huz;replace nbc:=nb.cell;replace mbc:=mb.cell;have hW5:=hW.trans (hw.mono hW.size);have hR5:=HR.out.below hw;obtain ⟨xs,ho,hrw⟩:=hR5;rw [show (locM (L.take k)).length=k from by rw [locM_len,List.length_take]; omega] at ho;have HO:=Zh ho;have HW:=Zh hrw;clear ho hrw HR hw;go_wp2_with (at_builtin; refine wpList_append_lies _ rfl _ _ _ (by rfl) w.heap.size 22 i1 (.slice none 0 0) 1 24 Tryz.underlying47 hi1 hy0 hy1 hy2' rfl aO _ k xs (by rfl) ((HO.out.alloc _).alloc _) ⟨u3.heap.size+1,0,none⟩ 1 1 [.slice (some ⟨u3.heap.size,0,none⟩) 6 6] (by rfl) rfl ?c1 ?c2 aO ?c3 ?c4 ?c5 (u3.heap.size+1+1) aS ?_)
   case c1=>exact World.news_of_block (by simpa using heap_alloc_new (u3.alloc (.cells #[.int .i64 nx,.int .i64 ny,.int .i64 nz,.int .i64 cx,.int .i64 cy,.int .i64 cz] 3)) (.cells #[.slice (some ⟨u3.heap.size,0,none⟩) 6 6] 22))
   case c2=>intro u hu; simp at hu; subst hu; rfl
   case c3=>unfold maxLen; omega
   case c4=>omega
   case c5=>simp; have:=hW5.size; omega
   intro gg cg w7 ho7 hg7 hat hlt7;have hal1:Below u3.heap.size u3 (u3.alloc (.cells #[.int .i64 nx,.int .i64 ny,.int .i64 nz,.int .i64 cx,.int .i64 cy,.int .i64 cz] 3)):=(Zb _ _).alloc (Zr _) _;have hal:Below u3.heap.size u3 ((u3.alloc (.cells #[.int .i64 nx,.int .i64 ny,.int .i64 nz,.int .i64 cx,.int .i64 cy,.int .i64 cz] 3)).alloc (.cells #[.slice (some ⟨u3.heap.size,0,none⟩) 6 6] 22)):=aBel;have hs7:=hg7.size;simp at hs7;have hob:∀ b,_=some b->w.heap.size<=b/\b<u3.heap.size:=fun b hb=>⟨ownBlock_ge HO.out hb,ownBlock_lt HO.out hb⟩
   have hw7:=Below.grown (hW5.trans (hal.mono hW5.size)) hg7 (by simp; have:=hW5.size; omega) (fun b hb=>(hob b hb).1);have oi:Own ((u3.alloc (.cells #[.int .i64 nx,.int .i64 ny,.int .i64 nz,.int .i64 cx,.int .i64 cy,.int .i64 cz] 3)).alloc (.cells #[.slice (some ⟨u3.heap.size,0,none⟩) 6 6] 22)) u3.heap.size #[.int .i64 nx,.int .i64 ny,.int .i64 nz,.int .i64 cx,.int .i64 cy,.int .i64 cz]:=(Own.new rfl:Own (u3.alloc (.cells #[.int .i64 nx,.int .i64 ny,.int .i64 nz,.int .i64 cx,.int .i64 cy,.int .i64 cz] 3)) u3.heap.size #[.int .i64 nx,.int .i64 ny,.int .i64 nz,.int .i64 cx,.int .i64 cy,.int .i64 cz]).alloc _;have hlr:locR (lAt L k)=[nx,ny,nz,cx,cy,cz]:=by rw [HL.out.1]; unfold locR; rw [HC.out]
   have hia:IntsAt ((u3.alloc (.cells #[.int .i64 nx,.int .i64 ny,.int .i64 nz,.int .i64 cx,.int .i64 cy,.int .i64 cz] 3)).alloc (.cells #[.slice (some ⟨u3.heap.size,0,none⟩) 6 6] 22)) (some ⟨u3.heap.size,0,none⟩) 6 (locR (lAt L k)):=ints_of_cells oi (locR_len _) (locR_I (by rw [HL.out.1]; exact HL.out.2)) (fun i hi=>by
    rw [hlr]
    match i,hi with
    | 0,_=>rfl
    | 1,_=>rfl
    | 2,_=>rfl
    | 3,_=>rfl
    | 4,_=>rfl
    | 5,_=>rfl)
   have hG7:=RowsW.grow (wr:=((u3.alloc (.cells #[.int .i64 nx,.int .i64 ny,.int .i64 nz,.int .i64 cx,.int .i64 cy,.int .i64 cz] 3)).alloc (.cells #[.slice (some ⟨u3.heap.size,0,none⟩) 6 6] 22))) (HW.out.below hal) (show (locM (L.take k)).length=k from by rw [locM_len,List.length_take]; omega) (Zr 6) aO (fun b off e=>by cases e; exact ⟨aT,fun e2=>by have:=(hob _ e2.symm).2; omega⟩) hia aT (fun b hlt hb=>hg7.block b hlt (fun e=>hb e)) (hat.imp id fun h=>aT) ho7;rw [<- locM_take L (by have:=H.out.len; omega)] at hG7;have HG7:=Zh hG7;clear hG7 ho7 hg7 hat hlt7 hal hal1 oi hia hlr hob HO HW;go_wp2;go_roundw
   case rel=>exact ⟨k+1,aO,by go_num,hw7,HG7.out⟩
   case measure=>simp [intOf]; omega
  ·obtain rfl:k=n:=aO
   have hr:=HR.out;rw [show L.take k=L from by rw [List.take_of_length_le aO]] at hr;have HR2:=Zh hr;clear hr HR;go_wp2;go_ret;exact ⟨⟨_,rfl,HR2.out⟩,hW⟩
section
variable {P:Program} {Q Q':Exit->Act->World->Prop}
theorem wp_monoQ {o:Oper} {a:Act} {w:World} {K K':Act->World->Prop} (hq:∀ e a w,e ≠ .normal->Q' e a w->Q e a w) (h:∀ a w,K a w->K' a w) (hh:o.wp P a w K Q'):o.wp P a w K' Q:=by
 unfold Oper.wp at *;generalize (execOp a.eval o).run P w=r at *;cases r with
 | ok n w' =>
  cases n <;> simp only [Oper.upon] at hh ⊢
  all_goals first
   | exact h _ _ hh
   | exact Rows.mono hh (fun _ _ he=>h _ _ he)
   | exact Zd hh (fun e w'' he=>by
    cases e
    ·exact h _ _ he
    ·exact hq _ _ _ (by intro h; cases h) he
    ·obtain ⟨b,v,hb⟩:=he;exact ⟨b,v,hq _ _ _ (by intro h; cases h) hb⟩)
 | halt x w' =>
  cases x <;> simp only [Oper.upon] at hh ⊢
  all_goals first
   | exact hh
   | exact hq _ _ _ (by intro h; cases h) hh
def QK (K:Act->World->Prop) (Q:Exit->Act->World->Prop):Exit->Act->World->Prop
 | .normal=>K
 | e=>Q e
theorem QK_of {K:Act->World->Prop} (e:Exit) (a:Act) (w:World) (he:e ≠ .normal) (h:QK K Q e a w):Q e a w:=by
 cases e <;> first | exact absurd rfl he | exact h
def cutFit (l:List Oper) (n:Nat):Bool:=
 decide (0<n)&&decide (n<=l.length)&&(l.zipIdx.all fun x=>x.1.after.all fun e=>!Region.binds .any e || decide (e.on<x.2))&&((l.take n).all fun o=>o.guard.isNone) &&
 ((List.range (n - 1)).all fun i=>anc l.toArray 0 (n - 1) i) &&
 (l.zipIdx.all fun x=>decide (x.2<n) || x.1.after.any fun e=>Region.binds .any e&&decide (n - 1<=e.on))
def open_ (n:Nat) (listed:Array Bool):Nat:=((List.range n).filter fun i=>!listed.getD i true).length
theorem wpAny_cut {l:List Oper} {n:Nat} {K:Act->World->Prop} (hc:cutFit l n=true)
 (hK:∀ listed:Array Bool,listed.size=l.length->(∀ i,i<n->listed.getD i true=true)->(∀ i,n<=i->i<l.length->listed.getD i true=false)->∀ a w,K a w->wpAny P .any l.toArray Q (l.length - n) listed a w) :
 ∀ (fuel:Nat) (la listed:Array Bool) (a:Act) (w:World),la.size=n->listed.size=l.length->(∀ i,i<n->la.getD i true=listed.getD i true)->(∀ i,n<=i->i<l.length->listed.getD i true=false) ->
 (∀ (i:Nat) (o:Oper),l.toArray[i]?=some o->listed.getD i false=true->∀ e∈o.after,Region.binds .any e=true->listed.getD e.on false=true)->open_ n la=fuel ->
 wpAny P .any (l.take n).toArray (QK K Q) fuel la a w->wpAny P .any l.toArray Q (fuel+(l.length - n)) listed a w:=by
 simp only [cutFit,Bool.and_eq_true,decide_eq_true_eq] at hc;obtain ⟨⟨⟨⟨⟨hn0,hnl⟩,hback⟩,hgu⟩,hanc⟩,hlate⟩:=hc;have hB:∀ (j:Nat) (o:Oper),l[j]?=some o->∀ e∈o.after,Region.binds .any e=true->e.on<j:=fun j o ho e he hb=>by
  have h9:=List.all_eq_true.1 hback _ (mem_zipIdx_of ho);have h10:=Array.all_eq_true'.1 h9 e he;simpa [hb] using h10
 have hL:∀ (j:Nat) (o:Oper),n<=j->l[j]?=some o->∃ e∈o.after,Region.binds .any e=true/\n - 1<=e.on:=fun j o hj ho=>by
  have h9:=List.all_eq_true.1 hlate _ (mem_zipIdx_of ho);simp only [Bool.or_eq_true,decide_eq_true_eq] at h9;rcases h9 with h9 | h9
  ·omega
  ·obtain ⟨e,he,hb⟩:=Array.any_eq_true'.1 h9;simp only [Bool.and_eq_true,decide_eq_true_eq] at hb;exact ⟨e,he,hb.1,hb.2⟩
 have hopen:∀ la:Array Bool,open_ n la=0->∀ i,i<n->la.getD i true=true:=fun la h i hi=>by
  have h1:(List.range n).filter (fun i=>!la.getD i true)=[]:=List.length_eq_zero_iff.1 h;have h2:=List.filter_eq_nil_iff.1 h1 i (List.mem_range.2 hi);simpa using h2
 intro fuel
 induction fuel with
 | zero =>
  intro la listed a w hsa hsl hsame hlo hcl ho h;rw [Nat.zero_add];exact hK listed hsl (fun i hi=>by rw [<- hsame i hi]; exact hopen la ho i hi) hlo a w h.2
 | succ fuel ih =>
  intro la listed a w hsa hsl hsame hlo hcl ho h;have hall:¬ ∀ i,i<n->listed.getD i true=true:=fun hall=>by
   have:(List.range n).filter (fun i=>!la.getD i true)=[]:=List.filter_eq_nil_iff.2 fun i hi=>by
    rw [hsame i (List.mem_range.1 hi),hall i (List.mem_range.1 hi)]; simp
   unfold open_ at ho;rw [this] at ho; simp at ho
  have hgt:∀ i x y,i<l.length->listed.getD i x=listed.getD i y:=fun i x y hi=>by
   rw [Array.getD_eq_getD_getElem?,Array.getD_eq_getD_getElem?,Array.getElem?_eq_getElem aO]; rfl
  have hga:∀ i x y,i<n->la.getD i x=la.getD i y:=fun i x y hi=>by
   rw [Array.getD_eq_getD_getElem?,Array.getD_eq_getD_getElem?,Array.getElem?_eq_getElem aO]; rfl
  have htk:∀ i,i<n->(l.take n).toArray[i]?=l.toArray[i]?:=fun i hi=>by simp [List.getElem?_take,hi]
  have hready:∀ i,i∈Region.ready .any l.toArray listed↔i∈Region.ready .any (l.take n).toArray la:=by
   intro i;constructor
   ·intro hi;obtain ⟨h1,o,h2,h3⟩:=mem_ready.1 hi;have hil:i<l.length:=by have:=(Zt.1 h2).1; simpa using this
    have hin:i<n:=by
     rcases Nat.lt_or_ge i n with h4 | h4
     ·exact h4
     ·exfalso;obtain ⟨e,he,hb,hon⟩:=hL i o h4 (by simpa using h2);have h5:=h3 e he hb;have h6:=hB i o (by simpa using h2) e he hb;have hen:e.on=n - 1:=by
       rcases Nat.lt_or_ge e.on n with h7 | h7
       ·omega
       ·have h8:=hlo e.on h7 aO;rw [hgt e.on true false aO,h5] at h8; cases h8
      rw [hen] at h5;refine hall fun k hk=>?_
      rcases Nat.lt_or_ge k (n - 1) with h9 | h9
      ·have h10:=List.all_eq_true.1 hanc k (List.mem_range.2 h9);have hon1:l.toArray[n - 1]?=some l[n - 1]:=by simp [show n - 1<l.length by omega]
       have:=anc_listed hcl 0 (n - 1) k _ hon1 (fun e he hb=>hcl (n - 1) _ hon1 h5 e he hb) h10;rw [hgt k true false aO]; exact this
      ·have:k=n - 1:=aO
       subst this;rw [hgt (n - 1) true false aO]; exact h5
    refine mem_ready.2 ⟨by rw [hsame i hin]; exact h1,o,by rw [htk i hin]; exact h2,fun e he hb=>?_⟩;have h6:=hB i o (by simpa using h2) e he hb;rw [hga e.on false true aO,hsame e.on aO,hgt e.on true false aO];exact h3 e he hb
   ·intro hi;obtain ⟨h1,o,h2,h3⟩:=mem_ready.1 hi;have hin:i<n:=by have:=(Zt.1 h2).1; simp at this; omega
    rw [htk i hin] at h2;refine mem_ready.2 ⟨by rw [<- hsame i hin]; exact h1,o,h2,fun e he hb=>?_⟩;have h6:=hB i o (by simpa using h2) e he hb;have:=h3 e he hb;rw [hga e.on false true aO,hsame e.on aO,hgt e.on true false aO] at this;exact this
  have hne:Region.ready .any l.toArray listed≠[]:=by
   intro hnil;refine hall ?_;intro i
   induction i using Nat.strongRecOn with
   | ind i ihi =>
    intro hi;cases hlb:listed.getD i true with
    | true=>rfl
    | false =>
     exfalso;have hio:l.toArray[i]?=some l[i]:=by simp [show i<l.length by omega]
     have:i∈Region.ready .any l.toArray listed:=mem_ready.2 ⟨hlb,_,hio,fun e he hb=>by
      have h6:=hB i _ (by simpa using hio) e he hb;rw [hgt e.on false true aO];exact ihi e.on h6 aO⟩
     rw [hnil] at this; cases this
  rw [show fuel+1+(l.length - n)=(fuel+(l.length - n))+1 by omega];refine ⟨fun hnil=>absurd hnil hne,fun i hi=>?_⟩;have hia:=(hready i).1 hi;have hw:=h.2 i hia;obtain ⟨h1,o,h2,h3⟩:=mem_ready.1 hi;have hin:i<n:=by
   obtain ⟨_,o',h2',_⟩:=mem_ready.1 hia;have:=(Zt.1 h2').1; simp at this; omega
  have hog:o.guard=none:=by
   have h9:o∈l.take n:=by
    have h10:(l.take n)[i]?=some o:=by rw [List.getElem?_take,if_pos hin]; simpa using h2
    exact List.mem_of_getElem? h10
   have:=List.all_eq_true.1 hgu o h9;simpa using this
  unfold wpOp at hw ⊢;rw [htk i hin] at hw;rw [h2] at hw ⊢;simp only [] at hw ⊢;have hwant:∀ y,Region.wanted o y=true:=fun y=>by simp [Region.wanted,hog]
  rw [if_pos (hwant _)] at hw ⊢;have hnext:∀ a w,wpAny P .any (l.take n).toArray (QK K Q) fuel (la.setIfInBounds i true) a w->wpAny P .any l.toArray Q (fuel+(l.length - n)) (listed.setIfInBounds i true) a w:=by
   intro a w hh;refine ih _ _ a w (by simpa using hsa) (by simpa using hsl) (fun k hk=>?_) (fun k hk hk2=>?_) (fun k o' ho' hk e he hb=>?_) ?_ hh
   ·simp only [Array.getD_eq_getD_getElem?,Array.getElem?_setIfInBounds];split
    ·rename_i e; subst e
     rw [if_pos aO,if_pos aO]
    ·have:=hsame k hk;simpa only [Array.getD_eq_getD_getElem?] using this
   ·have:=hlo k hk hk2;simp only [Array.getD_eq_getD_getElem?,Array.getElem?_setIfInBounds] at this ⊢;rw [if_neg aO]; exact this
   ·refine getD_mono ?_
    by_cases hki:k=i
    ·subst hki;rw [h2] at ho'; cases ho';exact h3 e he hb
    ·refine hcl k o' ho' ?_ e he hb;simp only [Array.getD_eq_getD_getElem?,Array.getElem?_setIfInBounds] at hk ⊢
     rwa [if_neg (fun h=>hki h.symm)] at hk
   ·
    have key:∀ (L:List Nat),L.Nodup->i∈L->(L.filter fun k=>!la.getD k true).length=(L.filter fun k=>!(la.setIfInBounds i true).getD k true).length+1:=by
     intro L
     induction L with
     | nil=>intro _ h; cases h
     | cons x xs ihx =>
      intro hnd hmem;have hset:(la.setIfInBounds i true).getD i true=true:=by
       rw [Array.getD_eq_getD_getElem?,Array.getElem?_setIfInBounds,if_pos rfl,if_pos aO]; rfl
      have hoth:∀ k,k≠i->(la.setIfInBounds i true).getD k true=la.getD k true:=fun k hk=>by
       rw [Array.getD_eq_getD_getElem?,Array.getD_eq_getD_getElem?,Array.getElem?_setIfInBounds,if_neg (fun h=>hk h.symm)]
      have hlai:la.getD i true=false:=by rw [hsame i hin]; exact h1
      rw [List.nodup_cons] at hnd
      by_cases hxi:x=i
      ·subst hxi;have hxs:xs.filter (fun k=>!la.getD k true)=xs.filter (fun k=>!(la.setIfInBounds x true).getD k true):=List.filter_congr fun k hk=>by
        rw [hoth k (fun e=>hnd.1 (e ▸ hk))]
       rw [List.filter_cons_of_pos (by rw [hlai]; rfl),List.filter_cons_of_neg (by rw [hset]; simp),<- hxs];rfl
      ·have hmx:i∈xs:=by
        rcases List.mem_cons.1 hmem with h | h
        ·exact absurd h.symm hxi
        ·exact h
       have:=ihx hnd.2 hmx;rw [List.filter_cons,List.filter_cons,hoth x hxi];split
       ·simp only [List.length_cons]; omega
       ·exact this
    have:=key (List.range n) List.nodup_range (List.mem_range.2 hin);unfold open_ at ho ⊢;omega
  rcases hw with hw | hw
  ·exact .inl (wp_monoQ QK_of hnext hw)
  ·obtain ⟨h4,b,v,hb⟩:=hw;exact .inr ⟨h4,b,v,QK_of _ _ _ (by intro h; cases h) hb⟩
def putAll:List Oper->List Value->Act->Act
 | o::os,v::vs,a=>putAll os vs (a.put o.dst v)
 | _,_,a=>a
theorem region_cut {id:Nat} {a:Act} {w:World} {l:List Oper} (n:Nat) (K:List Oper->Act->Act->World->Prop) (hm:P.follows .mixedOrders=true) (hc:cutFit l n=true)
 (h1:∀ listed:Array Bool,listed.size=(l.take n).length->(∀ i,i<0->listed.getD i true=true)->(∀ i,0<=i->i<(l.take n).length->listed.getD i true=false)->wpAny P .any (l.take n).toArray (QK (K l a) Q) ((l.take n).length - 0) listed a w.drew)
 (h2:∀ listed:Array Bool,listed.size=l.length->(∀ i,i<n->listed.getD i true=true)->(∀ i,n<=i->i<l.length->listed.getD i true=false)->∀ a' w',K l a a' w'->wpAny P .any l.toArray Q (l.length - n) listed a' w') :
 (Code.region id l.toArray true).wp P Q a w:=by
 refine wp_region_any hm ?_;have hnl:n<=l.length:=by
  simp only [cutFit,Bool.and_eq_true,decide_eq_true_eq] at hc;exact hc.1.1.1.1.2
 have hrep:∀ i,i<n->(Array.replicate n false).getD i true=false:=fun i hi=>by simp [hi]
 have hln:(l.take n).length=n:=aT
 have h0:=h1 (Array.replicate n false) (by rw [hln]; simp) (fun i hi=>aO) (fun i _ hi=>hrep i aO);rw [hln,Nat.sub_zero] at h0;have:=wpAny_cut hc h2 n (Array.replicate n false) (Array.replicate l.length false) a w.drew aS aS (fun i hi=>by simp [hi,show i<l.length by omega]) (fun i _ hi=>by simp [hi])
  (fun i o _ hi=>by
   rw [Array.getD_eq_getD_getElem?,Array.getElem?_replicate] at hi;split at hi <;> simp at hi) (by
   unfold open_;rw [List.filter_eq_self.2 (fun i hi=>by rw [hrep i (List.mem_range.1 hi)]; rfl)]; simp) h0
 rw [show n+(l.length - n)=l.length by omega] at this;simpa using this
end
end Go.Proofs.YtflolbnnkbdmfaaGreat
