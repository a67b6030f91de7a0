import Derived.Test.YtflolbnnkbdmfaaGreatSan20
set_option linter.all false
namespace Go.Proofs.YtflolbnnkbdmfaaGreat
open Go.RowKit
set_option maxHeartbeats 8000000
set_option maxRecDepth 100000
theorem valL_take {L:List Loc} {l:List Int} {k:Nat} (hk:k<L.length):(valL L l).take (k+1)=(valL L l).take k++[(lAt L k).lo+nextV (l.drop k) ((lAt L k).hi - (lAt L k).lo+1)]:=by
 have h:k<(valL L l).length:=by rw [valL_len]; exact hk
 rw [List.take_succ_eq_append_getElem h];have e:=valL_at L l hk;unfold iAt at e;rw [Ze,List.getElem?_eq_getElem h] at e;rw [<- e]; rfl
theorem valL_bd {L:List Loc} (l:List Int) (hC:locC L=0) {k:Nat} (hk:k<6):-10000<=iAt (valL L l) k/\iAt (valL L l) k<=10000:=by
 have h:=(lAt_ok hC hk).lh;have hl:=(locC_zero hC).1;have h2:=valL_in L l (k:=k) aO h.1;omega
theorem valL_I {L:List Loc} (l:List Int) (hC:locC L=0):I64L (valL L l):=fun i hi=>by
 rw [valL_len,(locC_zero hC).1] at hi;have:=valL_bd l hC hi;omega
theorem ref20_Values {w:World} {A A2:Option Addr} {n2:Nat} {L:List Loc} {l:List Int} (c cap:Nat) (h:LocsAt w A 6 L) (hC:locC L=0) (hl:SliceI w A2 n2 l) :
 Calls Tryz.prog 23 #[.slice A 6 c,.slice A2 n2 cap] w fun e w'=>(∃ g cc,e = .returned (.slice (some ⟨g,0,none⟩) 6 cc)/\6<=cc/\cc<=9223372036854775807/\IntsAt w' (some ⟨g,0,none⟩) 6 (valL L l)/\w.heap.size<=g/\g<w'.heap.size)/\Below w.heap.size w w':=by
 obtain ⟨i0,hi,hz0,hz1,hz2⟩:=info_parts infoI;have hL6:=h.len;obtain ⟨gb,goff,rfl,hglt,hgr⟩:=h.row aO;have HC:=Zh hC;have HG:=Zh hgr;have HLI:=Zh hl;clear hl h hC hgr;obtain ⟨bd,hbd⟩:=Zx (w.heap.size);have hW0:=(Zb w.heap.size w).alloc (Zr _) (.cells #[.slice A2 n2 cap,.int .i64 0] 141);have hD0:=DrawAt.start (cap:=cap) (T:=141) HLI.out;have hz0':w.heap.size+1<=(w.alloc (.cells #[.slice A2 n2 cap,.int .i64 0] 141)).heap.size:=aS
 go_enter Tryz.func23,Tryz.ntmps23;go_wp2;generalize (w.alloc (.cells #[.slice A2 n2 cap,.int .i64 0] 141))=W0 at *;rw [hbd] at hD0 hz0';have HD0:=Zh hD0;have HBD:=Zh hbd;clear hD0 HLI;rw [hbd] at hglt;clear hbd;have hw:=hW0;have hws:=hz0';clear hW0 hz0';go_loopw [6,7] (fun v i wr=>∃ k:Nat,k<=6/\i = .int .i64 k/\Below w.heap.size w wr/\bd+1<=wr.heap.size/\DrawAt wr bd (l.drop k)/\wr.ownsRow (bd+1) 3 1 v k (encI ((valL L l).take k))) (fun _ i _=>6 - (intOf i).toNat)
 case atStart=>exact ⟨0,aO,rfl,hw,hws,HD0.out,⟨rfl,.inl ⟨rfl,rfl⟩⟩⟩
 case round =>
  clear hw hws HD0;obtain ⟨k,hk,rfl,hw,hws,hd,hrow⟩:=hrel;have HD:=Zh hd;have HO:=Zh hrow;have hz:=hw.size;clear hd hrow
  by_cases hk6:k<6
  ·have hki:(k:Int)<6:=aO
   obtain ⟨p,hp⟩:=Zx ((lAt L k).lo);obtain ⟨q,hq⟩:=Zx ((lAt L k).hi);have hlh:=(lAt_ok HC.out hk6).lh;rw [hp,hq] at hlh;obtain ⟨m,hm⟩:=Zx (q - p+1);have hm1:1<=m/\m<=20001:=aO
   obtain ⟨x,hx⟩:=Zx (nextV (l.drop k) m);have nb:=nextV_bd (l.drop k) m hm1.1;rw [hx] at nb;obtain ⟨y,hy⟩:=Zx (p+x);have hyw:IntKind.i64.wrap y=y:=by rw [IntKind.wrap_i64]; omega
   have hyt:(valL L l).take (k+1)=(valL L l).take k++[y]:=by rw [valL_take aO,hp,hq,hm,hx,hy]
   have e6:wr.cell? ⟨gb,goff+k*8+6,none⟩=some (.int .i64 p):=by rw [<- hp]; exact (hw.cell (p:=⟨gb,_,none⟩) (by rw [HBD.out]; exact hglt)).trans (HG.out k hk6).2.2.2.2.2.2.1
   have e7:wr.cell? ⟨gb,goff+k*8+7,none⟩=some (.int .i64 q):=by rw [<- hq]; exact (hw.cell (p:=⟨gb,_,none⟩) (by rw [HBD.out]; exact hglt)).trans (HG.out k hk6).2.2.2.2.2.2.2
   have HX:=Zh (congrArg (Value.int IntKind.i64) hx);have HY:=Zh hyt;have hob:∀ b,u6.ownBlock=some b->bd+1<=b:=fun b hb=>ownBlock_ge HO.out hb
   have hgT:gb∉bd::ownL u6:=by
    rw [List.mem_cons,mem_ownL];rintro (e | e)
    ·omega
    ·have:=hob gb e; omega
   have hgw:gb<wr.heap.size:=aO
   clear hp hq hx hyt;go_wp2_with fail;refine region_late 19 (bd::ownL u6) aK aK (by rfl) ?_;apply Zs;refine ⟨fun v hv hne=>?_,fun u hu=>?_⟩
   ·simp only [TK];have d6:=fun z:Later (bd::ownL u6) wr v=>(z.cell gb (goff+k*8+6) hgw hgT).trans e6
    have d7:=fun z:Later (bd::ownL u6) wr v=>(z.cell gb (goff+k*8+7) hgw hgT).trans e7
    exact qz
   ·simp only [TK];refine late_mem (fun K hK=>?_)
    (try simp only [LN])
    go_simp;refine Zd (callv (ref1_Next bd (l.drop k) m hm1.1 aO u (HD.out.below hu)) HX.out) ?_;rintro e u2 ⟨rfl,hU,hD2⟩;have hk2:Keeps (bd::ownL u6) wr u2:=(Keeps.of_below hu).more (Upd.keeps (Keeps.refl [bd] u) hU) aS;have hw2:Below w.heap.size w u2:=Upd.below (hw.trans (hu.mono hz)) hU (by simp; have:=HBD.out; omega);have hO2:=ownsRow_upd (ownsRow_stay HO.out hu) hU aO;refine ⟨_,rfl,hK _ _ hk2 (fun u3 hu3=>?_)⟩;clear hK K;have hk3:=hk2.later hu3;have hw3:=hw2.trans (hu3.mono hw2.size);have hO3:=ownsRow_stay hO2 hu3;have hD3:=hD2.below hu3;clear hk2 hw2 hO2 hD2 hu3 hU hu e6 e7;refine late_mem (fun K hK=>?_)
    (try simp only [LN])
    go_simp;refine hK _ _ hk3 (fun u4 hu4=>?_);clear hK K;have hk4:=hk3.later hu4;have hw4:=hw3.trans (hu4.mono hw3.size);have hO4:=ownsRow_stay hO3 hu4;have hD4:=hD3.below hu4;clear hk3 hw3 hO3 hD3 hu4;refine late_mem (fun K hK=>?_)
    (try simp only [LN])
    go_simp;refine hK _ _ (hk4.alloc _) (fun u5 hu5=>?_);clear hK K;have hb5:Below u4.heap.size u4 u5:=((Zb _ _).alloc (Zr _) _).trans (hu5.mono aS);have hsb:u4.heap.size<u5.heap.size:=by have:=hu5.size; simp at this; omega
    have hnew:=(hu5.block u4.heap.size aS).trans (heap_alloc_new u4 _);have hk5:=(hk4.alloc _).later hu5;have hw5:=hw4.trans (hb5.mono hw4.size);have hO5:=ownsRow_stay hO4 hb5;have HD5:=Zh (hD4.below hb5);have hs4:=hk4.1;clear hk4 hw4 hO4 hD4 hu5 hb5;refine late_mem (fun K hK=>?_)
    (try simp only [LN])
    refine late_append _ _ 22 rfl (bd+1) 3 i0 (.int .i64 0) 1 8 Tryz.underlying22 hi hz0 hz1 hz2 rfl aO _ k (encI ((valL L l).take k)) (by rfl) hO5 ⟨u4.heap.size,0,none⟩ 1 1 [.int .i64 y] (by rfl) rfl (World.news_of_block hnew) ?_ aO (by unfold maxLen; omega) aO aO u5.heap.size rfl ?_
    ·intro z hz'; simp at hz'; subst hz'; rfl
    intro g cg u7 ho7 hg7 hat hlt7;have hs7:=hg7.size;have hw7:=Zh (Below.grown hw5 hg7 (by have:=HBD.out; omega) (fun b hb=>by have:=hob b hb; have:=HBD.out; omega));have hk7:=keeps_grown hk5 hg7 (fun r e=>.inl (by rw [List.mem_cons,mem_ownL]; exact .inr e));have HD7:=Zh (DrawAt.of_blocks HD5.out (w':=u7) (fun i hi=>hg7.block i aO (fun e=>by have:=hob i e.symm; omega)));rw [encI_snoc,<- HY.out] at ho7;have HO7:=Zh ho7;refine hK _ _ hk7 (fun u8 hu8=>?_);clear hK K ho7 hg7 hat hlt7 hk5 hw5 hO5 hnew HD5;refine late_mem (fun K hK=>?_)
    (try simp only [LN])
    go_simp;refine hK _ _ (hk7.later hu8) (fun u9 hu9=>?_);clear hK K;refine late_nil ?_
    (try simp only [LN])
    have hb9:=Below.hop hu8 hu9;have B9:=Zh (hw7.out.trans (hb9.mono hw7.out.size));have HO9:=Zh (ownsRow_stay HO7.out hb9);have HD9:=Zh (HD7.out.below hb9);have hs9:bd+1<=u9.heap.size:=by have:=hb9.size; omega
    clear hu8 hu9 hb9 hk7 HO7 HD7 hw7;go_wp2;go_roundw
    case rel=>exact ⟨k+1,aO,by go_num,B9.out,hs9,by have:=HD9.out; rw [List.tail_drop] at this; exact this,HO9.out⟩
    case measure=>simp [intOf]; omega
  ·obtain rfl:k=6:=aO
   have hlen:(valL L l).length=6:=by rw [valL_len,hL6]
   have ho:=HO.out;rw [List.take_of_length_le aO] at ho;obtain ⟨A2,c2,rfl,g1,g2,g3,g4⟩:=ints_of_row ho hlen (valL_I l HC.out);obtain ⟨b2,off2,rfl,_⟩:=g3.row aO;obtain ⟨rfl,h7,h8,_⟩:=g4 b2 off2 rfl;have HG3:=Zh g3;clear g3 g4 HO ho;go_wp2;go_ret;exact ⟨⟨b2,c2,rfl,g1,g2,HG3.out,by have:=HBD.out; omega,h8⟩,hw⟩
theorem rAt_locR {L:List Loc} {k:Nat} (hk:k<L.length):rAt (locM L) k=locR (lAt L k):=by
 unfold rAt lAt locM;rw [Ze,Ze,List.getElem?_map,List.getElem?_eq_getElem hk];rfl
theorem UnitZ.val {L:List Loc} {xs:Nat->Nat->QI} {Ns:Nat->Nat->Int} {D:Int} (h:UnitZ (locM L) xs Ns D) (hC:locC L=0) {x:Nat->QI} {w:List Int} (hm:MotZ x (wN Ns (iAt w)) D) {k:Nat} (hk:k<6) :
 SmInner (lAt L k).n (shiftQ x (lAt L k).p)/\innerQ (lAt L k).n (shiftQ x (lAt L k).p) 3=(iAt w k,1):=by
 refine inner_sm hm (lAt_ok hC hk) ?_;have hl:=(locC_zero hC).1;rw [<- rAt_locR aO];exact mix_row hk (h.row k hk)
theorem MotZ.sq {x:Nat->QI} {N:Nat->Int} {D:Int} (h:MotZ x N D) {a:V3} (ha:vIn a=true) (i:Nat):SmQ (shiftQ x a i):=by
 have hD:=h.pos;have h1:=h.sm ha i;rw [h.shift];exact sm_over hD h.dsm aO
def nI (n:V3):Nat->Int
 | 0=>n.x
 | 1=>n.y
 | _=>n.z
theorem SmInner.mul {n:V3} {s:Nat->QI} (h:SmInner n s) {i:Nat} (hi:i<3):SmQ (mulQ (nI n i,1) (s i)):=by
 rcases (show i=0\/i=1\/i=2 by omega) with rfl | rfl | rfl
 ·exact h.x
 ·exact h.y
 ·exact h.z
theorem Loc.Ok.nI {l:Loc} (h:l.Ok) {i:Nat} (hi:i<3):-1<=nI l.n i/\nI l.n i<=1:=by
 rcases (show i=0\/i=1\/i=2 by omega) with rfl | rfl | rfl
 ·exact h.nx
 ·exact h.ny
 ·exact h.nz
section
variable {P:Program} {ops:Array Oper} {T:List Nat} {w:World} {Q:Exit->Act->World->Prop}
theorem ops_of_any (back:∀ (j:Nat) (o:Oper),ops[j]?=some o->∀ e∈o.after,Region.binds .any e=true->e.on<j):∀ (m i:Nat) (listed:Array Bool) (a:Act) (w:World),i+m=ops.size->listed.size=ops.size ->
 (∀ j,j<i->listed.getD j false=true)->(∀ j,i<=j->j<ops.size->listed.getD j true=false)->wpAny P .any ops Q m listed a w->wpOps P ops Q (List.range' i m) a w:=by
 intro m
 induction m with
 | zero=>exact fun i listed a w _ _ _ _ h=>h.2
 | succ m ih =>
  intro i listed a w hi hs h1 h2 h;have hil:i<ops.size:=aO
  have ho:ops[i]?=some ops[i]:=Array.getElem?_eq_getElem hil;have q:=h.2 i (mem_ready.2 ⟨h2 i (Zr _) hil,_,ho,fun e he hb=>h1 _ (back i _ ho e he hb)⟩);have step:∀ a w,wpAny P .any ops Q m (listed.setIfInBounds i true) a w->wpOps P ops Q (List.range' (i+1) m) a w:=fun a w hk =>
   ih (i+1) _ a w aO (by simpa using hs) (fun j hj=>by
    rw [Array.getD_eq_getD_getElem?,Array.getElem?_setIfInBounds]
    by_cases e:i=j
    ·subst e; rw [if_pos rfl,if_pos aO]; rfl
    ·rw [if_neg e,<- Array.getD_eq_getD_getElem?]; exact h1 j aO) (fun j hj hj2=>by
    rw [Array.getD_eq_getD_getElem?,Array.getElem?_setIfInBounds,if_neg aO,<- Array.getD_eq_getD_getElem?];exact h2 j aO hj2) hk
  rw [List.range'_succ];unfold wpOps;unfold wpOp at q;rw [ho] at q ⊢;simp only [] at q ⊢
  by_cases hw:Region.wanted ops[i] (yielded ops a.tmps)=true
  ·rw [if_pos hw] at q ⊢;rcases q with q | q
   ·exact .inl (Oper.wp_mono step q)
   ·exact .inr q
  ·rw [if_neg hw] at q ⊢;exact step _ _ q
def backFit (l:List Oper):Bool:=l.zipIdx.all fun x=>x.1.after.all fun e=>!Region.binds .any e || decide (e.on<x.2)
theorem region_genP {id:Nat} {a:Act} {l:List Oper} (cs:List (Cut T)) (c ns N:Nat) (Ph:Nat->World->Prop) (hPB:∀ k u u',Ph k u->Below u.heap.size u u'->Ph k u') (hP0:Ph 0 w)
 (hb:backFit l=true) (hB:genFit l (kdAt [] 0 cs) c ns N=true) (hp:cutsOk l c a.tmps.size 0 cs=true)
 (h:genWalk P l T w Ph (kdAt [] 0 cs) c 0 0 [] cs (fun _=>a) (fun A=>∀ f u',Upd T w u'->Ph ns u'->(∀ m,m<c->(kdAt [] 0 cs m).isMake=true->Made T w (kdAt [] 0 cs) f m u') ->
  (∀ m m',m<c->m'<c->(kdAt [] 0 cs m).isMake=true->(kdAt [] 0 cs m').isMake=true->m≠m'->(f m).1≠(f m').1)->effChain P l.toArray T w (Q .normal) (l.drop c) (A f) u')):(Code.region id l.toArray false).wp P Q a w:=by
 refine wp_region ?_;have q:=any_gen (P:=P) (Q:=Q) (a:=a) (l:=l) 0 cs c ns N Ph hPB hP0 (Nat.zero_le _) hB rfl hp h (u:=w) (Zb _ _) (listed:=Array.replicate l.toArray.size false) aS (fun i hi=>aO) (fun i _ hi=>by simp [hi]);rw [List.range_eq_range'];refine ops_of_any (fun j o ho e he hbd=>?_) _ 0 (Array.replicate l.toArray.size false) a w aS aS (fun j hj=>aO) (fun j _ hj=>by simp at hj; simp [hj]) (by simpa using q);have h6:=List.all_eq_true.1 hb _ (mem_zipIdx_of (by simpa using ho));have h7:=Array.all_eq_true'.1 h6 e he;simpa [hbd] using h7
end
theorem noU_r4 {s t:Bool} {A E:Option Addr} {n c m d:Nat}:noU #[.bool s,.slice A n c,.bool t,.slice E m d]:=fun i d h=>by
 match i with
 | 0=>cases h
 | 1=>cases h
 | 2=>cases h
 | 3=>cases h
 | n+4=>simp at h
theorem rat3_at {W:World} {b:Nat} {q:Nat->QI} {x0 y0 x1 y1 x2 y2:Bool} {X0 Y0 X1 Y1 X2 Y2:Option Addr} {p0 q0 u0 z0 p1 q1 u1 z1 p2 q2 u2 z2:Nat} (o:Own W b #[.bool x0,.slice X0 p0 q0,.bool y0,.slice Y0 u0 z0,.bool x1,.slice X1 p1 q1,.bool y1,.slice Y1 u1 z1,.bool x2,.slice X2 p2 q2,.bool y2,.slice Y2 u2 z2])
 (h0:RatAt W (.agg #[.bool x0,.slice X0 p0 q0,.bool y0,.slice Y0 u0 z0]) (q 0).1 (q 0).2) (h1:RatAt W (.agg #[.bool x1,.slice X1 p1 q1,.bool y1,.slice Y1 u1 z1]) (q 1).1 (q 1).2) (h2:RatAt W (.agg #[.bool x2,.slice X2 p2 q2,.bool y2,.slice Y2 u2 z2]) (q 2).1 (q 2).2) {i:Nat} (hi:i<3) :
 ∃ (s t:Bool) (A E:Option Addr) (n c m d:Nat),(W.cell? ⟨b,i*4,none⟩=some (.bool s)/\W.cell? ⟨b,i*4+1,none⟩=some (.slice A n c)/\W.cell? ⟨b,i*4+2,none⟩=some (.bool t)/\W.cell? ⟨b,i*4+3,none⟩=some (.slice E m d))/\RatAt W (.agg #[.bool s,.slice A n c,.bool t,.slice E m d]) (q i).1 (q i).2:=by
 rcases (show i=0\/i=1\/i=2 by omega) with rfl | rfl | rfl
 ·exact ⟨_,_,_,_,_,_,_,_,⟨o.cell 0,o.cell 1,o.cell 2,o.cell 3⟩,h0⟩
 ·exact ⟨_,_,_,_,_,_,_,_,⟨o.cell 4,o.cell 5,o.cell 6,o.cell 7⟩,h1⟩
 ·exact ⟨_,_,_,_,_,_,_,_,⟨o.cell 8,o.cell 9,o.cell 10,o.cell 11⟩,h2⟩
theorem int3_at {W:World} {b:Nat} {n:V3} (o:Own W b #[.int .i64 n.x,.int .i64 n.y,.int .i64 n.z]) {i:Nat} (hi:i<3):W.cell? ⟨b,i,none⟩=some (.int .i64 (nI n i)):=by
 rcases (show i=0\/i=1\/i=2 by omega) with rfl | rfl | rfl
 ·exact o.cell 0
 ·exact o.cell 1
 ·exact o.cell 2
theorem bd_cmp {L:List Loc} {xs:Nat->Nat->QI} {Ns:Nat->Nat->Int} {D:Int} (h:UnitZ (locM L) xs Ns D) {lo hi v:V3} (hb:BoxIn lo hi v) {x:Nat->QI} {w:List Int} (hm:MotZ x (wN Ns (iAt w)) D) (hw:∀ k,k<6->(lAt L k).lo<=iAt w k/\iAt w k<=(lAt L k).hi) (i:Nat) :
 cmpQ (shiftQ x v i) (100*bestQ xs L i (cornersL lo hi),1)<=0/\0<=cmpQ (shiftQ x v i) (-100*bestQ xs L i (cornersL lo hi),1):=by
 have h1:=h.all hb hw i;rw [cmp_hundred hm,cmp_hundred hm,wT_shN];generalize bestQ xs L i (cornersL lo hi)=a at *;have e:a*(D*100)=100*a*D:=by grind
 have e2:-100*a*D=-(100*a*D):=by grind
 rw [e] at h1;rw [e2];generalize 100*a*D=m at *;unfold ordI;constructor
 ·split
  ·omega
  ·split <;> omega
 ·split
  ·omega
  ·split <;> omega
theorem toQ_sgn {a D:Int} (hD:0<D):ordI (toQ a D).1 0=ordI a 0:=by
 have h:=cmp_toQ (a:=a) (b:=0) hD;rw [<- zero_toQ aO] at h;unfold cmpQ at h;simpa using h
def sizeQ (s:QI):QI:=if ordI s.1 0<0 then subQ (0,1) s else s
theorem size_toQ {a D:Int} (hD:0<D):sizeQ (toQ a D)=toQ (max a (-a)) D:=by
 unfold sizeQ;rw [toQ_sgn hD];rcases Int.lt_or_le a 0 with h | h
 ·rw [ordI_lt h,if_pos aO,zero_toQ (D:=D) aO,sub_same aO];congr 1;omega
 ·rw [if_neg (by unfold ordI; rw [if_neg aO]; split <;> omega)];congr 1;omega
structure SmUp (s:QI):Prop where
 a:SmQ s
 n:SmQ (subQ (0,1) s)
 z:SmQ (sizeQ s)
 p:SmQ (divQ (sizeQ s) (100,1))
theorem tight_up {L:List Loc} {xs:Nat->Nat->QI} {Ns:Nat->Nat->Int} {D:Int} (h:UnitZ (locM L) xs Ns D) {v:V3} (hv:vIn v=true) {x:Nat->QI} {w:List Int} (hm:MotZ x (wN Ns (iAt w)) D) (hw:∀ k,k<6->(lAt L k).lo=iAt w k/\(lAt L k).hi=iAt w k) (i:Nat) :
 SmUp (shiftQ x v i)/\ceilQ (divQ (sizeQ (shiftQ x v i)) (100,1))=bestQ xs L i (cornersL v v):=by
 have hD:=hm.pos;have hD0:D≠0:=aO
 have h1:=hm.sm hv i;have h2:=h.tight (L:=L) (v:=v) (w:=iAt w) hw i;rw [<- wT_shN] at h2;rw [hm.shift];generalize shN (wN Ns (iAt w)) v i=a at *;rw [<- h2,size_toQ hD,div_toQ hD0 aO];refine ⟨⟨sm_over hD hm.dsm aO,?_,?_,?_⟩,rfl⟩
 ·rw [zero_toQ hD0,sub_same hD0];exact sm_over hD hm.dsm aO
 ·rw [size_toQ hD];exact sm_over hD hm.dsm aO
 ·rw [size_toQ hD,div_toQ hD0 aO];have:=hm.dsm;exact toQ_sm aO (sm_e30 aO) (sm_e30 aO)
theorem tight_le {L L':List Loc} {xs:Nat->Nat->QI} {Ns:Nat->Nat->Int} {D:Int} (h:UnitZ (locM L) xs Ns D) {lo hi v:V3} (hb:BoxIn lo hi v) (hL:∀ k,k<6->(lAt L k).lo<=(lAt L' k).lo/\(lAt L' k).lo<=(lAt L' k).hi/\(lAt L' k).hi<=(lAt L k).hi) (i:Nat):bestQ xs L' i (cornersL v v)<=bestQ xs L i (cornersL lo hi):=
 h.narrow (fun u hu=>by
  have e:u=v:=by
   unfold cornersL at hu;simp only [List.mem_cons,List.not_mem_nil,or_false,or_self] at hu;exact hu
  rw [e];exact hb) hL i
theorem box_vIn {lo hi u:V3} (h:BoxIn lo hi u) (h1:vIn lo=true) (h2:vIn hi=true):vIn u=true:=by
 have e:∀ v:V3,vIn v=true↔(-24<=v.x/\v.x<=24)/\(-24<=v.y/\v.y<=24)/\(-24<=v.z/\v.z<=24):=fun v=>by simp [vIn,inB]
 rw [e] at h1 h2 ⊢;have a1:=h.x;have a2:=h.y;have a3:=h.z;omega
theorem best_bd {L:List Loc} {xs:Nat->Nat->QI} {Ns:Nat->Nat->Int} {D:Int} (h:UnitZ (locM L) xs Ns D) (hC:locC L=0) {lo hi:V3} (h1:vIn lo=true) (h2:vIn hi=true) (h3:lo.x<=hi.x/\lo.y<=hi.y/\lo.z<=hi.z) (i:Nat):0<=bestQ xs L i (cornersL lo hi)/\bestQ xs L i (cornersL lo hi)<=4500000000000000:=
 ⟨h.nonneg L _ i,h.bd (fun k hk=>by have:=(lAt_ok hC hk).lh; omega) (fun v hv=>box_vIn (corner_in h3 hv) h1 h2) i⟩
structure GoodV (P:List Loc) (Ns:Nat->Nat->Int) (D:Int) (ws:List Int):Prop where
 len:ws.length=6
 rng:∀ k,k<6->(lAt P k).lo<=iAt ws k/\iAt ws k<=(lAt P k).hi
 mot:motC P ws=0
 x:∃ x,FineS (locM P) ws x/\MotZ x (wN Ns (iAt ws)) D
theorem goodV_of {P:List Loc} {xs:Nat->Nat->QI} {Ns:Nat->Nat->Int} {D:Int} (h:UnitZ (locM P) xs Ns D) (hC:locC P=0) {ws:List Int} (hl:ws.length=6) (hr:∀ k,k<6->(lAt P k).lo<=iAt ws k/\iAt ws k<=(lAt P k).hi):GoodV P Ns D ws:=
 ⟨hl,hr,motC_ok hC hl hr,h.mot hl fun i hi=>by have h1:=(lAt_ok hC hi).lh; have h2:=hr i hi; omega⟩
def endI (P:List Loc) (e:Int) (i:Nat):Int:=if (bits BinOp.and IntKind.u8 (e / 2^i) 1==1)=true then (lAt P i).hi else (lAt P i).lo
def endL (P:List Loc) (e:Int):List Int:=(List.range 6).map (endI P e)
theorem endI_in {P:List Loc} {e:Int} (hC:locC P=0) {k:Nat} (hk:k<6):((lAt P k).lo<=endI P e k/\endI P e k<=(lAt P k).hi) /\ -10000<=endI P e k/\endI P e k<=10000:=by
 have h:=(lAt_ok hC hk).lh;unfold endI;split <;> omega
theorem endL_len (P:List Loc) (e:Int):(endL P e).length=6:=by simp [endL]
theorem endL_six (P:List Loc) (e:Int):(endL P e).take 6=endL P e:=List.take_of_length_le (by rw [endL_len]; exact Zr _)
theorem endL_at (P:List Loc) (e:Int) {k:Nat} (hk:k<6):iAt (endL P e) k=endI P e k:=by
 unfold iAt endL;rw [Ze,List.getElem?_map,List.getElem?_range hk];rfl
theorem endL_I {P:List Loc} (e:Int) (hC:locC P=0):I64L (endL P e):=fun i hi=>by
 rw [endL_len] at hi;rw [endL_at P e hi];have:=(endI_in (e:=e) hC hi).2;omega
theorem ends_at (P:List Loc) (e:Int) (F G:Nat->Int) {k:Nat} (hk:k<6):(lAt (chL P (fun i=>if i<6 then endI P e i else F i) (fun i=>if i<6 then endI P e i else G i)) k).lo=iAt (endL P e) k/\(lAt (chL P (fun i=>if i<6 then endI P e i else F i) (fun i=>if i<6 then endI P e i else G i)) k).hi=iAt (endL P e) k:=by
 rw [chL_at _ _ _ hk,endL_at P e hk];exact ⟨if_pos hk,if_pos hk⟩
theorem good_end {P:List Loc} {xs:Nat->Nat->QI} {Ns:Nat->Nat->Int} {D:Int} (h:UnitZ (locM P) xs Ns D) (hC:locC P=0) (e:Int):GoodV P Ns D (endL P e):=
 goodV_of h hC (endL_len P e) fun k hk=>by rw [endL_at P e hk]; exact (endI_in hC hk).1
theorem good_val {P:List Loc} {xs:Nat->Nat->QI} {Ns:Nat->Nat->Int} {D:Int} (h:UnitZ (locM P) xs Ns D) (hC:locC P=0) (l:List Int):GoodV P Ns D (valL P l):=by
 have hl:=(locC_zero hC).1;exact goodV_of h hC ((valL_len P l).trans hl) fun k hk=>valL_in P l aO (lAt_ok hC hk).lh.1
theorem good_ch {P N:List Loc} {Ns:Nat->Nat->Int} {D:Int} {ws:List Int} (h:GoodV P Ns D ws) (hC:locC N=0) (hM:locM N=locM P) (hE:∀ k,k<6->(lAt N k).lo=iAt ws k/\(lAt N k).hi=iAt ws k):GoodV N Ns D ws:=
 ⟨h.len,fun k hk=>by have:=hE k hk; omega,motC_ok hC h.len fun k hk=>by have:=hE k hk; omega,by rw [hM]; exact h.x⟩
theorem by_nI {f:Nat->Int} {a b c:Int} (h0:f 0=a) (h1:f 1=b) (h2:f 2=c) {i:Nat} (hi:i<3):f i=nI ⟨a,b,c⟩ i:=by
 rcases (show i=0\/i=1\/i=2 by omega) with rfl | rfl | rfl
 ·exact h0
 ·exact h1
 ·exact h2
end Go.Proofs.YtflolbnnkbdmfaaGreat
