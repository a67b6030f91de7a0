import Derived.Sort.CutIn
import Derived.Test.YtflolbnnkbdmfaaGreatPlcT
set_option linter.all false
namespace Go.Proofs.YtflolbnnkbdmfaaGreat
set_option maxRecDepth 100000
set_option maxHeartbeats 8000000
open Go.RowKit Go.Shelf
attribute [local go_sem] Oper.semAt_some
structure KeepO (B:Nat) (W W':World):Prop where
 size:W.heap.size<=W'.heap.size
 same:∀ b cs T r,b≠B->W.heap[b]?=some (.cells cs T r)->W'.heap[b]?=some (.cells cs T r)
theorem KeepO.refl (B:Nat) (W:World):KeepO B W W:=⟨Zr _,fun _ _ _ _ _ h=>h⟩
theorem KeepO.trans {B:Nat} {X Y Z:World} (h:KeepO B X Y) (k:KeepO B Y Z):KeepO B X Z:=⟨Zm h.size k.size,fun b cs T r h1 h2=>k.same b cs T r h1 (h.same b cs T r h1 h2)⟩
theorem KeepO.below {B:Nat} {W W':World} (h:Below W.heap.size W W'):KeepO B W W':=⟨h.size,fun b _ _ _ _ h2=>(h.block b (Zt.1 h2).1).trans h2⟩
theorem KeepO.putObj {B:Nat} {w:World} (W:World) (l:Nat) (o o':Obj) (_:w.heap.size<=l) (ho:W.heap[l]?=some o) (hc:o.isCells=false) (_:o.isWalk=false):KeepO B W (W.putObj l o'):=
 ⟨by simp [World.putObj],fun b cs T r _ h2=>by
  by_cases e:b=l
  ·subst e; rw [ho] at h2; cases h2; simp [Obj.isCells] at hc
  ·exact (World.putObj_heap_other aO).trans h2⟩
theorem KeepO.own {B:Nat} {W W':World} (h:KeepO B W W') {b:Nat} {cs:Array Value} {T:TypeId} (hb:b≠B) (ho:OwnT W b cs T):OwnT W' b cs T:=h.same b cs T (0,0) hb ho
theorem corners_take (lx ly lz hx hy hz:Int) {i j k:Nat} (hi:i<2) (hj:j<2) (hk:k<2):(cornersL ⟨lx,ly,lz⟩ ⟨hx,hy,hz⟩).take (4*i+2*j+k+1)=(cornersL ⟨lx,ly,lz⟩ ⟨hx,hy,hz⟩).take (4*i+2*j+k)++[⟨if i=0 then lx else hx,if j=0 then ly else hy,if k=0 then lz else hz⟩]:=by
 rcases (show i=0\/i=1 by omega) with rfl | rfl <;> rcases (show j=0\/j=1 by omega) with rfl | rfl <;> rcases (show k=0\/k=1 by omega) with rfl | rfl <;> rfl
theorem corners_mem (lx ly lz hx hy hz:Int) {i j k:Nat} (hi:i<2) (hj:j<2) (hk:k<2):(⟨if i=0 then lx else hx,if j=0 then ly else hy,if k=0 then lz else hz⟩:V3)∈(cornersL ⟨lx,ly,lz⟩ ⟨hx,hy,hz⟩):=by
 rcases (show i=0\/i=1 by omega) with rfl | rfl <;> rcases (show j=0\/j=1 by omega) with rfl | rfl <;> rcases (show k=0\/k=1 by omega) with rfl | rfl <;> simp [cornersL]
theorem two_cell {W:World} {b:Nat} {x y:Int} (h:OwnT W b #[.int .i64 x,.int .i64 y] 3) {i:Nat} (hi:i<2):W.cell? ⟨b,i,none⟩=some (.int .i64 (if i=0 then x else y)):=by
 rcases (show i=0\/i=1 by omega) with rfl | rfl
 ·exact h.own.cell 0
 ·exact h.own.cell 1
theorem plc_corners (lx ly lz hx hy hz:Int) (w:World) :
 Calls Tryz.prog 100 #[vV lx ly lz,vV hx hy hz] w fun r w'=>r = .returned (.func (.func 183) #[] #[.pointer (some ⟨w.heap.size,0,none⟩),.pointer (some ⟨w.heap.size+1,0,none⟩)])/\w'=(w.alloc (.cells #[.int .i64 lx,.int .i64 ly,.int .i64 lz] 44)).alloc (.cells #[.int .i64 hx,.int .i64 hy,.int .i64 hz] 44):=by
 go_enter Tryz.func100,Tryz.ntmps100;go_wp2;go_ret;exact ⟨rfl,rfl⟩
theorem corners1_in (n l B1 B2 Bf:Nat) (hn:1<=n) (lx ly lz hx hy hz:Int) (J Jx:List V3->World->Prop) (W:World) (hJ:AbidesFrom W.heap.size J)
 (hY:∀ pre x W,x∈(cornersL ⟨lx,ly,lz⟩ ⟨hx,hy,hz⟩)->J pre W->pre.length<8->YieldAt Fence.wide (n - 1) Tryz.prog l #[V3.v x] W fun e W'=>(e = .returned (.bool true)/\J (pre++[x]) W'/\KeepO Bf W W')\/(e = .returned (.bool false)/\Jx (pre++[x]) W'))
 (h1:OwnT W B1 #[.int .i64 lx,.int .i64 ly,.int .i64 lz] 44) (h2:OwnT W B2 #[.int .i64 hx,.int .i64 hy,.int .i64 hz] 44) (n1:B1≠Bf) (n2:B2≠Bf) (hBf:Bf<W.heap.size) (h0:J [] W) :
 CallsIn Fence.wide n Tryz.prog 183 #[.func (.yield l) #[] #[],.pointer (some ⟨B1,0,none⟩),.pointer (some ⟨B2,0,none⟩)] W fun e W'=>(∃ v,e = .returned v) /\
  ((∃ ys,ys=(cornersL ⟨lx,ly,lz⟩ ⟨hx,hy,hz⟩)/\J ys W')\/(∃ pre,pre <+: (cornersL ⟨lx,ly,lz⟩ ⟨hx,hy,hz⟩)/\Jx pre W')):=by
 refine callsIn_of_wp Tryz.func183 rfl trivial ?_ rfl;simp only [Tryz.ntmps183,List.size_toArray,List.length_cons,List.length_nil,Nat.reduceAdd,Nat.reduceSub,Array.replicate_succ,Array.replicate_zero,List.push_toArray,List.append_toArray,List.nil_append,List.cons_append];have c1:=h1.own.cell;have c2:=h2.own.cell;gi_wp2;have a1:OwnT (W.alloc (.cells #[.int .i64 lx,.int .i64 hx] 3)) W.heap.size #[.int .i64 lx,.int .i64 hx] 3:=OwnT.new;have hb1:Below W.heap.size W (W.alloc (.cells #[.int .i64 lx,.int .i64 hx] 3)):=(Zb _ _).alloc (Zr _) _;have g1:=h1.below hb1;have g2:=h2.below hb1;have gJ:=abides_below hJ h0 hb1;have hz1:=hb1.size;clear c1 c2 hb1 h1 h2 h0;obtain ⟨b1,eb1⟩:=Zx (W.heap.size);rw [eb1] at a1 ⊢;have nb1:b1≠Bf:=aO
 generalize W.alloc (.cells #[.int .i64 lx,.int .i64 hx] 3)=W1 at *;clear eb1;gi_loopw [16] (fun iv wr=>∃ m:Nat,m<=2/\iv = .int .i64 m/\J ((cornersL ⟨lx,ly,lz⟩ ⟨hx,hy,hz⟩).take (4*m)) wr/\KeepO Bf W1 wr) (fun iv _=>2 - (intOf iv).toNat)
 case atStart=>exact ⟨0,aO,rfl,by simpa using gJ,KeepO.refl _ _⟩
 case round =>
  clear gJ;obtain ⟨i,hi1,rfl,hJ1,hK1⟩:=hrel;have HJ1:=Zh hJ1;have HK1:=Zh hK1;have h1:=hK1.own n1 g1;have h2:=hK1.own n2 g2;have q1:=hK1.own nb1 a1;have hzw1:=hK1.size;clear hJ1 hK1
  by_cases hlt1m:i<2
  ·have hl1i:(i:Int)<2:=aO
   have v1:=two_cell q1 hlt1m;obtain ⟨xv,hxv⟩:=Zx ((if i=0 then lx else hx));rw [hxv] at v1;have HxV:=Zh hxv;clear hxv;have c1:=h1.own.cell;have c2:=h2.own.cell;gi_wp2;have a2:OwnT (wr.alloc (.cells #[.int .i64 ly,.int .i64 hy] 3)) wr.heap.size #[.int .i64 ly,.int .i64 hy] 3:=OwnT.new;have hb2:Below wr.heap.size wr (wr.alloc (.cells #[.int .i64 ly,.int .i64 hy] 3)):=(Zb _ _).alloc (Zr _) _;have g1:=h1.below hb2;have g2:=h2.below hb2;have gJ:=abides_below hJ HJ1.out hb2;have hz2:=hb2.size;have hKb:KeepO Bf wr (wr.alloc (.cells #[.int .i64 ly,.int .i64 hy] 3)):=KeepO.below hb2;clear c1 c2 hb2 h1 h2 HJ1 q1;obtain ⟨b2,eb2⟩:=Zx (wr.heap.size);rw [eb2] at a2 ⊢;have nb2:b2≠Bf:=aO
   generalize wr.alloc (.cells #[.int .i64 ly,.int .i64 hy] 3)=W2 at *;have HKK2:=Zh (HK1.out.trans hKb);clear hKb eb2;gi_loopw [26] (fun iv wr=>∃ m:Nat,m<=2/\iv = .int .i64 m/\J ((cornersL ⟨lx,ly,lz⟩ ⟨hx,hy,hz⟩).take (4*i+2*m)) wr/\KeepO Bf W2 wr) (fun iv _=>2 - (intOf iv).toNat)
   case atStart=>exact ⟨0,aO,rfl,by simpa using gJ,KeepO.refl _ _⟩
   case round =>
    clear gJ;obtain ⟨j,hi2,rfl,hJ2,hK2⟩:=hrel;have HJ2:=Zh hJ2;have HK2:=Zh hK2;have h1:=hK2.own n1 g1;have h2:=hK2.own n2 g2;have q2:=hK2.own nb2 a2;have hzw2:=hK2.size;clear hJ2 hK2
    by_cases hlt2m:j<2
    ·have hl2i:(j:Int)<2:=aO
     have v2:=two_cell q2 hlt2m;obtain ⟨yv,hyv⟩:=Zx ((if j=0 then ly else hy));rw [hyv] at v2;have HyV:=Zh hyv;clear hyv;have c1:=h1.own.cell;have c2:=h2.own.cell;gi_wp2;have a3:OwnT (wr.alloc (.cells #[.int .i64 lz,.int .i64 hz] 3)) wr.heap.size #[.int .i64 lz,.int .i64 hz] 3:=OwnT.new;have hb3:Below wr.heap.size wr (wr.alloc (.cells #[.int .i64 lz,.int .i64 hz] 3)):=(Zb _ _).alloc (Zr _) _;have gJ:=abides_below hJ HJ2.out hb3;have hKb:KeepO Bf wr (wr.alloc (.cells #[.int .i64 lz,.int .i64 hz] 3)):=KeepO.below hb3;clear c1 c2 hb3 h1 h2 HJ2 q2;obtain ⟨b3,eb3⟩:=Zx (wr.heap.size);rw [eb3] at a3 ⊢;have nb3:b3≠Bf:=aO
     generalize wr.alloc (.cells #[.int .i64 lz,.int .i64 hz] 3)=W3 at *;have HKK3:=Zh (HK2.out.trans hKb);clear hKb eb3;gi_loopw [36] (fun iv wr=>∃ m:Nat,m<=2/\iv = .int .i64 m/\J ((cornersL ⟨lx,ly,lz⟩ ⟨hx,hy,hz⟩).take (4*i+2*j+m)) wr/\KeepO Bf W3 wr) (fun iv _=>2 - (intOf iv).toNat)
     case atStart=>exact ⟨0,aO,rfl,by simpa using gJ,KeepO.refl _ _⟩
     case round =>
      clear gJ;obtain ⟨k,hi3,rfl,hJ3,hK3⟩:=hrel;have HJ3:=Zh hJ3;have HK3:=Zh hK3;have q3:=hK3.own nb3 a3;clear hJ3 hK3
      by_cases hlt3m:k<2
      ·have hl3i:(k:Int)<2:=aO
       have v3:=two_cell q3 hlt3m;obtain ⟨zv,hzv⟩:=Zx ((if k=0 then lz else hz));rw [hzv] at v3;have HzV:=Zh hzv;clear hzv;have hst:=corners_take lx ly lz hx hy hz hlt1m hlt2m hlt3m;have hmem:=corners_mem lx ly lz hx hy hz hlt1m hlt2m hlt3m;rw [HxV.out,HyV.out,HzV.out] at hst hmem;have HST:=Zh hst;clear hst;obtain ⟨fn,tmps,assign,body,hy',hR⟩:=hY _ ⟨xv,yv,zv⟩ wr hmem HJ3.out (by rw [List.length_take]; have:(cornersL ⟨lx,ly,lz⟩ ⟨hx,hy,hz⟩).length=8:=rfl; omega);clear hmem;gi_wp2;refine hR.mono ?_;clear hR hy';rintro e W9 (⟨rfl,hJ9,hk9⟩ | ⟨rfl,hJx9⟩)
       ·have HJ9:=Zh hJ9;have HK9:=Zh (HK3.out.trans hk9);clear hJ9 hk9;gi_wp2;go_roundw
        case rel=>exact ⟨k+1,aO,by go_num,by rw [show 4*i+2*j+(k+1)=4*i+2*j+k+1 by omega,HST.out]; exact HJ9.out,HK9.out⟩
        case measure=>simp [intOf]; omega
       ·have HJ9:=Zh hJx9;clear hJx9;gi_wp2;refine bodyPost_ret (results_none rfl _ _ _) rfl ?_;exact ⟨⟨_,rfl⟩,.inr ⟨_,by rw [<- HST.out]; exact List.take_prefix _ _,HJ9.out⟩⟩
      ·obtain rfl:k=2:=aO
       gi_wp2;go_roundw
       case rel=>exact ⟨j+1,aO,by go_num,by rw [show 4*i+2*(j+1)=4*i+2*j+2 by omega]; exact HJ3.out,HKK3.out.trans HK3.out⟩
       case measure=>simp [intOf]; omega
    ·obtain rfl:j=2:=aO
     gi_wp2;go_roundw
     case rel=>exact ⟨i+1,aO,by go_num,by rw [show 4*(i+1)=4*i+2*2 by omega]; exact HJ2.out,HKK2.out.trans HK2.out⟩
     case measure=>simp [intOf]; omega
  ·obtain rfl:i=2:=aO
   gi_wp2;go_end0;exact ⟨⟨_,rfl⟩,.inl ⟨_,rfl,HJ1.out⟩⟩
def clv (x:V3):V3:=if vIn x=true then x else ⟨0,0,0⟩
theorem clv_id {x:V3} (h:vIn x=true):clv x=x:=if_pos h
theorem clv_in (x:V3):vIn (clv x)=true:=by
 unfold clv;split
 ·assumption
 ·rfl
theorem corners_seq (n B1 B2 Bf:Nat) (hn:1<=n) (lx ly lz hx hy hz:Int) (w:World) (hv:∀ v∈(cornersL ⟨lx,ly,lz⟩ ⟨hx,hy,hz⟩),vIn v=true)
 (h1:OwnT w B1 #[.int .i64 lx,.int .i64 ly,.int .i64 lz] 44) (h2:OwnT w B2 #[.int .i64 hx,.int .i64 hy,.int .i64 hz] 44) (n1:B1≠Bf) (n2:B2≠Bf) (hBf:Bf<w.heap.size) :
 SeqStopsK Fence.wide n Tryz.prog 183 #[.pointer (some ⟨B1,0,none⟩),.pointer (some ⟨B2,0,none⟩)] (fun x:V3=>#[V3.v (clv x)]) (KeepO Bf) (fun ys=>ys=(cornersL ⟨lx,ly,lz⟩ ⟨hx,hy,hz⟩)) (fun pre=>pre <+: (cornersL ⟨lx,ly,lz⟩ ⟨hx,hy,hz⟩)) 8 w:=fun l J Jx W hW hJ _ hY h0=>by
 refine corners1_in n l B1 B2 Bf hn lx ly lz hx hy hz J Jx W hJ (fun pre x W1 hx hj hl=>?_) (h1.below hW) (h2.below hW) n1 n2 (Zl hBf hW.size) h0;have:=hY pre x W1 hj hl;dsimp only at this;rw [clv_id (hv x hx)] at this;exact this
end Go.Proofs.YtflolbnnkbdmfaaGreat
namespace Go.Proofs.YtflolbnnkbdmfaaGreat
open Go.RowKit
section
variable {P:Program} {ops:Array Oper} {Q:Exit->Act->World->Prop} {l n:Nat}
def undefer (os:List Oper):Bool:=os.all fun o=>match o.op with | .defer _=>false | _=>true
theorem undefer_of {os:List Oper} (h:undefer os=true) {o:Oper} (ho:o∈os) (c:Go.Call):o.op ≠ .defer c:=fun e=>by
 have:=List.all_eq_true.1 h o ho;rw [e] at this;cases this
theorem operIn_of {o:Oper} {a:Act} {w:World} {K K':Act->World->Prop} (hd:∀ c,o.op ≠ .defer c) (hK:∀ a w,K a w->K' a w) (h:o.wp P a w K Q):o.wpIn (Fence.wide.inRound l) n P a w K' Q:=by
 unfold Oper.wp at h;unfold Oper.wpIn;refine ⟨fun _ _=>trivial,?_⟩;rw [Fence.inRound_round,Oper.semAt_some l _ _ hd];have hn:(Fence.wide.inRound l).depth.isSome=true->1<=n:=fun e=>by simp [Fence.wide] at e
 generalize (execOp a.eval o).run P w=r at *;cases r with
 | ok x w' =>
  cases x with
  | value v=>exact hK _ _ h
  | skip=>exact hK _ _ h
  | defer d=>exact hK _ _ h
  | enter f args=>exact ⟨hn,(CallsIn.inRound l (callsIn_wide.2 h)).mono fun e w'' he=>by cases e <;> first | exact hK _ _ he | exact he⟩
  | row row args=>exact ⟨hn,fun c cs _=>let ⟨v,w',r,s⟩:=h c cs; ⟨v,w',hK _ _ r,stepsIn_wide.2 s⟩⟩
  | _=>exact h.elim
 | halt x w'=>cases x <;> exact h
theorem opIn_of {i:Nat} {a:Act} {w:World} {K K':Act->World->Prop} (hd:undefer ops.toList=true) (hQ:¬ LetsOut Q) (hK:∀ a w,K a w->K' a w) (h:wpOp P ops Q i K a w):wpOpIn (Fence.wide.inRound l) n P ops Q i K' a w:=by
 unfold wpOp at h;unfold wpOpIn;cases ho:ops[i]? with
 | none=>simp only [ho] at h; exact hK _ _ h
 | some o =>
  simp only [ho] at h ⊢;split
  ·rename_i hw
   rw [if_pos hw] at h;rcases h with h | h
   ·exact operIn_of (undefer_of hd (by rw [<- Array.getElem?_toList] at ho; exact List.mem_of_getElem? ho)) hK h
   ·exact absurd h.2 hQ
  ·rename_i hw
   rw [if_neg hw] at h;exact ⟨fun _ _=>trivial,hK _ _ h⟩
theorem opsIn_of (hd:undefer ops.toList=true) (hQ:¬ LetsOut Q):∀ (is:List Nat) (a:Act) (w:World),wpOps P ops Q is a w->wpOpsIn (Fence.wide.inRound l) n P ops Q is a w
 | [],_,_,h=>h
 | i::is,a,w,h=>by
  rw [wpOps_cons] at h;rw [wpOpsIn_cons];exact opIn_of hd hQ (opsIn_of hd hQ is) h
theorem anyIn_of {md:Region.Mode} (hd:undefer ops.toList=true) (hQ:¬ LetsOut Q):∀ (fuel:Nat) (listed:Array Bool) (a:Act) (w:World),wpAny P md ops Q fuel listed a w->wpAnyIn (Fence.wide.inRound l) n P md ops Q fuel listed a w
 | 0,_,_,_,h=>h
 | fuel+1,listed,a,w,h=>⟨h.1,fun i hi=>opIn_of hd hQ (anyIn_of hd hQ fuel _) (h.2 i hi)⟩
end
section
variable {P:Program} {T:List Nat} {Q:Exit->Act->World->Prop} {w:World}
theorem region_genR {id lr n:Nat} {a:Act} {l:List Oper} (cs:List (Cut T)) (c ns N:Nat) (Ph:Nat->World->Prop) (hd:undefer l=true) (hQ:¬ LetsOut Q) (hPB:∀ k u u',Ph k u->Below u.heap.size u u'->Ph k u') (hP0:Ph 0 w)
 (hm:P.follows .mixedOrders=true) (hB:genFit l (kdAt [] 0 cs) c ns N=true) (hp:cutsOk l c a.tmps.size 0 cs=true)
 (h:genWalk P l T w Ph (kdAt [] 0 cs) c 0 0 [] cs (fun _=>a) (fun A=>∀ f u',Upd T w u'->Ph ns u'->(∀ m,m<c->(kdAt [] 0 cs m).isMake=true->Made T w (kdAt [] 0 cs) f m u') ->
  (∀ m m',m<c->m'<c->(kdAt [] 0 cs m).isMake=true->(kdAt [] 0 cs m').isMake=true->m≠m'->(f m).1≠(f m').1)->effChain P l.toArray T w (Q .normal) (l.drop c) (A f) u')):(Code.region id l.toArray true).wpIn (Fence.wide.inRound lr) n P Q a w:=by
 refine wpIn_region_any hm (anyIn_of hd hQ _ _ _ _ ?_);have:=any_gen (P:=P) (Q:=Q) (a:=a) (l:=l) 0 cs c ns N Ph hPB hP0 (Nat.zero_le _) hB rfl hp h (u:=w.drew) (Zb _ _).drew (listed:=Array.replicate l.toArray.size false) aS (fun i hi=>aO) (fun i _ hi=>by simp [hi]);simpa using this
theorem region_flatR {id lr m:Nat} {a:Act} {l:List Oper} (n:Nat) (hd:undefer l=true) (hQ:¬ LetsOut Q) (hn:(decide (n<=l.length))=true) (h:∃ A,(∀ v,Keeps [] w v->Nonempty (Later [] w v)->wpQuiet P l.toArray (fun w'=>∃ x:Later [] w v,w'=x.u) (fun a'=>a'=A) (l.take n) a) /\
 (∀ u,Below w.heap.size w u->flatLate P l.toArray (Q .normal) (l.drop n) A u)):(Code.region id l.toArray false).wpIn (Fence.wide.inRound lr) m P Q a w:=by
 obtain ⟨A,h1,h2⟩:=h;have hn:n<=l.length:=by simpa using hn
 refine wpIn_region (opsIn_of hd hQ _ _ _ ?_);have e:List.range l.toArray.size=List.range' 0 (l.take n).length++List.range' n (l.drop n).length:=by
  rw [List.range_eq_range',List.length_take,List.length_drop,Nat.min_eq_left hn,List.size_toArray];have:=List.range'_append_1 (s:=0) (m:=n) (n:=l.length - n);rw [Nat.zero_add,show n+(l.length - n)=l.length by omega] at this;exact this.symm
 rw [e];refine ops_flat_quiet (C:=fun w'=>∃ x:Later [] w w,w'=x.u) (fun u hu=>?_) (l.take n) 0 a w ⟨⟨w,Keeps.refl _ _,Zb _ _⟩,rfl⟩ (fun j hj=>?_) (h1 w (Keeps.refl _ _) ⟨⟨w,Keeps.refl _ _,Zb _ _⟩⟩)
 ·obtain ⟨x,rfl⟩:=hu;refine ops_flat_late (l.drop n) n A x.u (fun j=>?_) (h2 x.u x.g)
  by_cases hj:j<(l.drop n).length
  ·left; rw [List.getElem?_drop]; simp
  ·right; omega
 ·rw [List.getElem?_take_of_lt (by rw [List.length_take] at hj; omega)]; simp
end
def code (a b:Nat):Nat:=2^a*(2*b+1)
theorem code_two (c d:Nat):code (c+1) d=2*code c d:=by
 unfold code;rw [Nat.pow_succ,Nat.mul_comm (2^c) 2,Nat.mul_assoc]
theorem code_inj:∀ (a c b d:Nat),code a b=code c d->a=c/\b=d
 | 0,0,b,d,h=>by
  unfold code at h;simp only [Nat.pow_zero,Nat.one_mul] at h;omega
 | 0,c+1,b,d,h=>by
  rw [code_two] at h;unfold code at h;simp only [Nat.pow_zero,Nat.one_mul] at h;omega
 | a+1,0,b,d,h=>by
  rw [code_two] at h;have h2:code 0 d=2*d+1:=by unfold code; simp
  omega
 | a+1,c+1,b,d,h=>by
  rw [code_two,code_two] at h;obtain ⟨h1,h2⟩:=code_inj a c b d aO;exact ⟨aO,h2⟩
noncomputable def dec (n:Nat):Nat×Nat:=open Classical in if h:∃ p:Nat×Nat,code p.1 p.2=n then Classical.choose h else (0,0)
theorem dec_code (a b:Nat):dec (code a b)=(a,b):=by
 have h:∃ p:Nat×Nat,code p.1 p.2=code a b:=⟨(a,b),rfl⟩;unfold dec;rw [dif_pos h];obtain ⟨h1,h2⟩:=code_inj _ _ _ _ (Classical.choose_spec h);exact Prod.ext h1 h2
noncomputable def endB (B:Nat) (p q:QI):EBS [] where
 val k:= .tuple #[ratV p.1 p.2 k.1 (dec k.2).1,ratV q.1 q.2 (dec (dec k.2).2).1 (dec (dec k.2).2).2]
 R k u:=(NumO u k.1 p.1/\NumO u (dec k.2).1 p.2/\NumO u (dec (dec k.2).2).1 q.1/\NumO u (dec (dec k.2).2).2 q.2)/\(B<=(dec k.2).1/\(dec k.2).1<u.heap.size)/\(B<=(dec (dec k.2).2).1/\(dec (dec k.2).2).1<u.heap.size)/\B<=(dec (dec k.2).2).2/\(dec (dec k.2).2).2<u.heap.size
 st _ _ _ h k:=⟨⟨fun h1 h2=>(h.1.1 h1 h2).upd k aS,fun h1 h2=>(h.1.2.1 h1 h2).upd k aS,fun h1 h2=>(h.1.2.2.1 h1 h2).upd k aS,fun h1 h2=>(h.1.2.2.2 h1 h2).upd k aS⟩,⟨h.2.1.1,Zl h.2.1.2 k.size⟩,⟨h.2.2.1.1,Zl h.2.2.1.2 k.size⟩,h.2.2.2.1,Zl h.2.2.2.2 k.size⟩
theorem endB_val {B:Nat} {p q:QI} {k:Nat×Nat}:(endB B p q).val k = .tuple #[ratV p.1 p.2 k.1 (dec k.2).1,ratV q.1 q.2 (dec (dec k.2).2).1 (dec (dec k.2).2).2]:=rfl
def ArrO (D:Nat) (W:World) (b:Nat) (Q:Nat->QI) (m:Nat):Prop:=b<D/\∃ cs,Own W b cs/\cs.size=12/\∀ i,i<m->∃ s1 A1 n1 c1 s2 A2 n2 c2,cs[i*4]?=some (.bool s1)/\cs[i*4+1]?=some (.slice A1 n1 c1)/\cs[i*4+2]?=some (.bool s2)/\cs[i*4+3]?=some (.slice A2 n2 c2)/\RatX (fun y=>D<=y) W s1 A1 n1 c1 s2 A2 n2 c2 (Q i).1 (Q i).2
theorem ArrO.upd {D:Nat} {W W':World} {b m:Nat} {Q:Nat->QI} {T:List Nat} (h:ArrO D W b Q m) (hk:Keeps T W W') (hb:b∉T) (hT:∀ y∈T,y<D):ArrO D W' b Q m:=by
 obtain ⟨hd,cs,ho,hz,hc⟩:=h;refine ⟨hd,cs,ho.keeps hk hb,hz,fun i h1=>?_⟩;obtain ⟨s1,A1,n1,c1,s2,A2,n2,c2,e1,e2,e3,e4,hr⟩:=hc i h1;exact ⟨s1,A1,n1,c1,s2,A2,n2,c2,e1,e2,e3,e4,hr.move hk.1 fun y hy hX=>⟨hk.2 y hy (fun hm=>by have:=hT y hm; omega),hX⟩⟩
theorem ArrO.below {D:Nat} {W W':World} {b m:Nat} {Q:Nat->QI} (h:ArrO D W b Q m) (hb:Below W.heap.size W W'):ArrO D W' b Q m:=
 h.upd (T:=[]) (Keeps.of_below hb) aS aS
theorem ArrO.lt {D:Nat} {W:World} {b m:Nat} {Q:Nat->QI} (h:ArrO D W b Q m):b<W.heap.size:=by
 obtain ⟨_,cs,ho,_⟩:=h;exact ho.lt
theorem ArrO.at_ {D:Nat} {W:World} {b m i:Nat} {Q:Nat->QI} (h:ArrO D W b Q m) (hi:i<m):∃ s1 A1 n1 c1 s2 A2 n2 c2,(W.cell? ⟨b,i*4,none⟩=some (.bool s1)/\W.cell? ⟨b,i*4+1,none⟩=some (.slice A1 n1 c1)/\W.cell? ⟨b,i*4+2,none⟩=some (.bool s2)/\W.cell? ⟨b,i*4+3,none⟩=some (.slice A2 n2 c2))/\RatX (fun y=>D<=y) W s1 A1 n1 c1 s2 A2 n2 c2 (Q i).1 (Q i).2:=by
 obtain ⟨_,cs,ho,hz,hc⟩:=h;obtain ⟨s1,A1,n1,c1,s2,A2,n2,c2,e1,e2,e3,e4,hr⟩:=hc i hi;exact ⟨s1,A1,n1,c1,s2,A2,n2,c2,⟨(ho.cell _).trans e1,(ho.cell _).trans e2,(ho.cell _).trans e3,(ho.cell _).trans e4⟩,hr⟩
theorem ArrO.four {D:Nat} {W:World} {b m k:Nat} {Q:Nat->QI} (h:ArrO D W b Q m) (hk:k<3):∃ v0 v1 v2 v3,(W.cell? ⟨b,k*4,none⟩=some v0/\W.cell? ⟨b,k*4+1,none⟩=some v1/\W.cell? ⟨b,k*4+2,none⟩=some v2/\W.cell? ⟨b,k*4+3,none⟩=some v3)/\∀ i,W.frozen? ⟨b,i,none⟩=false:=by
 obtain ⟨_,cs,ho,hz,_⟩:=h;exact ⟨_,_,_,_,⟨(ho.cell _).trans (Array.getElem?_eq_getElem aO),(ho.cell _).trans (Array.getElem?_eq_getElem aO),(ho.cell _).trans (Array.getElem?_eq_getElem aO),(ho.cell _).trans (Array.getElem?_eq_getElem aO)⟩,ho.thaw⟩
theorem ArrO.put {D:Nat} {W:World} {b:Nat} {Q Q':Nat->QI} {m m' k:Nat} (h:ArrO D W b Q m) (hk:k<3) {s1 s2:Bool} {A1 A2:Option Addr} {n1 c1 n2 c2:Nat} (hr:RatX (fun y=>D<=y) W s1 A1 n1 c1 s2 A2 n2 c2 (Q' k).1 (Q' k).2) (hy:∀ i,i<m'->i≠k->i<m/\Q' i=Q i) :
 ArrO D ((((W.setCell ⟨b,k*4,none⟩ (.bool s1)).setCell ⟨b,k*4+1,none⟩ (.slice A1 n1 c1)).setCell ⟨b,k*4+2,none⟩ (.bool s2)).setCell ⟨b,k*4+3,none⟩ (.slice A2 n2 c2)) b Q' m':=by
 obtain ⟨hd,cs,⟨T,ho⟩,hz,hc⟩:=h;obtain ⟨cs',ho',hz',hn,hold⟩:=put4_own (show OwnT W b cs T from ho) (k*4) (.bool s1) (.slice A1 n1 c1) (.bool s2) (.slice A2 n2 c2);have hmv:∀ {t1 B1 m1 d1 t2 B2 m2 d2 p q},RatX (fun y=>D<=y) W t1 B1 m1 d1 t2 B2 m2 d2 p q->RatX (fun y=>D<=y) (put4 W b (k*4) (.bool s1) (.slice A1 n1 c1) (.bool s2) (.slice A2 n2 c2)) t1 B1 m1 d1 t2 B2 m2 d2 p q:=
  fun h=>h.move (by rw [put4_size]; exact Zr _) fun y _ hX=>⟨put4_block _ _ _ _ _ _ _ y aO,hX⟩
 refine ⟨hd,cs',⟨T,ho'⟩,by rw [hz',hz],fun i h1=>?_⟩
 by_cases e:i=k
 ·subst e;obtain ⟨g1,g2,g3,g4⟩:=hn aO;exact ⟨s1,A1,n1,c1,s2,A2,n2,c2,g1,g2,g3,g4,hmv hr⟩
 ·obtain ⟨h3,h4⟩:=hy i h1 e;obtain ⟨t1,B1,m1,d1,t2,B2,m2,d2,e1,e2,e3,e4,h5⟩:=hc i h3;rw [h4];exact ⟨t1,B1,m1,d1,t2,B2,m2,d2,(hold _ aO).trans e1,(hold _ aO).trans e2,(hold _ aO).trans e3,(hold _ aO).trans e4,hmv h5⟩
theorem late_load_at {P:Program} {o:Oper} {A:Act} {u:World} {K:Value->World->Prop} (ty:TypeId) (x:Operand) (ho:o.op = .load ty x) (b off:Nat) (vs:List Value) (d:TypeDesc) (hx:A.eval x = .pointer (some ⟨b,off,none⟩))
 (hr:u.rangeAt b off vs) (hu:P.underlying ty=some d) (hd:d.isRow=true) (hi:(P.info? ty).map (·.size)=some vs.length) (h:K (.agg vs.toArray) u):lateOp P o A u K:=by
 unfold lateOp execOp;simp only [ho,hx,Sem.run_bind,Sem.run_pure,run_loadAt_mid u b off ty vs d hr hu hd hi,Result.andThen_ok,lateUpon];exact h
theorem MotsO.at_ {B:Nat} {w:World} {g cap k:Nat} {xs:Nat->Nat->QI} (h:MotsO B w (.slice (some ⟨g,0,none⟩) k cap) k xs) {j:Nat} (hj:j<k):∃ (s0 t0:Bool) (A0 E0:Option Addr) (n0 c0 m0 d0:Nat) (s1 t1:Bool) (A1 E1:Option Addr) (n1 c1 m1 d1:Nat) (s2 t2:Bool) (A2 E2:Option Addr) (n2 c2 m2 d2:Nat) (s3 t3:Bool) (A3 E3:Option Addr) (n3 c3 m3 d3:Nat) (s4 t4:Bool) (A4 E4:Option Addr) (n4 c4 m4 d4:Nat) (s5 t5:Bool) (A5 E5:Option Addr) (n5 c5 m5 d5:Nat),w.rangeAt g (j*24) [.bool s0,.slice A0 n0 c0,.bool t0,.slice E0 m0 d0,.bool s1,.slice A1 n1 c1,.bool t1,.slice E1 m1 d1,.bool s2,.slice A2 n2 c2,.bool t2,.slice E2 m2 d2,.bool s3,.slice A3 n3 c3,.bool t3,.slice E3 m3 d3,.bool s4,.slice A4 n4 c4,.bool t4,.slice E4 m4 d4,.bool s5,.slice A5 n5 c5,.bool t5,.slice E5 m5 d5]/\RatAt w (.agg #[.bool s0,.slice A0 n0 c0,.bool t0,.slice E0 m0 d0]) (xs j 0).1 (xs j 0).2/\RatAt w (.agg #[.bool s1,.slice A1 n1 c1,.bool t1,.slice E1 m1 d1]) (xs j 1).1 (xs j 1).2/\RatAt w (.agg #[.bool s2,.slice A2 n2 c2,.bool t2,.slice E2 m2 d2]) (xs j 2).1 (xs j 2).2/\RatAt w (.agg #[.bool s3,.slice A3 n3 c3,.bool t3,.slice E3 m3 d3]) (xs j 3).1 (xs j 3).2/\RatAt w (.agg #[.bool s4,.slice A4 n4 c4,.bool t4,.slice E4 m4 d4]) (xs j 4).1 (xs j 4).2/\RatAt w (.agg #[.bool s5,.slice A5 n5 c5,.bool t5,.slice E5 m5 d5]) (xs j 5).1 (xs j 5).2:=by
 obtain ⟨cs,ho,hl,hc⟩:=h;obtain ⟨s0,A0,n0,c0,t0,E0,m0,d0,e00,e01,e02,e03,r0⟩:=hc (j*6+0) aO;simp only [show (j*6+0) / 6=j by omega,show (j*6+0)%6=0 by omega] at r0;rw [show (j*6+0)*4=j*24+0 by omega] at e00;rw [show (j*6+0)*4+1=j*24+1 by omega] at e01;rw [show (j*6+0)*4+2=j*24+2 by omega] at e02;rw [show (j*6+0)*4+3=j*24+3 by omega] at e03;obtain ⟨s1,A1,n1,c1,t1,E1,m1,d1,e10,e11,e12,e13,r1⟩:=hc (j*6+1) aO;simp only [show (j*6+1) / 6=j by omega,show (j*6+1)%6=1 by omega] at r1;rw [show (j*6+1)*4=j*24+4 by omega] at e10;rw [show (j*6+1)*4+1=j*24+5 by omega] at e11;rw [show (j*6+1)*4+2=j*24+6 by omega] at e12;rw [show (j*6+1)*4+3=j*24+7 by omega] at e13;obtain ⟨s2,A2,n2,c2,t2,E2,m2,d2,e20,e21,e22,e23,r2⟩:=hc (j*6+2) aO;simp only [show (j*6+2) / 6=j by omega,show (j*6+2)%6=2 by omega] at r2;rw [show (j*6+2)*4=j*24+8 by omega] at e20;rw [show (j*6+2)*4+1=j*24+9 by omega] at e21;rw [show (j*6+2)*4+2=j*24+10 by omega] at e22;rw [show (j*6+2)*4+3=j*24+11 by omega] at e23;obtain ⟨s3,A3,n3,c3,t3,E3,m3,d3,e30,e31,e32,e33,r3⟩:=hc (j*6+3) aO;simp only [show (j*6+3) / 6=j by omega,show (j*6+3)%6=3 by omega] at r3;rw [show (j*6+3)*4=j*24+12 by omega] at e30;rw [show (j*6+3)*4+1=j*24+13 by omega] at e31;rw [show (j*6+3)*4+2=j*24+14 by omega] at e32;rw [show (j*6+3)*4+3=j*24+15 by omega] at e33;obtain ⟨s4,A4,n4,c4,t4,E4,m4,d4,e40,e41,e42,e43,r4⟩:=hc (j*6+4) aO;simp only [show (j*6+4) / 6=j by omega,show (j*6+4)%6=4 by omega] at r4;rw [show (j*6+4)*4=j*24+16 by omega] at e40;rw [show (j*6+4)*4+1=j*24+17 by omega] at e41;rw [show (j*6+4)*4+2=j*24+18 by omega] at e42;rw [show (j*6+4)*4+3=j*24+19 by omega] at e43;obtain ⟨s5,A5,n5,c5,t5,E5,m5,d5,e50,e51,e52,e53,r5⟩:=hc (j*6+5) aO;simp only [show (j*6+5) / 6=j by omega,show (j*6+5)%6=5 by omega] at r5;rw [show (j*6+5)*4=j*24+20 by omega] at e50;rw [show (j*6+5)*4+1=j*24+21 by omega] at e51;rw [show (j*6+5)*4+2=j*24+22 by omega] at e52;rw [show (j*6+5)*4+3=j*24+23 by omega] at e53;refine ⟨s0,t0,A0,E0,n0,c0,m0,d0,s1,t1,A1,E1,n1,c1,m1,d1,s2,t2,A2,E2,n2,c2,m2,d2,s3,t3,A3,E3,n3,c3,m3,d3,s4,t4,A4,E4,n4,c4,m4,d4,s5,t5,A5,E5,n5,c5,m5,d5,fun i v hv=>?_,r0.at_,r1.at_,r2.at_,r3.at_,r4.at_,r5.at_⟩;have hi:i<24:=by
  have:=(List.getElem?_eq_some_iff.1 hv).1;simpa using this
 have cell:∀ {x:Value},cs[j*24+i]?=some x->w.cell? ⟨g,j*24+i,none⟩=some x:=fun {x} hx=>((ownsRow_cell ho aO).2.2.2.2 (j*24+i) aO).trans hx
 match i,hi with
 | 0,_=>exact cell (e00.trans hv)
 | 1,_=>exact cell (e01.trans hv)
 | 2,_=>exact cell (e02.trans hv)
 | 3,_=>exact cell (e03.trans hv)
 | 4,_=>exact cell (e10.trans hv)
 | 5,_=>exact cell (e11.trans hv)
 | 6,_=>exact cell (e12.trans hv)
 | 7,_=>exact cell (e13.trans hv)
 | 8,_=>exact cell (e20.trans hv)
 | 9,_=>exact cell (e21.trans hv)
 | 10,_=>exact cell (e22.trans hv)
 | 11,_=>exact cell (e23.trans hv)
 | 12,_=>exact cell (e30.trans hv)
 | 13,_=>exact cell (e31.trans hv)
 | 14,_=>exact cell (e32.trans hv)
 | 15,_=>exact cell (e33.trans hv)
 | 16,_=>exact cell (e40.trans hv)
 | 17,_=>exact cell (e41.trans hv)
 | 18,_=>exact cell (e42.trans hv)
 | 19,_=>exact cell (e43.trans hv)
 | 20,_=>exact cell (e50.trans hv)
 | 21,_=>exact cell (e51.trans hv)
 | 22,_=>exact cell (e52.trans hv)
 | 23,_=>exact cell (e53.trans hv)
theorem intN_of {z:Int} (h1:-9223372036854775808<=z) (h2:z<=9223372036854775807):intN z=z:=by
 unfold intN inI;rw [if_pos (by simp only [Bool.and_eq_true,decide_eq_true_eq]; exact ⟨h1,h2⟩)]
theorem ArrO.eq {D:Nat} {W:World} {b m:Nat} {Q Q':Nat->QI} (h:ArrO D W b Q m) (he:∀ i,i<m->Q' i=Q i):ArrO D W b Q' m:=by
 obtain ⟨hd,cs,ho,hz,hc⟩:=h;refine ⟨hd,cs,ho,hz,fun i hi=>?_⟩;rw [he i hi];exact hc i hi
theorem ArrO.noU {D:Nat} {W:World} {b:Nat} {Q:Nat->QI} (h:ArrO D W b Q 3):∃ cs,Own W b cs/\noU cs:=by
 obtain ⟨_,cs,ho,hz,hc⟩:=h;refine ⟨cs,ho,fun i d hd=>?_⟩;have hi:i<12:=by
  have:=(Zt.1 hd).1;omega
 obtain ⟨s1,A1,n1,c1,s2,A2,n2,c2,e1,e2,e3,e4,_⟩:=hc (i / 4) aO;rcases (show i=i / 4*4\/i=i / 4*4+1\/i=i / 4*4+2\/i=i / 4*4+3 by omega) with e | e | e | e <;> rw [e] at hd
 ·rw [hd] at e1; cases e1
 ·rw [hd] at e2; cases e2
 ·rw [hd] at e3; cases e3
 ·rw [hd] at e4; cases e4
theorem with_fun {α:Type} {G:Prop} (h:∃ _:α,G):G:=h.elim fun _ g=>g
theorem ownT_grown {B:Nat} {W W':World} {row:Option Nat} {b:Nat} {cs:Array Value} {T:TypeId} (h:OwnT W b cs T) (hg:W.grownBy W' row) (hr:∀ r,row=some r->B<=r/\∃ o:Obj,W.heap[r]?=some o/\o.isCells=false):OwnT W' b cs T:=
 (hg.block b h.own.lt (fun e=>by
  obtain ⟨_,o,h1,h2⟩:=hr b e.symm;rw [show W.heap[b]?=_ from h] at h1;cases h1;simp [Obj.isCells] at h2)).trans h
theorem upd_grown2 {T:List Nat} {X W W':World} {row:Option Nat} (h:Upd T X W) (hg:W.grownBy W' row) (hr:∀ r,row=some r->X.heap.size<=r):Upd T X W':=
 ⟨hg.os.trans h.os,hg.tape.trans h.tape,hg.output.trans h.output,Zm h.size hg.size,fun b hb hT=>(hg.block b (Zl hb h.size) (fun e=>by have:=hr b e.symm; omega)).trans (h.block b hb hT)⟩
theorem keepO_upd {B:Nat} {W W':World} (h:Upd [B] W W'):KeepO B W W':=⟨h.size,fun b cs T r hb hc=>(h.block b (Zt.1 hc).1 (by simpa using hb)).trans hc⟩
theorem keepsFrom_upd {B C:Nat} {W W':World} (h:Upd [B] W W') (hB:B<C):KeepsFrom C W W':=⟨h.size,fun k o hk ho _=>(h.block k (Zt.1 ho).1 aT).trans ho⟩
end Go.Proofs.YtflolbnnkbdmfaaGreat
