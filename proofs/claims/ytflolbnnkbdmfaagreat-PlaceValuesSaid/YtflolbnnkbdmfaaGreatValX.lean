import Derived.Test.YtflolbnnkbdmfaaGreatBarR
import Derived.Test.YtflolbnnkbdmfaaGreatCut
import Derived.Test.YtflolbnnkbdmfaaGreatDraw
import Derived.Test.YtflolbnnkbdmfaaGreatFull
import Derived.Test.YtflolbnnkbdmfaaGreatGen
import Derived.Test.YtflolbnnkbdmfaaGreatItW
import Derived.Test.YtflolbnnkbdmfaaGreatLaw20a
import Derived.Test.YtflolbnnkbdmfaaGreatMake
import Derived.Test.YtflolbnnkbdmfaaGreatMatC
import Derived.Test.YtflolbnnkbdmfaaGreatMatE
import Derived.Test.YtflolbnnkbdmfaaGreatMatG
import Derived.Test.YtflolbnnkbdmfaaGreatMatJ
import Derived.Test.YtflolbnnkbdmfaaGreatMatK
import Derived.Test.YtflolbnnkbdmfaaGreatMatM
import Derived.Test.YtflolbnnkbdmfaaGreatMatO
import Derived.Test.YtflolbnnkbdmfaaGreatMem
import Derived.Test.YtflolbnnkbdmfaaGreatNumB
import Derived.Test.YtflolbnnkbdmfaaGreatNumE
import Derived.Test.YtflolbnnkbdmfaaGreatNumF
import Derived.Test.YtflolbnnkbdmfaaGreatNumI
import Derived.Test.YtflolbnnkbdmfaaGreatNumJ
import Derived.Test.YtflolbnnkbdmfaaGreatNumK
import Derived.Test.YtflolbnnkbdmfaaGreatNumP
import Derived.Test.YtflolbnnkbdmfaaGreatNumS0
import Derived.Test.YtflolbnnkbdmfaaGreatNumU
import Derived.Test.YtflolbnnkbdmfaaGreatPlcD
import Derived.Test.YtflolbnnkbdmfaaGreatPlcH
import Derived.Test.YtflolbnnkbdmfaaGreatPlcI
import Derived.Test.YtflolbnnkbdmfaaGreatPlcJ
import Derived.Test.YtflolbnnkbdmfaaGreatPlcK
import Derived.Test.YtflolbnnkbdmfaaGreatPlcO
import Derived.Test.YtflolbnnkbdmfaaGreatPlcQ
import Derived.Test.YtflolbnnkbdmfaaGreatPlcR
import Derived.Test.YtflolbnnkbdmfaaGreatPlcT
import Derived.Test.YtflolbnnkbdmfaaGreatPlcV
import Derived.Test.YtflolbnnkbdmfaaGreatPlcW
import Derived.Test.YtflolbnnkbdmfaaGreatPlcW0
import Derived.Test.YtflolbnnkbdmfaaGreatRankC
import Derived.Test.YtflolbnnkbdmfaaGreatRatE
import Derived.Test.YtflolbnnkbdmfaaGreatRatH
import Derived.Test.YtflolbnnkbdmfaaGreatRatL
import Derived.Test.YtflolbnnkbdmfaaGreatRatO
import Derived.Test.YtflolbnnkbdmfaaGreatRefB
import Derived.Test.YtflolbnnkbdmfaaGreatSan20
import Derived.Test.YtflolbnnkbdmfaaGreatSan5a
import Derived.Test.YtflolbnnkbdmfaaGreatSinkF
import Derived.Test.YtflolbnnkbdmfaaGreatStep
set_option linter.all false
namespace Go.Proofs.YtflolbnnkbdmfaaGreat
set_option maxRecDepth 100000
set_option maxHeartbeats 8000000
open Go.RowKit
def vAdd (a b:V3):V3:=⟨wrap64 (a.x+b.x),wrap64 (a.y+b.y),wrap64 (a.z+b.z)⟩
def vSub (a b:V3):V3:=⟨wrap64 (a.x - b.x),wrap64 (a.y - b.y),wrap64 (a.z - b.z)⟩
theorem plane_Add (x y z x' y' z':Int) (w:World) :
 Calls Tryz.prog 45 #[vV x y z,vV x' y' z'] w fun r w'=>r = .returned (vAdd ⟨x,y,z⟩ ⟨x',y',z'⟩).v/\Below w.heap.size w w':=by
 go_enter Tryz.func45,Tryz.ntmps45;go_wp2;refine bodyPost_ret (v:=(vAdd ⟨x,y,z⟩ ⟨x',y',z'⟩).v) (by simp [results,Tryz.results45,go_sem,vAdd]) rfl ⟨rfl,aBel⟩
theorem plane_Sub (x y z x' y' z':Int) (w:World) :
 Calls Tryz.prog 44 #[vV x y z,vV x' y' z'] w fun r w'=>r = .returned (vSub ⟨x,y,z⟩ ⟨x',y',z'⟩).v/\Below w.heap.size w w':=by
 go_enter Tryz.func44,Tryz.ntmps44;go_wp2;refine bodyPost_ret (v:=(vSub ⟨x,y,z⟩ ⟨x',y',z'⟩).v) (by simp [results,Tryz.results44,go_sem,vSub]) rfl ⟨rfl,aBel⟩
theorem encI_snoc (l:List Int) (x:Int):encI l++[.int .i64 x]=encI (l++[x]):=by unfold encI; rw [List.map_append]; rfl
theorem ints_of_row {W:World} {base:Nat} {v:Value} {l:List Int} {n:Nat} (h:W.ownsRow base 3 1 v n (encI l)) (hn:l.length=n) (hI:I64L l):∃ A c,v = .slice A n c/\n<=c/\c<=9223372036854775807/\IntsAt W A n l/\(∀ b off,A=some ⟨b,off,none⟩->off=0/\base<=b/\b<W.heap.size/\v.ownBlock=some b):=by
 rcases h.2 with ⟨rfl,h0⟩ | ⟨g,cap,cur,rfl,h1,h2,h3,h4,h5,h6⟩
 ·subst h0;exact ⟨none,0,rfl,Zr _,aO,⟨hn,hI,fun h=>absurd h (Nat.lt_irrefl 0)⟩,fun b off e=>by cases e⟩
 ·have hg:g<W.heap.size:=by
   rcases Nat.lt_or_ge g W.heap.size with h | h
   ·exact h
   ·rw [Array.getElem?_eq_none h] at h2; cases h2
  unfold maxLen at h4;refine ⟨some ⟨g,0,none⟩,cap,rfl,h3,h4,⟨hn,hI,fun h0=>⟨g,0,rfl,hg,fun i hi=>?_⟩⟩,fun b off e=>by cases e; exact ⟨rfl,h1,hg,rfl⟩⟩;have q:=(ownsRow_cell (xs:=encI l) (size:=1) (e:=3) ⟨h.1,.inr ⟨g,cap,cur,rfl,h1,h2,h3,h4,h5,h6⟩⟩ h0).2.2.2.2 i aO;rw [Nat.zero_add,q];exact encI_at aO
theorem int_mul {a D:Int} (k:Int) (hD:D≠0):mulQ (k,1) (toQ a D)=toQ (k*a) D:=by
 rw [<- toQ_one k,mul_toQ aO hD,Int.one_mul]
theorem own_shift {l:Loc} (h:l.Ok) (N:Nat->Int):l.n.x*shN N l.p 0+l.n.y*shN N l.p 1+l.n.z*shN N l.p 2=sumF (fun c=>iAt (locR l) c*N c) 6:=by
 rw [locR_sum h];simp only [shN];grind
def valL (L:List Loc) (l:List Int):List Int:=(List.range L.length).map fun k=>(lAt L k).lo+nextV (l.drop k) ((lAt L k).hi - (lAt L k).lo+1)
theorem sm_over {N D:Int} (hD:0<D) (hd:D.natAbs<=137594142720) (hN:N.natAbs<1000000000000000000000000000000):SmQ (toQ N D):=toQ_sm aO (sm_e30 hN) (sm_e30 aO)
theorem inner_toQ {D:Int} (hD:D≠0) (n:V3) {s:Nat->QI} {S:Nat->Int} (hs:∀ i,i<3->s i=toQ (S i) D):innerQ n s 1=toQ (n.x*S 0) D/\innerQ n s 2=toQ (n.x*S 0+n.y*S 1) D/\innerQ n s 3=toQ (n.x*S 0+n.y*S 1+n.z*S 2) D:=by
 have e1:innerQ n s 1=toQ (n.x*S 0) D:=by
  show addQ (0,1) (mulQ (n.x,1) (s 0))=_;rw [hs 0 aO,int_mul _ hD,zero_toQ hD,add_same hD,Int.zero_add]
 have e2:innerQ n s 2=toQ (n.x*S 0+n.y*S 1) D:=by
  show addQ (innerQ n s 1) (mulQ (n.y,1) (s 1))=_;rw [e1,hs 1 aO,int_mul _ hD,add_same hD]
 refine ⟨e1,e2,?_⟩;show addQ (innerQ n s 2) (mulQ (n.z,1) (s 2))=_;rw [e2,hs 2 aO,int_mul _ hD,add_same hD]
theorem shift_mid (N:Nat->Int) (a b:V3) (i:Nat):shN N ⟨a.x+a.x - b.x,a.y+a.y - b.y,a.z+a.z - b.z⟩ i+shN N b i=shN N a i+shN N a i:=by
 match i with
 | 0=>simp only [shN]; grind
 | 1=>simp only [shN]; grind
 | n+2=>simp only [shN]; grind
theorem unit_mul {n s:Int} (h1:-1<=n) (h2:n<=1):(n*s).natAbs<=s.natAbs:=by
 have:=mul_unit (b:=s) h1 h2;omega
theorem Loc.Ok.small_in {l:Loc} (h:l.Ok):vIn l.p=true:=by
 simp only [vIn,Bool.and_eq_true,inB_iff];exact ⟨h.px,h.py,h.pz⟩
theorem inner_sm {x:Nat->QI} {N:Nat->Int} {D:Int} (h:MotZ x N D) {l:Loc} (hl:l.Ok) {w:Int} (hr:sumF (fun c=>iAt (locR l) c*N c) 6=D*w):SmInner l.n (shiftQ x l.p)/\innerQ l.n (shiftQ x l.p) 3=(w,1):=by
 have hD:=h.pos;have hD0:D≠0:=aO
 have hs:=fun i=>h.sm hl.small_in i
 obtain ⟨e1,e2,e3⟩:=inner_toQ hD0 l.n (s:=shiftQ x l.p) (S:=shN N l.p) (fun i _=>h.shift l.p i);have m1:=unit_mul (s:=shN N l.p 0) hl.nx.1 hl.nx.2;have m2:=unit_mul (s:=shN N l.p 1) hl.ny.1 hl.ny.2;have m3:=unit_mul (s:=shN N l.p 2) hl.nz.1 hl.nz.2;have s0:=hs 0;have s1:=hs 1;have s2:=hs 2;refine ⟨⟨fun i _=>?_,?_,?_,?_,?_,?_,?_⟩,?_⟩
 ·rw [h.shift]; exact sm_over hD h.dsm (by have:=hs i; omega)
 ·rw [h.shift,int_mul _ hD0]; exact sm_over hD h.dsm aO
 ·rw [h.shift,int_mul _ hD0]; exact sm_over hD h.dsm aO
 ·rw [h.shift,int_mul _ hD0]; exact sm_over hD h.dsm aO
 ·rw [e1]; exact sm_over hD h.dsm aO
 ·rw [e2]; exact sm_over hD h.dsm aO
 ·rw [e3]; exact sm_over hD h.dsm aO
 ·rw [e3,own_shift hl,hr,int_over hD0 w,Int.mul_comm]
theorem valL_len (L:List Loc) (l:List Int):(valL L l).length=L.length:=by unfold valL; simp
theorem valL_at (L:List Loc) (l:List Int) {k:Nat} (hk:k<L.length):iAt (valL L l) k=(lAt L k).lo+nextV (l.drop k) ((lAt L k).hi - (lAt L k).lo+1):=by
 unfold valL iAt;rw [Ze,List.getElem?_map,List.getElem?_range hk];rfl
theorem valL_in (L:List Loc) (l:List Int) {k:Nat} (hk:k<L.length) (h:(lAt L k).lo<=(lAt L k).hi):(lAt L k).lo<=iAt (valL L l) k/\iAt (valL L l) k<=(lAt L k).hi:=by
 rw [valL_at L l hk];have:=nextV_bd (l.drop k) ((lAt L k).hi - (lAt L k).lo+1) aO;omega
theorem motC_ok {L:List Loc} {b:List Int} (hC:locC L=0) (hb:b.length=6) (h:∀ k,k<6->(lAt L k).lo<=iAt b k/\iAt b k<=(lAt L k).hi):motC L b=0:=by
 unfold motC;rw [if_pos hC,if_pos hb,if_neg];rw [anyF_no fun k hk=>by
  unfold outB;have:=h k hk;rw [decide_eq_false aO,decide_eq_false aO]; rfl]
 decide
end Go.Proofs.YtflolbnnkbdmfaaGreat
namespace Go.Proofs.YtflolbnnkbdmfaaGreat
open Go.RowKit
section
variable {P:Program} {ops:Array Oper} {T:List Nat} {w:World} {Q:Exit->Act->World->Prop}
theorem ops_of_any (back:∀ (j:Nat) (o:Oper),ops[j]?=some o->∀ e∈o.after,Region.binds .any e=true->e.on<j):∀ (m i:Nat) (listed:Array Bool) (a:Act) (w:World),i+m=ops.size->listed.size=ops.size ->
 (∀ j,j<i->listed.getD j false=true)->(∀ j,i<=j->j<ops.size->listed.getD j true=false)->wpAny P .any ops Q m listed a w->wpOps P ops Q (List.range' i m) a w:=by
 intro m
 induction m with
 | zero=>exact fun i listed a w _ _ _ _ h=>h.2
 | succ m ih =>
  intro i listed a w hi hs h1 h2 h;have hil:i<ops.size:=aO
  have ho:ops[i]?=some ops[i]:=Array.getElem?_eq_getElem hil;have q:=h.2 i (mem_ready.2 ⟨h2 i (Zr _) hil,_,ho,fun e he hb=>h1 _ (back i _ ho e he hb)⟩);have step:∀ a w,wpAny P .any ops Q m (listed.setIfInBounds i true) a w->wpOps P ops Q (List.range' (i+1) m) a w:=fun a w hk =>
   ih (i+1) _ a w aO (by simpa using hs) (fun j hj=>by
    rw [Array.getD_eq_getD_getElem?,Array.getElem?_setIfInBounds]
    by_cases e:i=j
    ·subst e; rw [if_pos rfl,if_pos aO]; rfl
    ·rw [if_neg e,<- Array.getD_eq_getD_getElem?]; exact h1 j aO) (fun j hj hj2=>by
    rw [Array.getD_eq_getD_getElem?,Array.getElem?_setIfInBounds,if_neg aO,<- Array.getD_eq_getD_getElem?];exact h2 j aO hj2) hk
  rw [List.range'_succ];unfold wpOps;unfold wpOp at q;rw [ho] at q ⊢;simp only [] at q ⊢
  by_cases hw:Region.wanted ops[i] (yielded ops a.tmps)=true
  ·rw [if_pos hw] at q ⊢;rcases q with q | q
   ·exact .inl (Oper.wp_mono step q)
   ·exact .inr q
  ·rw [if_neg hw] at q ⊢;exact step _ _ q
def backFit (l:List Oper):Bool:=l.zipIdx.all fun x=>x.1.after.all fun e=>!Region.binds .any e || decide (e.on<x.2)
theorem region_genP {id:Nat} {a:Act} {l:List Oper} (cs:List (Cut T)) (c ns N:Nat) (Ph:Nat->World->Prop) (hPB:∀ k u u',Ph k u->Below u.heap.size u u'->Ph k u') (hP0:Ph 0 w)
 (hb:backFit l=true) (hB:genFit l (kdAt [] 0 cs) c ns N=true) (hp:cutsOk l c a.tmps.size 0 cs=true)
 (h:genWalk P l T w Ph (kdAt [] 0 cs) c 0 0 [] cs (fun _=>a) (fun A=>∀ f u',Upd T w u'->Ph ns u'->(∀ m,m<c->(kdAt [] 0 cs m).isMake=true->Made T w (kdAt [] 0 cs) f m u') ->
  (∀ m m',m<c->m'<c->(kdAt [] 0 cs m).isMake=true->(kdAt [] 0 cs m').isMake=true->m≠m'->(f m).1≠(f m').1)->effChain P l.toArray T w (Q .normal) (l.drop c) (A f) u')):(Code.region id l.toArray false).wp P Q a w:=by
 refine wp_region ?_;have q:=any_gen (P:=P) (Q:=Q) (a:=a) (l:=l) 0 cs c ns N Ph hPB hP0 (Nat.zero_le _) hB rfl hp h (u:=w) (Zb _ _) (listed:=Array.replicate l.toArray.size false) aS (fun i hi=>aO) (fun i _ hi=>by simp [hi]);rw [List.range_eq_range'];refine ops_of_any (fun j o ho e he hbd=>?_) _ 0 (Array.replicate l.toArray.size false) a w aS aS (fun j hj=>aO) (fun j _ hj=>by simp at hj; simp [hj]) (by simpa using q);have h6:=List.all_eq_true.1 hb _ (mem_zipIdx_of (by simpa using ho));have h7:=Array.all_eq_true'.1 h6 e he;simpa [hbd] using h7
end
end Go.Proofs.YtflolbnnkbdmfaaGreat
namespace Go.Proofs.YtflolbnnkbdmfaaGreat
open Go.RowKit
theorem rAt_locR {L:List Loc} {k:Nat} (hk:k<L.length):rAt (locM L) k=locR (lAt L k):=by
 unfold rAt lAt locM;rw [Ze,Ze,List.getElem?_map,List.getElem?_eq_getElem hk];rfl
theorem UnitZ.val {L:List Loc} {xs:Nat->Nat->QI} {Ns:Nat->Nat->Int} {D:Int} (h:UnitZ (locM L) xs Ns D) (hC:locC L=0) {x:Nat->QI} {w:List Int} (hm:MotZ x (wN Ns (iAt w)) D) {k:Nat} (hk:k<6) :
 SmInner (lAt L k).n (shiftQ x (lAt L k).p)/\innerQ (lAt L k).n (shiftQ x (lAt L k).p) 3=(iAt w k,1):=by
 refine inner_sm hm (lAt_ok hC hk) ?_;have hl:=(locC_zero hC).1;rw [<- rAt_locR aO];exact mix_row hk (h.row k hk)
theorem MotZ.mid {x:Nat->QI} {N:Nat->Int} {D:Int} (h:MotZ x N D) {a b:V3} (ha:vIn a=true) (i:Nat) :
 (SmQ (shiftQ x a i)/\SmQ (addQ (shiftQ x a i) (shiftQ x a i)))/\addQ (shiftQ x ⟨a.x+a.x - b.x,a.y+a.y - b.y,a.z+a.z - b.z⟩ i) (shiftQ x b i)=addQ (shiftQ x a i) (shiftQ x a i):=by
 have hD:=h.pos;have hD0:D≠0:=aO
 have h1:=h.sm ha i;rw [h.shift,h.shift,h.shift,add_same hD0,add_same hD0,shift_mid];exact ⟨⟨sm_over hD h.dsm aO,sm_over hD h.dsm aO⟩,rfl⟩
theorem MotZ.sq {x:Nat->QI} {N:Nat->Int} {D:Int} (h:MotZ x N D) {a:V3} (ha:vIn a=true) (i:Nat):SmQ (shiftQ x a i):=by
 have hD:=h.pos;have h1:=h.sm ha i;rw [h.shift];exact sm_over hD h.dsm aO
def nI (n:V3):Nat->Int
 | 0=>n.x
 | 1=>n.y
 | _=>n.z
theorem inner_step {n:V3} {s:Nat->QI} {i:Nat} (hi:i<3):innerQ n s (i+1)=addQ (innerQ n s i) (mulQ (nI n i,1) (s i)):=by
 rcases (show i=0\/i=1\/i=2 by omega) with rfl | rfl | rfl <;> rfl
theorem SmInner.mul {n:V3} {s:Nat->QI} (h:SmInner n s) {i:Nat} (hi:i<3):SmQ (mulQ (nI n i,1) (s i)):=by
 rcases (show i=0\/i=1\/i=2 by omega) with rfl | rfl | rfl
 ·exact h.x
 ·exact h.y
 ·exact h.z
theorem smq_zero:SmQ (0,1):=⟨good_one 0,sm_zero,Sm.one⟩
theorem SmInner.inn {n:V3} {s:Nat->QI} (h:SmInner n s) {i:Nat} (hi:i<=3):SmQ (innerQ n s i):=by
 rcases (show i=0\/i=1\/i=2\/i=3 by omega) with rfl | rfl | rfl | rfl
 ·exact smq_zero
 ·exact h.one
 ·exact h.two
 ·exact h.three
theorem Loc.Ok.nI {l:Loc} (h:l.Ok) {i:Nat} (hi:i<3):-1<=nI l.n i/\nI l.n i<=1:=by
 rcases (show i=0\/i=1\/i=2 by omega) with rfl | rfl | rfl
 ·exact h.nx
 ·exact h.ny
 ·exact h.nz
end Go.Proofs.YtflolbnnkbdmfaaGreat
namespace Go.Proofs.YtflolbnnkbdmfaaGreat
set_option maxRecDepth 100000
set_option maxHeartbeats 8000000
open Go.RowKit
theorem valL_take {L:List Loc} {l:List Int} {k:Nat} (hk:k<L.length):(valL L l).take (k+1)=(valL L l).take k++[(lAt L k).lo+nextV (l.drop k) ((lAt L k).hi - (lAt L k).lo+1)]:=by
 have h:k<(valL L l).length:=by rw [valL_len]; exact hk
 rw [List.take_succ_eq_append_getElem h];have e:=valL_at L l hk;unfold iAt at e;rw [Ze,List.getElem?_eq_getElem h] at e;rw [<- e]; rfl
theorem valL_bd {L:List Loc} (l:List Int) (hC:locC L=0) {k:Nat} (hk:k<6):-10000<=iAt (valL L l) k/\iAt (valL L l) k<=10000:=by
 have h:=(lAt_ok hC hk).lh;have hl:=(locC_zero hC).1;have h2:=valL_in L l (k:=k) aO h.1;omega
theorem valL_I {L:List Loc} (l:List Int) (hC:locC L=0):I64L (valL L l):=fun i hi=>by
 rw [valL_len,(locC_zero hC).1] at hi;have:=valL_bd l hC hi;omega
theorem ref20_Values {w:World} {A A2:Option Addr} {n2:Nat} {L:List Loc} {l:List Int} (c cap:Nat) (h:LocsAt w A 6 L) (hC:locC L=0) (hl:SliceI w A2 n2 l) :
 Calls Tryz.prog 23 #[.slice A 6 c,.slice A2 n2 cap] w fun e w'=>(∃ g cc,e = .returned (.slice (some ⟨g,0,none⟩) 6 cc)/\6<=cc/\cc<=9223372036854775807/\IntsAt w' (some ⟨g,0,none⟩) 6 (valL L l)/\w.heap.size<=g/\g<w'.heap.size)/\Below w.heap.size w w':=by
 obtain ⟨i0,hi,hz0,hz1,hz2⟩:=info_parts infoI;have hL6:=h.len;obtain ⟨gb,goff,rfl,hglt,hgr⟩:=h.row aO;have HC:=Zh hC;have HG:=Zh hgr;have HLI:=Zh hl;clear hl h hC hgr;obtain ⟨bd,hbd⟩:=Zx (w.heap.size);have hW0:=(Zb w.heap.size w).alloc (Zr _) (.cells #[.slice A2 n2 cap,.int .i64 0] 141);have hD0:=DrawAt.start (cap:=cap) (T:=141) HLI.out;have hz0':w.heap.size+1<=(w.alloc (.cells #[.slice A2 n2 cap,.int .i64 0] 141)).heap.size:=aS
 go_enter Tryz.func23,Tryz.ntmps23;go_wp2;generalize (w.alloc (.cells #[.slice A2 n2 cap,.int .i64 0] 141))=W0 at *;rw [hbd] at hD0 hz0';have HD0:=Zh hD0;have HBD:=Zh hbd;clear hD0 HLI;rw [hbd] at hglt;clear hbd;have hw:=hW0;have hws:=hz0';clear hW0 hz0';go_loopw [6,7] (fun v i wr=>∃ k:Nat,k<=6/\i = .int .i64 k/\Below w.heap.size w wr/\bd+1<=wr.heap.size/\DrawAt wr bd (l.drop k)/\wr.ownsRow (bd+1) 3 1 v k (encI ((valL L l).take k))) (fun _ i _=>6 - (intOf i).toNat)
 case atStart=>exact ⟨0,aO,rfl,hw,hws,HD0.out,⟨rfl,.inl ⟨rfl,rfl⟩⟩⟩
 case round =>
  clear hw hws HD0;obtain ⟨k,hk,rfl,hw,hws,hd,hrow⟩:=hrel;have HD:=Zh hd;have HO:=Zh hrow;have hz:=hw.size;clear hd hrow
  by_cases hk6:k<6
  ·have hki:(k:Int)<6:=aO
   obtain ⟨p,hp⟩:=Zx ((lAt L k).lo);obtain ⟨q,hq⟩:=Zx ((lAt L k).hi);have hlh:=(lAt_ok HC.out hk6).lh;rw [hp,hq] at hlh;obtain ⟨m,hm⟩:=Zx (q - p+1);have hm1:1<=m/\m<=20001:=aO
   obtain ⟨x,hx⟩:=Zx (nextV (l.drop k) m);have nb:=nextV_bd (l.drop k) m hm1.1;rw [hx] at nb;obtain ⟨y,hy⟩:=Zx (p+x);have hyw:IntKind.i64.wrap y=y:=by rw [IntKind.wrap_i64]; omega
   have hyt:(valL L l).take (k+1)=(valL L l).take k++[y]:=by rw [valL_take aO,hp,hq,hm,hx,hy]
   have e6:wr.cell? ⟨gb,goff+k*8+6,none⟩=some (.int .i64 p):=by rw [<- hp]; exact (hw.cell (p:=⟨gb,_,none⟩) (by rw [HBD.out]; exact hglt)).trans (HG.out k hk6).2.2.2.2.2.2.1
   have e7:wr.cell? ⟨gb,goff+k*8+7,none⟩=some (.int .i64 q):=by rw [<- hq]; exact (hw.cell (p:=⟨gb,_,none⟩) (by rw [HBD.out]; exact hglt)).trans (HG.out k hk6).2.2.2.2.2.2.2
   have HX:=Zh (congrArg (Value.int IntKind.i64) hx);have HY:=Zh hyt;have hob:∀ b,u6.ownBlock=some b->bd+1<=b:=fun b hb=>ownBlock_ge HO.out hb
   have hgT:gb∉bd::ownL u6:=by
    rw [List.mem_cons,mem_ownL];rintro (e | e)
    ·omega
    ·have:=hob gb e; omega
   have hgw:gb<wr.heap.size:=aO
   clear hp hq hx hyt;go_wp2_with fail;refine region_late 19 (bd::ownL u6) aK aK (by rfl) ?_;apply Zs;refine ⟨fun v hv hne=>?_,fun u hu=>?_⟩
   ·simp only [TK];have d6:=fun z:Later (bd::ownL u6) wr v=>(z.cell gb (goff+k*8+6) hgw hgT).trans e6
    have d7:=fun z:Later (bd::ownL u6) wr v=>(z.cell gb (goff+k*8+7) hgw hgT).trans e7
    exact qz
   ·simp only [TK];refine late_mem (fun K hK=>?_)
    (try simp only [LN])
    go_simp;refine Zd (callv (ref1_Next bd (l.drop k) m hm1.1 aO u (HD.out.below hu)) HX.out) ?_;rintro e u2 ⟨rfl,hU,hD2⟩;have hk2:Keeps (bd::ownL u6) wr u2:=(Keeps.of_below hu).more (Upd.keeps (Keeps.refl [bd] u) hU) aS;have hw2:Below w.heap.size w u2:=Upd.below (hw.trans (hu.mono hz)) hU (by simp; have:=HBD.out; omega);have hO2:=ownsRow_upd (ownsRow_stay HO.out hu) hU aO;refine ⟨_,rfl,hK _ _ hk2 (fun u3 hu3=>?_)⟩;clear hK K;have hk3:=hk2.later hu3;have hw3:=hw2.trans (hu3.mono hw2.size);have hO3:=ownsRow_stay hO2 hu3;have hD3:=hD2.below hu3;clear hk2 hw2 hO2 hD2 hu3 hU hu e6 e7;refine late_mem (fun K hK=>?_)
    (try simp only [LN])
    go_simp;refine hK _ _ hk3 (fun u4 hu4=>?_);clear hK K;have hk4:=hk3.later hu4;have hw4:=hw3.trans (hu4.mono hw3.size);have hO4:=ownsRow_stay hO3 hu4;have hD4:=hD3.below hu4;clear hk3 hw3 hO3 hD3 hu4;refine late_mem (fun K hK=>?_)
    (try simp only [LN])
    go_simp;refine hK _ _ (hk4.alloc _) (fun u5 hu5=>?_);clear hK K;have hb5:Below u4.heap.size u4 u5:=((Zb _ _).alloc (Zr _) _).trans (hu5.mono aS);have hsb:u4.heap.size<u5.heap.size:=by have:=hu5.size; simp at this; omega
    have hnew:=(hu5.block u4.heap.size aS).trans (heap_alloc_new u4 _);have hk5:=(hk4.alloc _).later hu5;have hw5:=hw4.trans (hb5.mono hw4.size);have hO5:=ownsRow_stay hO4 hb5;have HD5:=Zh (hD4.below hb5);have hs4:=hk4.1;clear hk4 hw4 hO4 hD4 hu5 hb5;refine late_mem (fun K hK=>?_)
    (try simp only [LN])
    refine late_append _ _ 22 rfl (bd+1) 3 i0 (.int .i64 0) 1 8 Tryz.underlying22 hi hz0 hz1 hz2 rfl aO _ k (encI ((valL L l).take k)) (by rfl) hO5 ⟨u4.heap.size,0,none⟩ 1 1 [.int .i64 y] (by rfl) rfl (World.news_of_block hnew) ?_ aO (by unfold maxLen; omega) aO aO u5.heap.size rfl ?_
    ·intro z hz'; simp at hz'; subst hz'; rfl
    intro g cg u7 ho7 hg7 hat hlt7;have hs7:=hg7.size;have hw7:=Zh (Below.grown hw5 hg7 (by have:=HBD.out; omega) (fun b hb=>by have:=hob b hb; have:=HBD.out; omega));have hk7:=keeps_grown hk5 hg7 (fun r e=>.inl (by rw [List.mem_cons,mem_ownL]; exact .inr e));have HD7:=Zh (DrawAt.of_blocks HD5.out (w':=u7) (fun i hi=>hg7.block i aO (fun e=>by have:=hob i e.symm; omega)));rw [encI_snoc,<- HY.out] at ho7;have HO7:=Zh ho7;refine hK _ _ hk7 (fun u8 hu8=>?_);clear hK K ho7 hg7 hat hlt7 hk5 hw5 hO5 hnew HD5;refine late_mem (fun K hK=>?_)
    (try simp only [LN])
    go_simp;refine hK _ _ (hk7.later hu8) (fun u9 hu9=>?_);clear hK K;refine late_nil ?_
    (try simp only [LN])
    have hb9:=Below.hop hu8 hu9;have B9:=Zh (hw7.out.trans (hb9.mono hw7.out.size));have HO9:=Zh (ownsRow_stay HO7.out hb9);have HD9:=Zh (HD7.out.below hb9);have hs9:bd+1<=u9.heap.size:=by have:=hb9.size; omega
    clear hu8 hu9 hb9 hk7 HO7 HD7 hw7;go_wp2;go_roundw
    case rel=>exact ⟨k+1,aO,by go_num,B9.out,hs9,by have:=HD9.out; rw [List.tail_drop] at this; exact this,HO9.out⟩
    case measure=>simp [intOf]; omega
  ·obtain rfl:k=6:=aO
   have hlen:(valL L l).length=6:=by rw [valL_len,hL6]
   have ho:=HO.out;rw [List.take_of_length_le aO] at ho;obtain ⟨A2,c2,rfl,g1,g2,g3,g4⟩:=ints_of_row ho hlen (valL_I l HC.out);obtain ⟨b2,off2,rfl,_⟩:=g3.row aO;obtain ⟨rfl,h7,h8,_⟩:=g4 b2 off2 rfl;have HG3:=Zh g3;clear g3 g4 HO ho;go_wp2;go_ret;exact ⟨⟨b2,c2,rfl,g1,g2,HG3.out,by have:=HBD.out; omega,h8⟩,hw⟩
end Go.Proofs.YtflolbnnkbdmfaaGreat
