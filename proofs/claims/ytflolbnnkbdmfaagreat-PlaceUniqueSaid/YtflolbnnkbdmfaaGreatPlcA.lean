import Derived.Test.YtflolbnnkbdmfaaGreatSan5a
set_option linter.all false
namespace Go.Proofs.YtflolbnnkbdmfaaGreat
open Go.RowKit
set_option maxHeartbeats 8000000
set_option maxRecDepth 100000
theorem infoI:(Tryz.prog.info? 3).map (fun i=>(i.zero,i.size,i.bytes))=some (some (.int .i64 0),1,8):=aK
theorem infoIs:(Tryz.prog.info? 22).map (fun i=>(i.zero,i.size,i.bytes))=some (some (.slice none 0 0),1,24):=aK
def encI (l:List Int):List Value:=l.map (Value.int .i64)
theorem encI_at {l:List Int} {i:Nat} (h:i<l.length):(encI l)[i]?=some (.int .i64 (iAt l i)):=by
 unfold encI iAt;rw [List.getElem?_map,Ze,List.getElem?_eq_getElem h]; rfl
def RowsW (X:Nat->Prop) (w:World) (xs:List Value) (M:List (List Int)):Prop:=xs.length=M.length/\∀ i,i<M.length->∃ B m c,xs[i]?=some (.slice B m c)/\m<=c/\c<=9223372036854775807/\(∀ b off,B=some ⟨b,off,none⟩->b<w.heap.size/\X b)/\IntsAt w B m (rAt M i)
theorem IntsAt.same {w w':World} {A:Option Addr} {n:Nat} {l:List Int} (h:IntsAt w A n l) (hs:w.heap.size<=w'.heap.size) (hk:∀ b off,A=some ⟨b,off,none⟩->w'.heap[b]?=w.heap[b]?):IntsAt w' A n l:=
 ⟨h.len,h.ok,fun h0=>by
  obtain ⟨b,off,e,hlt,hc⟩:=h.row h0;exact ⟨b,off,e,Zl hlt hs,fun i hi=>(Zc (w:=w) (a:=⟨b,off+i,none⟩) (hk b off e)).trans (hc i hi)⟩⟩
theorem RowsW.move {X Y:Nat->Prop} {w w':World} {xs:List Value} {M:List (List Int)} (h:RowsW X w xs M) (hs:w.heap.size<=w'.heap.size) (hk:∀ b,b<w.heap.size->X b->w'.heap[b]?=w.heap[b]?/\Y b):RowsW Y w' xs M:=
 ⟨h.1,fun i hi=>by
  obtain ⟨B,m,c,h1,h2,h3,h4,h5⟩:=h.2 i hi;exact ⟨B,m,c,h1,h2,h3,fun b off e=>⟨Zl (h4 b off e).1 hs,(hk b (h4 b off e).1 (h4 b off e).2).2⟩,h5.same hs fun b off e=>(hk b (h4 b off e).1 (h4 b off e).2).1⟩⟩
theorem RowsW.below {X:Nat->Prop} {w w':World} {xs:List Value} {M:List (List Int)} (h:RowsW X w xs M) (hb:Below w.heap.size w w'):RowsW X w' xs M:=h.move hb.size fun b hlt hX=>⟨hb.block b hlt,hX⟩
theorem RowsW.nil (X:Nat->Prop) (w:World):RowsW X w [] []:=⟨rfl,fun i h=>absurd h (Nat.not_lt_zero i)⟩
theorem rAt_at {M:List (List Int)} {l:List Int} {i:Nat} (hi:i<(M++[l]).length):(i<M.length/\rAt (M++[l]) i=rAt M i)\/(i=M.length/\rAt (M++[l]) i=l):=rAt_snoc hi
theorem RowsW.snoc {X:Nat->Prop} {w:World} {xs:List Value} {M:List (List Int)} {B:Option Addr} {m c:Nat} {l:List Int} (h:RowsW X w xs M) (h1:m<=c) (h2:c<=9223372036854775807) (hb:∀ b off,B=some ⟨b,off,none⟩->b<w.heap.size/\X b) (h3:IntsAt w B m l):RowsW X w (xs++[.slice B m c]) (M++[l]):=
 ⟨by simp [h.1],fun i hi=>by
  rcases rAt_at hi with ⟨h4,h5⟩ | ⟨h4,h5⟩
  ·rw [h5,List.getElem?_append_left (by rw [h.1]; exact h4)];exact h.2 i h4
  ·rw [h5,h4,<- h.1,List.getElem?_append_right (Zr _),Nat.sub_self];exact ⟨B,m,c,rfl,h1,h2,hb,h3⟩⟩
theorem RowsW.one {X:Nat->Prop} {w:World} {xs:List Value} {M:List (List Int)} (h:RowsW X w xs M):∀ u∈xs,u.oneCell'=true:=fun u hu=>by
 obtain ⟨i,hi,rfl⟩:=List.getElem_of_mem hu;obtain ⟨B,m,c,e,_⟩:=h.2 i (by rw [<- h.1]; exact hi);rw [List.getElem?_eq_getElem hi] at e;injection e with e
 rw [e]; rfl
theorem rows_of_row {W:World} {base:Nat} {X:Nat->Prop} {v:Value} {M:List (List Int)} {n:Nat} {xs:List Value} (h:W.ownsRow base 22 1 v n xs) (hr:RowsW X W xs M) (hn:M.length=n):∃ A c,v = .slice A n c/\n<=c/\c<=9223372036854775807/\RowsAt W A n M/\(0<n->∃ g,A=some ⟨g,0,none⟩/\base<=g/\g<W.heap.size):=by
 rcases h.2 with ⟨rfl,h0⟩ | ⟨g,cap,cur,rfl,h1,h2,h3,h4,h5,h6⟩
 ·subst h0;exact ⟨none,0,rfl,Zr _,aO,⟨hn,fun h=>absurd h (Nat.lt_irrefl 0)⟩,fun h=>absurd h (Nat.lt_irrefl 0)⟩
 ·have hg:g<W.heap.size:=by
   rcases Nat.lt_or_ge g W.heap.size with h | h
   ·exact h
   ·rw [Array.getElem?_eq_none h] at h2; cases h2
  unfold maxLen at h4;refine ⟨some ⟨g,0,none⟩,cap,rfl,h3,h4,⟨hn,fun h0=>⟨g,0,rfl,hg,fun i hi=>?_⟩⟩,fun _=>⟨g,rfl,h1,hg⟩⟩;obtain ⟨B,m,c,e1,e2,e3,_,e5⟩:=hr.2 i aO;have q:=(ownsRow_cell (xs:=xs) (size:=1) (e:=22) ⟨h.1,.inr ⟨g,cap,cur,rfl,h1,h2,h3,h4,h5,h6⟩⟩ h0).2.2.2.2 i aO;exact ⟨B,m,c,by rw [Nat.zero_add,q]; exact e1,e2,e3,e5⟩
def cellsI (l:List Int):Array Value:=(encI l).toArray
theorem cellsI_at {l:List Int} {i:Nat} (h:i<l.length):(cellsI l)[i]?=some (.int .i64 (iAt l i)):=by
 unfold cellsI;rw [List.getElem?_toArray];exact encI_at h
theorem iAt_set {l:List Int} {i j:Nat} {x:Int} (hi:i<l.length):iAt (l.set i x) j=if j=i then x else iAt l j:=by
 unfold iAt;simp only [Ze,List.getElem?_set]
 by_cases e:i=j
 ·subst e; simp [hi]
 ·rw [if_neg e,if_neg (fun h=>e h.symm)]
theorem Own.ints {W:World} {b n:Nat} {l:List Int} (h:Own W b (cellsI l)) (hn:l.length=n) (hI:I64L l):IntsAt W (some ⟨b,0,none⟩) n l:=
 ⟨hn,hI,fun _=>⟨b,0,rfl,h.lt,fun i hi=>by rw [Nat.zero_add,h.cell]; exact cellsI_at aO⟩⟩
def BdI (B:Int) (l:List Int):Prop:=∀ i,-B<=iAt l i/\iAt l i<=B
theorem BdI.set {B:Int} {l:List Int} (h:BdI B l) {i:Nat} {x:Int} (hi:i<l.length) (hx:-B<=x/\x<=B):BdI B (l.set i x):=fun j=>by
 rw [iAt_set hi];split
 ·exact hx
 ·exact h j
theorem BdI.i64 {B:Int} {l:List Int} (h:BdI B l) (hB:B<=1000000000000):I64L l:=fun i _=>by have:=h i; omega
theorem BdI.mono {B C:Int} {l:List Int} (h:BdI B l) (hB:B<=C):BdI C l:=fun i=>by have:=h i; omega
def capB:Nat->Int
 | 0=>24072
 | k+1=>4*capB k
theorem capB_le:∀ {k},k<8->capB k<=400000000:=by decide +kernel
theorem ownsRow_blk {w w':World} {base:Nat} {e:TypeId} {size:Nat} {v:Value} {n:Nat} {xs:List Value} (h:w.ownsRow base e size v n xs) (hk:∀ b,v.ownBlock=some b->b<w.heap.size->w'.heap[b]?=w.heap[b]?):w'.ownsRow base e size v n xs:=by
 refine ⟨h.1,?_⟩;rcases h.2 with h1 | ⟨g,cap,cur,rfl,e2,e3,e4⟩
 ·exact .inl h1
 ·have hg:g<w.heap.size:=by
   rcases Nat.lt_or_ge g w.heap.size with h | h
   ·exact h
   ·rw [Array.getElem?_eq_none h] at e3; cases e3
  exact .inr ⟨g,cap,cur,rfl,e2,(hk g rfl hg).trans e3,e4⟩
structure MadeM (M:List (List Int)) (r m:Nat):Prop where
 len:M.length=r
 row:∀ i,i<r->(rAt M i).length=m/\BdI (capB i) (rAt M i)
theorem MadeM.cols {M:List (List Int)} {r m:Nat} (h:MadeM M r m) (hr:1<=r):cols M=m:=by
 have h1:=(h.row 0 aO).1;have h2:=h.len;cases M with
 | nil=>simp at h2; omega
 | cons a b=>exact h1
theorem check_of {M:List (List Int)} (h1:M.length<=48) (h2:cols M<=8) (h3:∀ i,i<M.length->(rAt M i).length=cols M) (h4:∀ i,i<M.length->∀ k,k<cols M->largeI (iAt (rAt M i) k)=false):matCheck M=0:=by
 unfold matCheck;rw [if_neg aO,if_neg,if_neg]
 ·rw [anyF_no]
  ·simp
  ·intro k hk;refine anyF_no fun j hj=>h4 k hk j ?_
   rw [h3 k hk] at hj;exact hj
 ·rw [anyF_no]
  ·simp
  ·intro k hk;exact decide_eq_false (by rw [h3 k hk]; simp)
theorem not_large {x B:Int} (h1:-B<=x) (h2:x<=B) (hB:B<=2147483648):largeI x=false:=by
 unfold largeI;rw [decide_eq_false aO,decide_eq_false aO];rfl
theorem MadeM.check {M:List (List Int)} {r m:Nat} (h:MadeM M r m) (h1:1<=r) (h2:r<=8) (h3:m<=8):matCheck M=0:=by
 have hc:=h.cols h1;refine check_of (by rw [h.len]; omega) aO (fun i hi=>by rw [hc]; exact (h.row i (by rw [<- h.len]; exact hi)).1) (fun i hi k _=>?_);have hi':i<r:=by rw [<- h.len]; exact hi
 have h5:=(h.row i hi').2 k;exact not_large h5.1 h5.2 (by have:=capB_le (k:=i) aO; omega)
theorem solveE_val {M:List (List Int)} {b:List Int} (h1:matCheck M=0) (h2:cols M=M.length) (h3:b.length=M.length) (h4:anyF (fun k=>largeI (iAt b k)) b.length=false):solveE M b=if rankZ M<M.length then 8 else 0:=by
 unfold solveE;rw [if_neg (by rw [h1]; simp),if_neg (by rw [h2,h3]; simp),if_neg (by rw [h4]; simp),rankS_Z h1 h3]
theorem ints_of_cells {W:World} {b n:Nat} {cur:Array Value} {l:List Int} (h:Own W b cur) (hn:l.length=n) (hI:I64L l) (hc:∀ i,i<n->cur[i]?=some (.int .i64 (iAt l i))):IntsAt W (some ⟨b,0,none⟩) n l:=
 ⟨hn,hI,fun _=>⟨b,0,rfl,h.lt,fun i hi=>by rw [Nat.zero_add,h.cell]; exact hc i hi⟩⟩
theorem IntsAt.upd {T:List Nat} {w u:World} {b n:Nat} {l:List Int} (h:IntsAt w (some ⟨b,0,none⟩) n l) (hT:b∉T) (k:Upd T w u):IntsAt u (some ⟨b,0,none⟩) n l:=
 ⟨h.len,h.ok,fun h0=>by
  obtain ⟨b',off,e,hlt,hc⟩:=h.row h0;cases e;exact ⟨_,_,rfl,Zl hlt k.size,fun i hi=>(Zc (w:=w) (a:=⟨b,0+i,none⟩) (k.block b hlt hT)).trans (hc i hi)⟩⟩
def rightB (T:List Nat) (r:Nat):EBS T where
 val p:= .slice (some ⟨p.1,0,none⟩) r p.2
 R p u:=p.1∉T/\r<=p.2/\p.2<=9223372036854775807/\∃ b,IntsAt u (some ⟨p.1,0,none⟩) r b/\BdI 20 b
 st _ _ _ h k:=⟨h.1,h.2.1,h.2.2.1,by obtain ⟨b,h1,h2⟩:=h.2.2.2; exact ⟨b,h1.upd h.1 k,h2⟩⟩
theorem rightB_val {T:List Nat} {r:Nat} {p:Nat×Nat}:(rightB T r).val p = .slice (some ⟨p.1,0,none⟩) r p.2:=rfl
def ratCV (T:List Nat) (B:Nat) (z y:Int):EBS T where
 val p:=ratC z y p.1 (un1 p.2) (un3 p.2) (un2 p.2)
 R p u:=p.1∉T/\un3 p.2∉T/\NumC u p.1 (un1 p.2) z/\NumC u (un3 p.2) (un2 p.2) y/\B<=un3 p.2/\un3 p.2<u.heap.size
 st _ _ _ h k:=⟨h.1,h.2.1,h.2.2.1.upd h.1 k,h.2.2.2.1.upd h.2.1 k,h.2.2.2.2.1,Zl h.2.2.2.2.2 k.size⟩
theorem ratCV_val {T:List Nat} {B:Nat} {z y:Int} {p:Nat×Nat}:(ratCV T B z y).val p=ratC z y p.1 (un1 p.2) (un3 p.2) (un2 p.2):=rfl
theorem ratC_at {w:World} {p q:Int} {b1 C1 b2 C2:Nat} (h1:NumC w b1 C1 p) (h2:NumC w b2 C2 q) (f1:fits p=true) (f2:fits q=true):RatAt w (ratC p q b1 C1 b2 C2) p q:=by
 obtain ⟨A1,n1,c1,e1⟩:=slC_form p b1 C1;obtain ⟨A2,n2,c2,e2⟩:=slC_form q b2 C2;exact ⟨_,A1,n1,c1,_,A2,n2,c2,by rw [ratC,e1,e2],h1.at2 f1 e1,h2.at2 f2 e2⟩
theorem ref3_IntC {w:World} (n:Int) (h1:-9223372036854775808<=n) (h2:n<=9223372036854775807):Calls Tryz.prog 152 #[.int .i64 n] w fun r w'=>(∃ b1 C1 b2 C2,r = .returned (ratC n 1 b1 C1 b2 C2)/\NumC w' b1 C1 n/\NumC w' b2 C2 1/\w.heap.size<=b1/\b1<w'.heap.size/\w.heap.size<=b2/\b2<w'.heap.size)/\Below w.heap.size w w':=by
 have hW:=(Zb w.heap.size w).alloc (Zr _) (.cells nz2 42);have o4:Own (w.alloc (.cells nz2 42)) w.heap.size nz2:=aOwn;have hz:=hW.size;have hn:=Zh (Zi h1 (Zi h2 (show fits n=true from fits_small aO)));clear h1 h2;go_enter Tryz.func152,Tryz.ntmps152;go_wp2_with fail;generalize (w.alloc (.cells nz2 42))=W0 at *;refine Zd (ref3_whole n hn.out.1 hn.out.2.1) ?_;rintro e u1 ⟨⟨b1,C1,rfl,oN,loN,hiN⟩,hb1⟩;have hw1:=hW.trans (hb1.mono hz);have hz1:=hw1.size;have p4:=o4.below hb1;have l1:=Zl o4.lt loN;clear hb1 o4;go_wp2_with fail;refine Zd (ref3_whole 1 aO aO) ?_;rintro e u2 ⟨⟨b2,C2,rfl,oM,loM,hiM⟩,hb2⟩;have hwu:=hw1.trans (hb2.mono hz1);have q4:=p4.below hb2;have l2:=Zl p4.lt loM;have l3:=hb2.size;have HN:=Zh (Zi (oN.below hb2) oM);have q4c:=q4.cell;have q4f:=q4.thaw;obtain ⟨A7,n7,c7,hs7⟩:=slC_form n b1 C1;obtain ⟨A8,n8,c8,hs8⟩:=slC_form 1 b2 C2;simp only [numC];rw [hs7,hs8];have HSL:=Zh (Zi hs7 hs8);clear hs7 hs8 oN oM hb2 p4;go_wp2;refine retC (b:=w.heap.size) (v:= .agg #[.bool (sgnN n),.slice A7 n7 c7,.bool (sgnN 1),.slice A8 n8 c8]) (((((q4.set 0 (.bool (sgnN n))).set 1 (.slice A7 n7 c7)).set 2 (.bool (sgnN 1))).set 3 (.slice A8 n8 c8))) (fun w' hw'=>by simp [results,Tryz.results152,go_sem,hw']) rfl ⟨⟨b1,C1,b2,C2,by rw [ratC,HSL.out.1,HSL.out.2],((((HN.out.1).far aT _).far aT _).far aT _).far aT _,((((HN.out.2).far aT _).far aT _).far aT _).far aT _,aO,aT,aO,aT⟩,((((hwu.setCell aS _).setCell aS _).setCell aS _).setCell aS _)⟩
structure Loc where
 p:V3
 n:V3
 lo:Int
 hi:Int
def smallV (n:V3):Bool:=inB 1 n.x&&(inB 1 n.y&&inB 1 n.z)
def slantL (l:Loc):Bool:=!smallV l.n || !(vDot l.n l.n==1)
def beyL (l:Loc):Bool:=!vIn l.p || (decide (l.hi<l.lo) || (decide (l.lo < -10000) || decide (10000<l.hi)))
def locE (L:List Loc):Int:=if L.any slantL then 1 else if L.any beyL then 3 else 0
def locR (l:Loc):List Int:=[l.n.x,l.n.y,l.n.z,(vCross l.p l.n).x,(vCross l.p l.n).y,(vCross l.p l.n).z]
def locM (L:List Loc):List (List Int):=L.map locR
def locC (L:List Loc):Int:=if L.length=6 then (if locE L=0 then (if rankZ (locM L)<6 then 20 else 0) else locE L) else 2
def locF (L:List Loc):Int:=if L.length<=6 then locE L else 2
def zero6:List Int:=[0,0,0,0,0,0]
def locZ (L:List Loc):List (List Int):=locM L++[zero6]
structure Loc.Ok (l:Loc):Prop where
 nx:-1<=l.n.x/\l.n.x<=1
 ny:-1<=l.n.y/\l.n.y<=1
 nz:-1<=l.n.z/\l.n.z<=1
 px:-24<=l.p.x/\l.p.x<=24
 py:-24<=l.p.y/\l.p.y<=24
 pz:-24<=l.p.z/\l.p.z<=24
 lh:l.lo<=l.hi /\ -10000<=l.lo/\l.hi<=10000
 one:l.n.x*l.n.x+l.n.y*l.n.y+l.n.z*l.n.z=1
theorem w64 {n:Int} (h1:-1000000<=n) (h2:n<=1000000):wrap64 n=n:=by unfold wrap64; omega
theorem mul_unit {a b:Int} (h1:-1<=a) (h2:a<=1):a*b=-b\/a*b=0\/a*b=b:=by
 have:a=-1\/a=0\/a=1:=aO
 rcases this with h | h | h <;> subst h <;> omega
theorem mul_unit' {a b:Int} (h1:-1<=a) (h2:a<=1):b*a=-b\/b*a=0\/b*a=b:=by rw [Int.mul_comm]; exact mul_unit h1 h2
theorem inB_iff {m n:Int}:inB m n=true ↔ -m<=n/\n<=m:=by simp [inB]
theorem loc_ok {l:Loc} (h1:slantL l=false) (h2:beyL l=false):l.Ok:=by
 simp only [slantL,beyL,smallV,vIn,Bool.or_eq_false_iff,Bool.not_eq_false',Bool.and_eq_true,inB_iff,decide_eq_false_iff_not,beq_iff_eq] at h1 h2;obtain ⟨⟨a1,a2,a3⟩,a4⟩:=h1;obtain ⟨⟨b1,b2,b3⟩,b4,b5,b6⟩:=h2;refine ⟨a1,a2,a3,b1,b2,b3,⟨aO,aO,aO⟩,?_⟩;have hx:=mul_unit (b:=l.n.x) a1.1 a1.2;have hy:=mul_unit (b:=l.n.y) a2.1 a2.2;have hz:=mul_unit (b:=l.n.z) a3.1 a3.2;unfold vDot at a4;rw [w64 (n:=l.n.x*l.n.x) aO aO,w64 (n:=l.n.y*l.n.y) aO aO,w64 (n:=l.n.z*l.n.z) aO aO,w64 (n:=l.n.x*l.n.x+l.n.y*l.n.y) aO aO,w64 aO aO] at a4;exact a4
theorem Loc.Ok.small {l:Loc} (h:l.Ok):slantL l=false/\beyL l=false:=by
 have hy:=mul_unit (b:=l.n.y) h.ny.1 h.ny.2;have hz:=mul_unit (b:=l.n.z) h.nz.1 h.nz.2;have a1:=h.nx;have a2:=h.ny;have a3:=h.nz;have a4:=h.px;have a5:=h.py;have a6:=h.pz;have a7:=h.lh;have a8:=h.one;simp only [slantL,beyL,smallV,vIn,Bool.or_eq_false_iff,Bool.not_eq_false',Bool.and_eq_true,inB_iff,decide_eq_false_iff_not,beq_iff_eq];refine ⟨⟨⟨a1,a2,a3⟩,?_⟩,⟨a4,a5,a6⟩,aO,aO,aO⟩;unfold vDot;rw [w64 (n:=l.n.x*l.n.x) aO aO,w64 (n:=l.n.y*l.n.y) aO aO,w64 (n:=l.n.z*l.n.z) aO aO,w64 (n:=l.n.x*l.n.x+l.n.y*l.n.y) aO aO,w64 aO aO];exact a8
theorem Loc.Ok.cross {l:Loc} (h:l.Ok):vCross l.p l.n=⟨l.p.y*l.n.z - l.p.z*l.n.y,l.p.z*l.n.x - l.p.x*l.n.z,l.p.x*l.n.y - l.p.y*l.n.x⟩ /\
 (-48<=l.p.y*l.n.z - l.p.z*l.n.y/\l.p.y*l.n.z - l.p.z*l.n.y<=48)/\(-48<=l.p.z*l.n.x - l.p.x*l.n.z/\l.p.z*l.n.x - l.p.x*l.n.z<=48)/\(-48<=l.p.x*l.n.y - l.p.y*l.n.x/\l.p.x*l.n.y - l.p.y*l.n.x<=48):=by
 have q1:=mul_unit' (b:=l.p.y) h.nz.1 h.nz.2;have q2:=mul_unit' (b:=l.p.z) h.ny.1 h.ny.2;have q3:=mul_unit' (b:=l.p.z) h.nx.1 h.nx.2;have q4:=mul_unit' (b:=l.p.x) h.nz.1 h.nz.2;have q5:=mul_unit' (b:=l.p.x) h.ny.1 h.ny.2;have q6:=mul_unit' (b:=l.p.y) h.nx.1 h.nx.2;have b1:=h.px;have b2:=h.py;have b3:=h.pz;refine ⟨?_,aO,aO,aO⟩;unfold vCross;rw [w64 (n:=l.p.y*l.n.z) aO aO,w64 (n:=l.p.z*l.n.y) aO aO,w64 (n:=l.p.z*l.n.x) aO aO,w64 (n:=l.p.x*l.n.z) aO aO,w64 (n:=l.p.x*l.n.y) aO aO,w64 (n:=l.p.y*l.n.x) aO aO];rw [w64 aO aO,w64 aO aO,w64 aO aO]
theorem locR_len (l:Loc):(locR l).length=6:=rfl
theorem locR_bd {l:Loc} (h:l.Ok) (j:Nat):-48<=iAt (locR l) j/\iAt (locR l) j<=48:=by
 obtain ⟨e,c1,c2,c3⟩:=h.cross;have a1:=h.nx;have a2:=h.ny;have a3:=h.nz;unfold locR;rw [e]
 match j with
 | 0=>show -48<=l.n.x/\l.n.x<=48; omega
 | 1=>show -48<=l.n.y/\l.n.y<=48; omega
 | 2=>show -48<=l.n.z/\l.n.z<=48; omega
 | 3=>exact c1
 | 4=>exact c2
 | 5=>exact c3
 | n+6=>show -48<=(0:Int)/\(0:Int)<=48; omega
theorem locE_zero {L:List Loc}:locE L=0↔∀ l∈L,l.Ok:=by
 unfold locE;constructor
 ·intro h l hl
  by_cases h1:L.any slantL
  ·rw [if_pos h1] at h; omega
  ·by_cases h2:L.any beyL
   ·rw [if_neg h1,if_pos h2] at h; omega
   ·refine loc_ok ?_ ?_
    ·cases h3:slantL l with
     | false=>rfl
     | true=>exact absurd (List.any_eq_true.2 ⟨l,hl,h3⟩) h1
    ·cases h3:beyL l with
     | false=>rfl
     | true=>exact absurd (List.any_eq_true.2 ⟨l,hl,h3⟩) h2
 ·intro h;rw [if_neg,if_neg]
  ·intro h2;obtain ⟨l,hl,h3⟩:=List.any_eq_true.1 h2;rw [(h l hl).small.2] at h3; cases h3
  ·intro h2;obtain ⟨l,hl,h3⟩:=List.any_eq_true.1 h2;rw [(h l hl).small.1] at h3; cases h3
theorem rAt_locM {L:List Loc} {i:Nat} (hi:i<L.length):∃ l,l∈L/\L[i]?=some l/\rAt (locM L) i=locR l:=by
 refine ⟨L[i],List.getElem_mem hi,List.getElem?_eq_getElem hi,?_⟩;unfold rAt locM;simp [hi]
theorem locM_len (L:List Loc):(locM L).length=L.length:=by unfold locM; simp
theorem cols_locM {L:List Loc} (h:L≠[]):cols (locM L)=6:=by
 cases L with
 | nil=>exact absurd rfl h
 | cons l ls=>rfl
theorem cols_locZ (L:List Loc):cols (locZ L)=6:=by
 cases L with
 | nil=>rfl
 | cons l ls=>rfl
theorem check_locM {L:List Loc} (h:locE L=0) (hn:L.length<=6) (h0:L≠[]):matCheck (locM L)=0:=by
 rw [locE_zero] at h;have hc:=cols_locM h0;refine check_of (by rw [locM_len]; omega) aO (fun i hi=>?_) (fun i hi k _=>?_)
 ·obtain ⟨l,_,_,e⟩:=rAt_locM (L:=L) (i:=i) (by rw [locM_len] at hi; exact hi);rw [e,hc,locR_len]
 ·obtain ⟨l,hl,_,e⟩:=rAt_locM (L:=L) (i:=i) (by rw [locM_len] at hi; exact hi);rw [e];have:=locR_bd (h l hl) k;exact not_large this.1 this.2 aO
theorem rAt_locZ {L:List Loc} {i:Nat} (hi:i<L.length+1):(i<L.length/\rAt (locZ L) i=rAt (locM L) i)\/(i=L.length/\rAt (locZ L) i=zero6):=by
 have:=rAt_at (M:=locM L) (l:=zero6) (i:=i) (by rw [List.length_append,locM_len]; exact hi);rw [locM_len] at this;exact this
theorem zero6_at (j:Nat):iAt zero6 j=0:=by
 match j with
 | 0=>rfl
 | 1=>rfl
 | 2=>rfl
 | 3=>rfl
 | 4=>rfl
 | 5=>rfl
 | n+6=>rfl
theorem check_locZ {L:List Loc} (h:locE L=0) (hn:L.length<=6):matCheck (locZ L)=0:=by
 rw [locE_zero] at h;have hc:=cols_locZ L;have hl:(locZ L).length=L.length+1:=by unfold locZ; rw [List.length_append,locM_len]; rfl
 refine check_of aO aO (fun i hi=>?_) (fun i hi k _=>?_)
 ·rcases rAt_locZ (L:=L) (i:=i) aO with ⟨h1,e⟩ | ⟨_,e⟩
  ·obtain ⟨l,_,_,e2⟩:=rAt_locM h1;rw [e,e2,hc,locR_len]
  ·rw [e,hc]; rfl
 ·rcases rAt_locZ (L:=L) (i:=i) aO with ⟨h1,e⟩ | ⟨_,e⟩
  ·obtain ⟨l,hl,_,e2⟩:=rAt_locM h1;rw [e,e2];have:=locR_bd (h l hl) k;exact not_large this.1 this.2 aO
  ·rw [e,zero6_at];exact not_large (B:=1) aO aO aO
theorem Fact.zero {M:Nat->Nat->Int} {m n r:Nat} (h:Fact M m n r):Fact (fun i j=>if i<m then M i j else 0) (m+1) n r:=by
 obtain ⟨d,C,E,hd,h⟩:=h;refine ⟨d,fun i t=>if i<m then C i t else 0,E,hd,fun i hi j hj=>?_⟩
 by_cases e:i<m
 ·have e1:sumF (fun t=>(if i<m then C i t else 0)*E t j) r=sumF (fun t=>C i t*E t j) r:=sumF_eq fun t _=>by rw [if_pos e]
  show d*(if i<m then M i j else 0)=_;rw [e1,if_pos e]; exact h i e j hj
 ·have e1:sumF (fun t=>(if i<m then C i t else 0)*E t j) r=0:=sumF_zero fun t _=>by rw [if_neg e,Int.zero_mul]
  show d*(if i<m then M i j else 0)=_;rw [e1,if_neg e,Int.mul_zero]
theorem rank_locZ {L:List Loc} (h:locE L=0) (hn:L.length<=6) (h0:L≠[]):rankZ (locZ L)=rankZ (locM L):=by
 have hl:(locZ L).length=L.length+1:=by unfold locZ; rw [List.length_append,locM_len]; rfl
 refine rank_same (check_locM h hn h0) (check_locZ h hn) (fun r q=>?_) (fun r q=>?_)
 ·rw [cols_locM h0,locM_len] at q;rw [cols_locZ,hl];exact q.zero.congr fun i hi j hj=>by
   rcases rAt_locZ (L:=L) (i:=i) aO with ⟨h1,e⟩ | ⟨h1,e⟩
   ·rw [if_pos h1,e]
   ·rw [if_neg aO,e,zero6_at]
 ·rw [cols_locM h0,locM_len];rw [cols_locZ,hl] at q;exact (q.map (fun i=>i) (m':=L.length) (fun i hi=>aO)).congr fun i hi j hj=>by
   rcases rAt_locZ (L:=L) (i:=i) aO with ⟨h1,e⟩ | ⟨h1,e⟩
   ·rw [e]
   ·omega
theorem free_iff {L:List Loc} (h:locE L=0) (hn:L.length<=6):kernF (locZ L)<6↔rankZ (locM L)<6:=by
 have q:=rank_kern (check_locZ h hn);rw [cols_locZ] at q
 by_cases h0:L=[]
 ·subst h0;have h1:rankZ (locM [])=0:=by
   have:=(rankZ_le (M:=locM []) (by decide)).2;simpa [locM] using this
  have h2:=(rankZ_le (check_locZ (L:=[]) h hn)).2;have h3:(locZ []).length=1:=rfl;rw [q,h1];omega
 ·rw [q,rank_locZ h hn h0]
theorem free_few {L:List Loc} (h:locE L=0) (hn:L.length<6):kernF (locZ L)<6:=by
 rw [free_iff h aO]
 by_cases h0:L=[]
 ·subst h0;have:=(rankZ_le (M:=locM []) (by decide)).2;have e:(locM []).length=0:=rfl;omega
 ·have:=(rankZ_le (check_locM h aO h0)).2;rw [locM_len] at this;omega
def lAt (L:List Loc) (k:Nat):Loc:=L.getD k ⟨⟨0,0,0⟩,⟨0,0,0⟩,0,0⟩
@[reducible] def Loc.v (l : Loc) : Value := .agg #[.int .i64 l.p.x, .int .i64 l.p.y, .int .i64 l.p.z, .int .i64 l.n.x, .int .i64 l.n.y, .int .i64 l.n.z, .int .i64 l.lo, .int .i64 l.hi]
def Loc.I (l:Loc):Prop:=I64 l.p.x/\I64 l.p.y/\I64 l.p.z/\I64 l.n.x/\I64 l.n.y/\I64 l.n.z/\I64 l.lo/\I64 l.hi
def RowL (w:World) (b off n:Nat) (L:List Loc):Prop:=∀ i,i<n->w.cell? ⟨b,off+i*8,none⟩=some (.int .i64 (lAt L i).p.x)/\w.cell? ⟨b,off+i*8+1,none⟩=some (.int .i64 (lAt L i).p.y)/\w.cell? ⟨b,off+i*8+2,none⟩=some (.int .i64 (lAt L i).p.z)/\w.cell? ⟨b,off+i*8+3,none⟩=some (.int .i64 (lAt L i).n.x)/\w.cell? ⟨b,off+i*8+4,none⟩=some (.int .i64 (lAt L i).n.y)/\w.cell? ⟨b,off+i*8+5,none⟩=some (.int .i64 (lAt L i).n.z)/\w.cell? ⟨b,off+i*8+6,none⟩=some (.int .i64 (lAt L i).lo)/\w.cell? ⟨b,off+i*8+7,none⟩=some (.int .i64 (lAt L i).hi)
structure LocsAt (w:World) (A:Option Addr) (n:Nat) (L:List Loc):Prop where
 len:L.length=n
 ok:∀ i,i<n->(lAt L i).I
 row:0<n->∃ b off,A=some ⟨b,off,none⟩/\b<w.heap.size/\RowL w b off n L
theorem RowL.same {w w':World} {b off n:Nat} {L:List Loc} (h:RowL w b off n L) (e:w'.heap[b]?=w.heap[b]?):RowL w' b off n L:=fun i hi=>by
 obtain ⟨h0,h1,h2,h3,h4,h5,h6,h7⟩:=h i hi;exact ⟨(Zc (w:=w) (a:=⟨b,_,none⟩) e).trans h0,(Zc (w:=w) (a:=⟨b,_,none⟩) e).trans h1,(Zc (w:=w) (a:=⟨b,_,none⟩) e).trans h2,(Zc (w:=w) (a:=⟨b,_,none⟩) e).trans h3,(Zc (w:=w) (a:=⟨b,_,none⟩) e).trans h4,(Zc (w:=w) (a:=⟨b,_,none⟩) e).trans h5,(Zc (w:=w) (a:=⟨b,_,none⟩) e).trans h6,(Zc (w:=w) (a:=⟨b,_,none⟩) e).trans h7⟩
theorem LocsAt.below {w w':World} {A:Option Addr} {n:Nat} {L:List Loc} (h:LocsAt w A n L) (hb:Below w.heap.size w w'):LocsAt w' A n L:=
 ⟨h.len,h.ok,fun h0=>by
  obtain ⟨b,off,e,hlt,hc⟩:=h.row h0;exact ⟨b,off,e,Zl hlt hb.size,hc.same (hb.block b hlt)⟩⟩
theorem any_anyF (p:Loc->Bool):∀ (L:List Loc),anyF (fun i=>p (lAt L i)) L.length=L.any p:=by
 have key:∀ (L:List Loc) (k:Nat),k<=L.length->anyF (fun i=>p (lAt L i)) k=(L.take k).any p:=by
  intro L k
  induction k with
  | zero=>intro _; rfl
  | succ k ih =>
   intro hk;rw [anyF,ih aO,List.take_add_one,List.any_append];congr 1;unfold lAt;rw [Ze,List.getElem?_eq_getElem (by omega:k<L.length)];simp
 intro L;rw [key L L.length (Zr _),List.take_length]
theorem plc_slanted (l:Loc) (hI:l.I) (w:World):Calls Tryz.prog 154 #[l.v] w fun e w'=>e = .returned (.bool (slantL l))/\Below w.heap.size w w':=by
 obtain ⟨⟨x,y,z⟩,⟨a,b,c⟩,lo,hi⟩:=l;simp only [Loc.v];obtain ⟨o,ho⟩:=Zx (slantL ⟨⟨x,y,z⟩,⟨a,b,c⟩,lo,hi⟩);rw [ho];have HO:=Zh ho;clear ho hI;go_enter Tryz.func154,Tryz.ntmps154;obtain ⟨d,hd⟩:=Zx (vDot ⟨a,b,c⟩ ⟨a,b,c⟩);have HD:=Zh (congrArg (Value.int IntKind.i64) hd);have HD2:=Zh hd;clear hd;go_wp2_with fail
 all_goals first
  | (
   go_ret;exact ⟨ret_bool (by
    rw [<- HO.out];have hs:smallV ⟨a,b,c⟩=false:=by
     cases h:smallV ⟨a,b,c⟩ with
     | false=>rfl
     | true=>simp only [smallV,Bool.and_eq_true,inB_iff] at h; omega
    unfold slantL;rw [hs];rfl),aBel⟩)
  | (
   refine Zd (callv (plane_Dot a b c a b c _) HD.out) ?_;rintro e w1 ⟨rfl,hb1⟩;have hw1:Below w.heap.size w w1:=Below.hop aBel hb1;clear hb1;go_wp2;go_ret;exact ⟨ret_bool (by
    rw [<- HO.out];have hs:smallV ⟨a,b,c⟩=true:=by
     simp only [smallV,Bool.and_eq_true,inB_iff]; omega
    unfold slantL;rw [hs,HD2.out];rfl),hw1⟩)
theorem plc_beyond (l:Loc) (w:World):Calls Tryz.prog 155 #[l.v] w fun e w'=>e = .returned (.bool (beyL l))/\Below w.heap.size w w':=by
 obtain ⟨⟨x,y,z⟩,⟨a,b,c⟩,lo,hi⟩:=l;simp only [Loc.v];obtain ⟨o,ho⟩:=Zx (beyL ⟨⟨x,y,z⟩,⟨a,b,c⟩,lo,hi⟩);rw [ho];have HO:=Zh ho;clear ho;obtain ⟨q,hq⟩:=Zx (vIn ⟨x,y,z⟩);have HQ:=Zh (congrArg Value.bool hq);have HQ2:=Zh hq;clear hq;go_enter Tryz.func155,Tryz.ntmps155;go_wp2_with fail;refine Zd (callv (plane_In x y z _) HQ.out) ?_;rintro e w1 ⟨rfl,hb1⟩;have o1:Own w1 w.heap.size #[.int .i64 x,.int .i64 y,.int .i64 z,.int .i64 a,.int .i64 b,.int .i64 c,.int .i64 lo,.int .i64 hi]:=Own.below aOwn hb1;have o1c:=o1.cell;have hw1:Below w.heap.size w w1:=Below.hop aBel hb1;clear hb1;have HV:RowKit.Hid (beyL ⟨⟨x,y,z⟩,⟨a,b,c⟩,lo,hi⟩=(!q || (decide (hi<lo) || (decide (lo < -10000) || decide (10000<hi))))):=by
  unfold beyL; rw [HQ2.out]; rfl
 cases q
 ·go_wp2;go_ret;exact ⟨ret_bool (by rw [<- HO.out,HV.out]; rfl),hw1⟩
 ·go_wp2
  all_goals
   go_ret;exact ⟨ret_bool (by rw [<- HO.out,HV.out]; first | (simp; omega) | grind),hw1⟩
theorem index_slant {w:World} {A:Option Addr} {n:Nat} {L:List Loc} {p:Nat->Bool} (c:Nat) (hc:0<n->∃ b off,A=some ⟨b,off,none⟩/\b<w.heap.size/\RowL w b off n L) (hp:∀ i,i<n->p i=slantL (lAt L i)/\(lAt L i).I) (hn:n<=1000000) :
 Calls Tryz.prog 217 #[.slice A n c,.func (.func 154) #[] #[]] w fun e w'=>∃ r:Int,e = .returned (.int .i64 r)/\decide (0<=r)=anyF p n/\Below w.heap.size w w':=by
 have HP:=Zh hp;have HC:=Zh hc;clear hp hc;have hni:(n:Int)<=1000000:=aO
 go_enter Tryz.func217,Tryz.ntmps217;go_wp2;go_loopw [8] (fun i wr=>∃ k:Nat,k<=n/\i = .int .i64 k/\anyF p k=false/\Below w.heap.size w wr) (fun i _=>n - (intOf i).toNat)
 case atStart=>exact ⟨0,aO,rfl,rfl,Zb _ _⟩
 case round =>
  obtain ⟨k,hk,rfl,hA,hbel⟩:=hrel;have HA:=Zh hA;have hkb:=hbel.size;clear hA
  by_cases hlt:k<n
  ·have hlt2:(k:Int)<(n:Int):=aO
   obtain ⟨b,off,rfl,hb,hcell⟩:=HC.out aO;obtain ⟨h0,h1,h2,h3,h4,h5,h6,h7⟩:=hcell k hlt;have hbk:=hbel.block b hb;have e0:=(Zc (w:=w) (a:=⟨b,off+k*8,none⟩) hbk).trans h0;have e1:=(Zc (w:=w) (a:=⟨b,off+k*8+1,none⟩) hbk).trans h1;have e2:=(Zc (w:=w) (a:=⟨b,off+k*8+2,none⟩) hbk).trans h2;have e3:=(Zc (w:=w) (a:=⟨b,off+k*8+3,none⟩) hbk).trans h3;have e4:=(Zc (w:=w) (a:=⟨b,off+k*8+4,none⟩) hbk).trans h4;have e5:=(Zc (w:=w) (a:=⟨b,off+k*8+5,none⟩) hbk).trans h5;have e6:=(Zc (w:=w) (a:=⟨b,off+k*8+6,none⟩) hbk).trans h6;have e7:=(Zc (w:=w) (a:=⟨b,off+k*8+7,none⟩) hbk).trans h7;clear h0 h1 h2 h3 h4 h5 h6 h7 hbk;go_wp2_with fail;have q:=plc_slanted (lAt L k) (HP.out k hlt).2 wr;rw [<- (HP.out k hlt).1] at q;obtain ⟨o,ho⟩:=Zx (p k);rw [ho] at q;refine Zd q ?_;clear q;rintro e w2 ⟨rfl,hb2⟩;have B2:=Zh (hbel.trans (hb2.mono hkb));have HO:=Zh ho;clear hb2 ho;cases o
   ·go_wp2;go_roundw
    case rel=>exact ⟨k+1,aO,by go_num,by rw [anyF,HA.out,HO.out]; rfl,B2.out⟩
    case measure=>simp [intOf]; omega
   ·go_wp2;go_ret;exact ⟨_,rfl,by rw [anyF_of hlt HO.out]; exact decide_eq_true aO,B2.out⟩
  ·have hk2:k=n:=aO
   subst hk2;go_wp2;go_ret;exact ⟨_,rfl,by rw [HA.out]; rfl,hbel⟩
theorem contains_slant {w:World} {A:Option Addr} {n:Nat} {L:List Loc} {p:Nat->Bool} (c:Nat) (hc:0<n->∃ b off,A=some ⟨b,off,none⟩/\b<w.heap.size/\RowL w b off n L) (hp:∀ i,i<n->p i=slantL (lAt L i)/\(lAt L i).I) (hn:n<=1000000) :
 Calls Tryz.prog 153 #[.slice A n c,.func (.func 154) #[] #[]] w fun e w'=>e = .returned (.bool (anyF p n))/\Below w.heap.size w w':=by
 have q:=index_slant c hc hp hn;obtain ⟨o,ho⟩:=Zx (anyF p n);rw [ho] at q ⊢;have Q:=Zh q;clear q ho hp hc;go_enter Tryz.func153,Tryz.ntmps153;go_wp2_with fail;refine Zd Q.out ?_;rintro e w2 ⟨r,rfl,hr,hb⟩;have HR:=Zh hr;have HB:=Zh hb;clear hr hb
 by_cases h0:0<=r
 ·have hr2:o=true:=by rw [<- HR.out]; exact decide_eq_true h0
  subst hr2;go_wp2;go_ret;exact ⟨rfl,HB.out⟩
 ·have hr2:o=false:=by rw [<- HR.out]; exact decide_eq_false h0
  subst hr2;go_wp2;go_ret;exact ⟨ret_bool (decide_eq_false aO),HB.out⟩
theorem index_bey {w:World} {A:Option Addr} {n:Nat} {L:List Loc} {p:Nat->Bool} (c:Nat) (hc:0<n->∃ b off,A=some ⟨b,off,none⟩/\b<w.heap.size/\RowL w b off n L) (hp:∀ i,i<n->p i=beyL (lAt L i)) (hn:n<=1000000) :
 Calls Tryz.prog 217 #[.slice A n c,.func (.func 155) #[] #[]] w fun e w'=>∃ r:Int,e = .returned (.int .i64 r)/\decide (0<=r)=anyF p n/\Below w.heap.size w w':=by
 have HP:=Zh hp;have HC:=Zh hc;clear hp hc;have hni:(n:Int)<=1000000:=aO
 go_enter Tryz.func217,Tryz.ntmps217;go_wp2;go_loopw [8] (fun i wr=>∃ k:Nat,k<=n/\i = .int .i64 k/\anyF p k=false/\Below w.heap.size w wr) (fun i _=>n - (intOf i).toNat)
 case atStart=>exact ⟨0,aO,rfl,rfl,Zb _ _⟩
 case round =>
  obtain ⟨k,hk,rfl,hA,hbel⟩:=hrel;have HA:=Zh hA;have hkb:=hbel.size;clear hA
  by_cases hlt:k<n
  ·have hlt2:(k:Int)<(n:Int):=aO
   obtain ⟨b,off,rfl,hb,hcell⟩:=HC.out aO;obtain ⟨h0,h1,h2,h3,h4,h5,h6,h7⟩:=hcell k hlt;have hbk:=hbel.block b hb;have e0:=(Zc (w:=w) (a:=⟨b,off+k*8,none⟩) hbk).trans h0;have e1:=(Zc (w:=w) (a:=⟨b,off+k*8+1,none⟩) hbk).trans h1;have e2:=(Zc (w:=w) (a:=⟨b,off+k*8+2,none⟩) hbk).trans h2;have e3:=(Zc (w:=w) (a:=⟨b,off+k*8+3,none⟩) hbk).trans h3;have e4:=(Zc (w:=w) (a:=⟨b,off+k*8+4,none⟩) hbk).trans h4;have e5:=(Zc (w:=w) (a:=⟨b,off+k*8+5,none⟩) hbk).trans h5;have e6:=(Zc (w:=w) (a:=⟨b,off+k*8+6,none⟩) hbk).trans h6;have e7:=(Zc (w:=w) (a:=⟨b,off+k*8+7,none⟩) hbk).trans h7;clear h0 h1 h2 h3 h4 h5 h6 h7 hbk;go_wp2_with fail;have q:=plc_beyond (lAt L k) wr;rw [<- HP.out k hlt] at q;obtain ⟨o,ho⟩:=Zx (p k);rw [ho] at q;refine Zd q ?_;clear q;rintro e w2 ⟨rfl,hb2⟩;have B2:=Zh (hbel.trans (hb2.mono hkb));have HO:=Zh ho;clear hb2 ho;cases o
   ·go_wp2;go_roundw
    case rel=>exact ⟨k+1,aO,by go_num,by rw [anyF,HA.out,HO.out]; rfl,B2.out⟩
    case measure=>simp [intOf]; omega
   ·go_wp2;go_ret;exact ⟨_,rfl,by rw [anyF_of hlt HO.out]; exact decide_eq_true aO,B2.out⟩
  ·have hk2:k=n:=aO
   subst hk2;go_wp2;go_ret;exact ⟨_,rfl,by rw [HA.out]; rfl,hbel⟩
theorem contains_bey {w:World} {A:Option Addr} {n:Nat} {L:List Loc} {p:Nat->Bool} (c:Nat) (hc:0<n->∃ b off,A=some ⟨b,off,none⟩/\b<w.heap.size/\RowL w b off n L) (hp:∀ i,i<n->p i=beyL (lAt L i)) (hn:n<=1000000) :
 Calls Tryz.prog 153 #[.slice A n c,.func (.func 155) #[] #[]] w fun e w'=>e = .returned (.bool (anyF p n))/\Below w.heap.size w w':=by
 have q:=index_bey c hc hp hn;obtain ⟨o,ho⟩:=Zx (anyF p n);rw [ho] at q ⊢;have Q:=Zh q;clear q ho hp hc;go_enter Tryz.func153,Tryz.ntmps153;go_wp2_with fail;refine Zd Q.out ?_;rintro e w2 ⟨r,rfl,hr,hb⟩;have HR:=Zh hr;have HB:=Zh hb;clear hr hb
 by_cases h0:0<=r
 ·have hr2:o=true:=by rw [<- HR.out]; exact decide_eq_true h0
  subst hr2;go_wp2;go_ret;exact ⟨rfl,HB.out⟩
 ·have hr2:o=false:=by rw [<- HR.out]; exact decide_eq_false h0
  subst hr2;go_wp2;go_ret;exact ⟨ret_bool (decide_eq_false aO),HB.out⟩
theorem plc_each {w:World} {A:Option Addr} {n:Nat} {L:List Loc} (c:Nat) (h:LocsAt w A n L) (hn:n<=1000):Calls Tryz.prog 77 #[.slice A n c] w fun e w'=>e = .returned (.int .i64 (locE L))/\Below w.heap.size w w':=by
 have q1:=contains_slant (p:=fun i=>slantL (lAt L i)) c h.row (fun i hi=>⟨rfl,h.ok i hi⟩) aO;have hl:=h.len;have H:=Zh h;obtain ⟨o1,ho1⟩:=Zx (L.any slantL);obtain ⟨o2,ho2⟩:=Zx (L.any beyL);have hE:locE L=if o1 then 1 else if o2 then 3 else 0:=by unfold locE; rw [ho1,ho2]
 rw [hE];have e1:=any_anyF slantL L;rw [hl,ho1] at e1;rw [e1] at q1;have Q1:=Zh q1;have HO2:=Zh ho2;have HLN:=Zh hl;clear h q1 hE e1 ho1 ho2 hl;go_enter Tryz.func77,Tryz.ntmps77;go_wp2_with fail;refine Zd Q1.out ?_;rintro e w1 ⟨rfl,hb1⟩;have hw1:=hb1;clear hb1 Q1;cases o1
 ·have h1:=H.out.below hw1;have q2:=contains_bey (p:=fun i=>beyL (lAt L i)) c h1.row (fun i hi=>rfl) aO;have e2:=any_anyF beyL L;rw [HLN.out,HO2.out] at e2;rw [e2] at q2;have Q2:=Zh q2;clear h1 q2 e2;go_wp2_with fail;refine Zd Q2.out ?_;rintro e w2 ⟨rfl,hb2⟩;have hw2:=hw1.trans (hb2.mono hw1.size);clear hb2 Q2;cases o2
  ·go_wp2;go_ret;exact ⟨rfl,hw2⟩
  ·go_wp2;go_ret;exact ⟨rfl,hw2⟩
 ·go_wp2;go_ret;exact ⟨rfl,hw1⟩
end Go.Proofs.YtflolbnnkbdmfaaGreat
