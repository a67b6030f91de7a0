import Derived.Test.YtflolbnnkbdmfaaGreatSan5a
set_option linter.all false
namespace Go.Proofs.YtflolbnnkbdmfaaGreat
open Go.RowKit
set_option maxHeartbeats 8000000
set_option maxRecDepth 100000
theorem infoI:(Tryz.prog.info? 3).map (fun i=>(i.zero,i.size,i.bytes))=some (some (.int .i64 0),1,8):=aK
theorem infoIs:(Tryz.prog.info? 22).map (fun i=>(i.zero,i.size,i.bytes))=some (some (.slice none 0 0),1,24):=aK
def encI (l:List Int):List Value:=l.map (Value.int .i64)
theorem encI_at {l:List Int} {i:Nat} (h:i<l.length):(encI l)[i]?=some (.int .i64 (iAt l i)):=by
 unfold encI iAt;rw [List.getElem?_map,Ze,List.getElem?_eq_getElem h]; rfl
theorem encI_snoc (l:List Int) (x:Int):encI l++[.int .i64 x]=encI (l++[x]):=by unfold encI; rw [List.map_append]; rfl
theorem ints_of_row {W:World} {base:Nat} {v:Value} {l:List Int} {n:Nat} (h:W.ownsRow base 3 1 v n (encI l)) (hn:l.length=n) (hI:I64L l):∃ A c,v = .slice A n c/\n<=c/\c<=9223372036854775807/\IntsAt W A n l/\(∀ b off,A=some ⟨b,off,none⟩->off=0/\base<=b/\b<W.heap.size/\v.ownBlock=some b):=by
 rcases h.2 with ⟨rfl,h0⟩ | ⟨g,cap,cur,rfl,h1,h2,h3,h4,h5,h6⟩
 ·subst h0;exact ⟨none,0,rfl,Zr _,aO,⟨hn,hI,fun h=>absurd h (Nat.lt_irrefl 0)⟩,fun b off e=>by cases e⟩
 ·have hg:g<W.heap.size:=by
   rcases Nat.lt_or_ge g W.heap.size with h | h
   ·exact h
   ·rw [Array.getElem?_eq_none h] at h2; cases h2
  unfold maxLen at h4;refine ⟨some ⟨g,0,none⟩,cap,rfl,h3,h4,⟨hn,hI,fun h0=>⟨g,0,rfl,hg,fun i hi=>?_⟩⟩,fun b off e=>by cases e; exact ⟨rfl,h1,hg,rfl⟩⟩;have q:=(ownsRow_cell (xs:=encI l) (size:=1) (e:=3) ⟨h.1,.inr ⟨g,cap,cur,rfl,h1,h2,h3,h4,h5,h6⟩⟩ h0).2.2.2.2 i aO;rw [Nat.zero_add,q];exact encI_at aO
def RowsW (X:Nat->Prop) (w:World) (xs:List Value) (M:List (List Int)):Prop:=xs.length=M.length/\∀ i,i<M.length->∃ B m c,xs[i]?=some (.slice B m c)/\m<=c/\c<=9223372036854775807/\(∀ b off,B=some ⟨b,off,none⟩->b<w.heap.size/\X b)/\IntsAt w B m (rAt M i)
theorem IntsAt.same {w w':World} {A:Option Addr} {n:Nat} {l:List Int} (h:IntsAt w A n l) (hs:w.heap.size<=w'.heap.size) (hk:∀ b off,A=some ⟨b,off,none⟩->w'.heap[b]?=w.heap[b]?):IntsAt w' A n l:=
 ⟨h.len,h.ok,fun h0=>by
  obtain ⟨b,off,e,hlt,hc⟩:=h.row h0;exact ⟨b,off,e,Zl hlt hs,fun i hi=>(Zc (w:=w) (a:=⟨b,off+i,none⟩) (hk b off e)).trans (hc i hi)⟩⟩
theorem RowsW.move {X Y:Nat->Prop} {w w':World} {xs:List Value} {M:List (List Int)} (h:RowsW X w xs M) (hs:w.heap.size<=w'.heap.size) (hk:∀ b,b<w.heap.size->X b->w'.heap[b]?=w.heap[b]?/\Y b):RowsW Y w' xs M:=
 ⟨h.1,fun i hi=>by
  obtain ⟨B,m,c,h1,h2,h3,h4,h5⟩:=h.2 i hi;exact ⟨B,m,c,h1,h2,h3,fun b off e=>⟨Zl (h4 b off e).1 hs,(hk b (h4 b off e).1 (h4 b off e).2).2⟩,h5.same hs fun b off e=>(hk b (h4 b off e).1 (h4 b off e).2).1⟩⟩
theorem RowsW.below {X:Nat->Prop} {w w':World} {xs:List Value} {M:List (List Int)} (h:RowsW X w xs M) (hb:Below w.heap.size w w'):RowsW X w' xs M:=h.move hb.size fun b hlt hX=>⟨hb.block b hlt,hX⟩
theorem RowsW.nil (X:Nat->Prop) (w:World):RowsW X w [] []:=⟨rfl,fun i h=>absurd h (Nat.not_lt_zero i)⟩
theorem rAt_at {M:List (List Int)} {l:List Int} {i:Nat} (hi:i<(M++[l]).length):(i<M.length/\rAt (M++[l]) i=rAt M i)\/(i=M.length/\rAt (M++[l]) i=l):=rAt_snoc hi
theorem RowsW.snoc {X:Nat->Prop} {w:World} {xs:List Value} {M:List (List Int)} {B:Option Addr} {m c:Nat} {l:List Int} (h:RowsW X w xs M) (h1:m<=c) (h2:c<=9223372036854775807) (hb:∀ b off,B=some ⟨b,off,none⟩->b<w.heap.size/\X b) (h3:IntsAt w B m l):RowsW X w (xs++[.slice B m c]) (M++[l]):=
 ⟨by simp [h.1],fun i hi=>by
  rcases rAt_at hi with ⟨h4,h5⟩ | ⟨h4,h5⟩
  ·rw [h5,List.getElem?_append_left (by rw [h.1]; exact h4)];exact h.2 i h4
  ·rw [h5,h4,<- h.1,List.getElem?_append_right (Zr _),Nat.sub_self];exact ⟨B,m,c,rfl,h1,h2,hb,h3⟩⟩
theorem RowsW.one {X:Nat->Prop} {w:World} {xs:List Value} {M:List (List Int)} (h:RowsW X w xs M):∀ u∈xs,u.oneCell'=true:=fun u hu=>by
 obtain ⟨i,hi,rfl⟩:=List.getElem_of_mem hu;obtain ⟨B,m,c,e,_⟩:=h.2 i (by rw [<- h.1]; exact hi);rw [List.getElem?_eq_getElem hi] at e;injection e with e
 rw [e]; rfl
theorem rows_of_row {W:World} {base:Nat} {X:Nat->Prop} {v:Value} {M:List (List Int)} {n:Nat} {xs:List Value} (h:W.ownsRow base 22 1 v n xs) (hr:RowsW X W xs M) (hn:M.length=n):∃ A c,v = .slice A n c/\n<=c/\c<=9223372036854775807/\RowsAt W A n M/\(0<n->∃ g,A=some ⟨g,0,none⟩/\base<=g/\g<W.heap.size):=by
 rcases h.2 with ⟨rfl,h0⟩ | ⟨g,cap,cur,rfl,h1,h2,h3,h4,h5,h6⟩
 ·subst h0;exact ⟨none,0,rfl,Zr _,aO,⟨hn,fun h=>absurd h (Nat.lt_irrefl 0)⟩,fun h=>absurd h (Nat.lt_irrefl 0)⟩
 ·have hg:g<W.heap.size:=by
   rcases Nat.lt_or_ge g W.heap.size with h | h
   ·exact h
   ·rw [Array.getElem?_eq_none h] at h2; cases h2
  unfold maxLen at h4;refine ⟨some ⟨g,0,none⟩,cap,rfl,h3,h4,⟨hn,fun h0=>⟨g,0,rfl,hg,fun i hi=>?_⟩⟩,fun _=>⟨g,rfl,h1,hg⟩⟩;obtain ⟨B,m,c,e1,e2,e3,_,e5⟩:=hr.2 i aO;have q:=(ownsRow_cell (xs:=xs) (size:=1) (e:=22) ⟨h.1,.inr ⟨g,cap,cur,rfl,h1,h2,h3,h4,h5,h6⟩⟩ h0).2.2.2.2 i aO;exact ⟨B,m,c,by rw [Nat.zero_add,q]; exact e1,e2,e3,e5⟩
def cellsI (l:List Int):Array Value:=(encI l).toArray
theorem cellsI_at {l:List Int} {i:Nat} (h:i<l.length):(cellsI l)[i]?=some (.int .i64 (iAt l i)):=by
 unfold cellsI;rw [List.getElem?_toArray];exact encI_at h
theorem iAt_set {l:List Int} {i j:Nat} {x:Int} (hi:i<l.length):iAt (l.set i x) j=if j=i then x else iAt l j:=by
 unfold iAt;simp only [Ze,List.getElem?_set]
 by_cases e:i=j
 ·subst e; simp [hi]
 ·rw [if_neg e,if_neg (fun h=>e h.symm)]
theorem Own.ints {W:World} {b n:Nat} {l:List Int} (h:Own W b (cellsI l)) (hn:l.length=n) (hI:I64L l):IntsAt W (some ⟨b,0,none⟩) n l:=
 ⟨hn,hI,fun _=>⟨b,0,rfl,h.lt,fun i hi=>by rw [Nat.zero_add,h.cell]; exact cellsI_at aO⟩⟩
def BdI (B:Int) (l:List Int):Prop:=∀ i,-B<=iAt l i/\iAt l i<=B
theorem BdI.set {B:Int} {l:List Int} (h:BdI B l) {i:Nat} {x:Int} (hi:i<l.length) (hx:-B<=x/\x<=B):BdI B (l.set i x):=fun j=>by
 rw [iAt_set hi];split
 ·exact hx
 ·exact h j
theorem BdI.i64 {B:Int} {l:List Int} (h:BdI B l) (hB:B<=1000000000000):I64L l:=fun i _=>by have:=h i; omega
theorem BdI.mono {B C:Int} {l:List Int} (h:BdI B l) (hB:B<=C):BdI C l:=fun i=>by have:=h i; omega
def capB:Nat->Int
 | 0=>24072
 | k+1=>4*capB k
theorem capB_le:∀ {k},k<8->capB k<=400000000:=by decide +kernel
theorem ownsRow_blk {w w':World} {base:Nat} {e:TypeId} {size:Nat} {v:Value} {n:Nat} {xs:List Value} (h:w.ownsRow base e size v n xs) (hk:∀ b,v.ownBlock=some b->b<w.heap.size->w'.heap[b]?=w.heap[b]?):w'.ownsRow base e size v n xs:=by
 refine ⟨h.1,?_⟩;rcases h.2 with h1 | ⟨g,cap,cur,rfl,e2,e3,e4⟩
 ·exact .inl h1
 ·have hg:g<w.heap.size:=by
   rcases Nat.lt_or_ge g w.heap.size with h | h
   ·exact h
   ·rw [Array.getElem?_eq_none h] at e3; cases e3
  exact .inr ⟨g,cap,cur,rfl,e2,(hk g rfl hg).trans e3,e4⟩
structure MadeM (M:List (List Int)) (r m:Nat):Prop where
 len:M.length=r
 row:∀ i,i<r->(rAt M i).length=m/\BdI (capB i) (rAt M i)
theorem MadeM.cols {M:List (List Int)} {r m:Nat} (h:MadeM M r m) (hr:1<=r):cols M=m:=by
 have h1:=(h.row 0 aO).1;have h2:=h.len;cases M with
 | nil=>simp at h2; omega
 | cons a b=>exact h1
theorem check_of {M:List (List Int)} (h1:M.length<=48) (h2:cols M<=8) (h3:∀ i,i<M.length->(rAt M i).length=cols M) (h4:∀ i,i<M.length->∀ k,k<cols M->largeI (iAt (rAt M i) k)=false):matCheck M=0:=by
 unfold matCheck;rw [if_neg aO,if_neg,if_neg]
 ·rw [anyF_no]
  ·simp
  ·intro k hk;refine anyF_no fun j hj=>h4 k hk j ?_
   rw [h3 k hk] at hj;exact hj
 ·rw [anyF_no]
  ·simp
  ·intro k hk;exact decide_eq_false (by rw [h3 k hk]; simp)
theorem not_large {x B:Int} (h1:-B<=x) (h2:x<=B) (hB:B<=2147483648):largeI x=false:=by
 unfold largeI;rw [decide_eq_false aO,decide_eq_false aO];rfl
theorem MadeM.check {M:List (List Int)} {r m:Nat} (h:MadeM M r m) (h1:1<=r) (h2:r<=8) (h3:m<=8):matCheck M=0:=by
 have hc:=h.cols h1;refine check_of (by rw [h.len]; omega) aO (fun i hi=>by rw [hc]; exact (h.row i (by rw [<- h.len]; exact hi)).1) (fun i hi k _=>?_);have hi':i<r:=by rw [<- h.len]; exact hi
 have h5:=(h.row i hi').2 k;exact not_large h5.1 h5.2 (by have:=capB_le (k:=i) aO; omega)
theorem solveE_val {M:List (List Int)} {b:List Int} (h1:matCheck M=0) (h2:cols M=M.length) (h3:b.length=M.length) (h4:anyF (fun k=>largeI (iAt b k)) b.length=false):solveE M b=if rankZ M<M.length then 8 else 0:=by
 unfold solveE;rw [if_neg (by rw [h1]; simp),if_neg (by rw [h2,h3]; simp),if_neg (by rw [h4]; simp),rankS_Z h1 h3]
theorem ints_of_cells {W:World} {b n:Nat} {cur:Array Value} {l:List Int} (h:Own W b cur) (hn:l.length=n) (hI:I64L l) (hc:∀ i,i<n->cur[i]?=some (.int .i64 (iAt l i))):IntsAt W (some ⟨b,0,none⟩) n l:=
 ⟨hn,hI,fun _=>⟨b,0,rfl,h.lt,fun i hi=>by rw [Nat.zero_add,h.cell]; exact hc i hi⟩⟩
theorem IntsAt.upd {T:List Nat} {w u:World} {b n:Nat} {l:List Int} (h:IntsAt w (some ⟨b,0,none⟩) n l) (hT:b∉T) (k:Upd T w u):IntsAt u (some ⟨b,0,none⟩) n l:=
 ⟨h.len,h.ok,fun h0=>by
  obtain ⟨b',off,e,hlt,hc⟩:=h.row h0;cases e;exact ⟨_,_,rfl,Zl hlt k.size,fun i hi=>(Zc (w:=w) (a:=⟨b,0+i,none⟩) (k.block b hlt hT)).trans (hc i hi)⟩⟩
def rightB (T:List Nat) (r:Nat):EBS T where
 val p:= .slice (some ⟨p.1,0,none⟩) r p.2
 R p u:=p.1∉T/\r<=p.2/\p.2<=9223372036854775807/\∃ b,IntsAt u (some ⟨p.1,0,none⟩) r b/\BdI 20 b
 st _ _ _ h k:=⟨h.1,h.2.1,h.2.2.1,by obtain ⟨b,h1,h2⟩:=h.2.2.2; exact ⟨b,h1.upd h.1 k,h2⟩⟩
theorem rightB_val {T:List Nat} {r:Nat} {p:Nat×Nat}:(rightB T r).val p = .slice (some ⟨p.1,0,none⟩) r p.2:=rfl
def ratCV (T:List Nat) (B:Nat) (z y:Int):EBS T where
 val p:=ratC z y p.1 (un1 p.2) (un3 p.2) (un2 p.2)
 R p u:=p.1∉T/\un3 p.2∉T/\NumC u p.1 (un1 p.2) z/\NumC u (un3 p.2) (un2 p.2) y/\B<=un3 p.2/\un3 p.2<u.heap.size
 st _ _ _ h k:=⟨h.1,h.2.1,h.2.2.1.upd h.1 k,h.2.2.2.1.upd h.2.1 k,h.2.2.2.2.1,Zl h.2.2.2.2.2 k.size⟩
theorem ratCV_val {T:List Nat} {B:Nat} {z y:Int} {p:Nat×Nat}:(ratCV T B z y).val p=ratC z y p.1 (un1 p.2) (un3 p.2) (un2 p.2):=rfl
theorem ratC_at {w:World} {p q:Int} {b1 C1 b2 C2:Nat} (h1:NumC w b1 C1 p) (h2:NumC w b2 C2 q) (f1:fits p=true) (f2:fits q=true):RatAt w (ratC p q b1 C1 b2 C2) p q:=by
 obtain ⟨A1,n1,c1,e1⟩:=slC_form p b1 C1;obtain ⟨A2,n2,c2,e2⟩:=slC_form q b2 C2;exact ⟨_,A1,n1,c1,_,A2,n2,c2,by rw [ratC,e1,e2],h1.at2 f1 e1,h2.at2 f2 e2⟩
theorem ref3_IntC {w:World} (n:Int) (h1:-9223372036854775808<=n) (h2:n<=9223372036854775807):Calls Tryz.prog 152 #[.int .i64 n] w fun r w'=>(∃ b1 C1 b2 C2,r = .returned (ratC n 1 b1 C1 b2 C2)/\NumC w' b1 C1 n/\NumC w' b2 C2 1/\w.heap.size<=b1/\b1<w'.heap.size/\w.heap.size<=b2/\b2<w'.heap.size)/\Below w.heap.size w w':=by
 have hW:=(Zb w.heap.size w).alloc (Zr _) (.cells nz2 42);have o4:Own (w.alloc (.cells nz2 42)) w.heap.size nz2:=aOwn;have hz:=hW.size;have hn:=Zh (Zi h1 (Zi h2 (show fits n=true from fits_small aO)));clear h1 h2;go_enter Tryz.func152,Tryz.ntmps152;go_wp2_with fail;generalize (w.alloc (.cells nz2 42))=W0 at *;refine Zd (ref3_whole n hn.out.1 hn.out.2.1) ?_;rintro e u1 ⟨⟨b1,C1,rfl,oN,loN,hiN⟩,hb1⟩;have hw1:=hW.trans (hb1.mono hz);have hz1:=hw1.size;have p4:=o4.below hb1;have l1:=Zl o4.lt loN;clear hb1 o4;go_wp2_with fail;refine Zd (ref3_whole 1 aO aO) ?_;rintro e u2 ⟨⟨b2,C2,rfl,oM,loM,hiM⟩,hb2⟩;have hwu:=hw1.trans (hb2.mono hz1);have q4:=p4.below hb2;have l2:=Zl p4.lt loM;have l3:=hb2.size;have HN:=Zh (Zi (oN.below hb2) oM);have q4c:=q4.cell;have q4f:=q4.thaw;obtain ⟨A7,n7,c7,hs7⟩:=slC_form n b1 C1;obtain ⟨A8,n8,c8,hs8⟩:=slC_form 1 b2 C2;simp only [numC];rw [hs7,hs8];have HSL:=Zh (Zi hs7 hs8);clear hs7 hs8 oN oM hb2 p4;go_wp2;refine retC (b:=w.heap.size) (v:= .agg #[.bool (sgnN n),.slice A7 n7 c7,.bool (sgnN 1),.slice A8 n8 c8]) (((((q4.set 0 (.bool (sgnN n))).set 1 (.slice A7 n7 c7)).set 2 (.bool (sgnN 1))).set 3 (.slice A8 n8 c8))) (fun w' hw'=>by simp [results,Tryz.results152,go_sem,hw']) rfl ⟨⟨b1,C1,b2,C2,by rw [ratC,HSL.out.1,HSL.out.2],((((HN.out.1).far aT _).far aT _).far aT _).far aT _,((((HN.out.2).far aT _).far aT _).far aT _).far aT _,aO,aT,aO,aT⟩,((((hwu.setCell aS _).setCell aS _).setCell aS _).setCell aS _)⟩
structure Loc where
 p:V3
 n:V3
 lo:Int
 hi:Int
def smallV (n:V3):Bool:=inB 1 n.x&&(inB 1 n.y&&inB 1 n.z)
def slantL (l:Loc):Bool:=!smallV l.n || !(vDot l.n l.n==1)
def beyL (l:Loc):Bool:=!vIn l.p || (decide (l.hi<l.lo) || (decide (l.lo < -10000) || decide (10000<l.hi)))
def locE (L:List Loc):Int:=if L.any slantL then 1 else if L.any beyL then 3 else 0
def locR (l:Loc):List Int:=[l.n.x,l.n.y,l.n.z,(vCross l.p l.n).x,(vCross l.p l.n).y,(vCross l.p l.n).z]
def locM (L:List Loc):List (List Int):=L.map locR
def locC (L:List Loc):Int:=if L.length=6 then (if locE L=0 then (if rankZ (locM L)<6 then 20 else 0) else locE L) else 2
def locF (L:List Loc):Int:=if L.length<=6 then locE L else 2
def zero6:List Int:=[0,0,0,0,0,0]
def locZ (L:List Loc):List (List Int):=locM L++[zero6]
structure Loc.Ok (l:Loc):Prop where
 nx:-1<=l.n.x/\l.n.x<=1
 ny:-1<=l.n.y/\l.n.y<=1
 nz:-1<=l.n.z/\l.n.z<=1
 px:-24<=l.p.x/\l.p.x<=24
 py:-24<=l.p.y/\l.p.y<=24
 pz:-24<=l.p.z/\l.p.z<=24
 lh:l.lo<=l.hi /\ -10000<=l.lo/\l.hi<=10000
 one:l.n.x*l.n.x+l.n.y*l.n.y+l.n.z*l.n.z=1
theorem w64 {n:Int} (h1:-1000000<=n) (h2:n<=1000000):wrap64 n=n:=by unfold wrap64; omega
theorem mul_unit {a b:Int} (h1:-1<=a) (h2:a<=1):a*b=-b\/a*b=0\/a*b=b:=by
 have:a=-1\/a=0\/a=1:=aO
 rcases this with h | h | h <;> subst h <;> omega
theorem mul_unit' {a b:Int} (h1:-1<=a) (h2:a<=1):b*a=-b\/b*a=0\/b*a=b:=by rw [Int.mul_comm]; exact mul_unit h1 h2
theorem inB_iff {m n:Int}:inB m n=true ↔ -m<=n/\n<=m:=by simp [inB]
theorem loc_ok {l:Loc} (h1:slantL l=false) (h2:beyL l=false):l.Ok:=by
 simp only [slantL,beyL,smallV,vIn,Bool.or_eq_false_iff,Bool.not_eq_false',Bool.and_eq_true,inB_iff,decide_eq_false_iff_not,beq_iff_eq] at h1 h2;obtain ⟨⟨a1,a2,a3⟩,a4⟩:=h1;obtain ⟨⟨b1,b2,b3⟩,b4,b5,b6⟩:=h2;refine ⟨a1,a2,a3,b1,b2,b3,⟨aO,aO,aO⟩,?_⟩;have hx:=mul_unit (b:=l.n.x) a1.1 a1.2;have hy:=mul_unit (b:=l.n.y) a2.1 a2.2;have hz:=mul_unit (b:=l.n.z) a3.1 a3.2;unfold vDot at a4;rw [w64 (n:=l.n.x*l.n.x) aO aO,w64 (n:=l.n.y*l.n.y) aO aO,w64 (n:=l.n.z*l.n.z) aO aO,w64 (n:=l.n.x*l.n.x+l.n.y*l.n.y) aO aO,w64 aO aO] at a4;exact a4
theorem Loc.Ok.small {l:Loc} (h:l.Ok):slantL l=false/\beyL l=false:=by
 have hy:=mul_unit (b:=l.n.y) h.ny.1 h.ny.2;have hz:=mul_unit (b:=l.n.z) h.nz.1 h.nz.2;have a1:=h.nx;have a2:=h.ny;have a3:=h.nz;have a4:=h.px;have a5:=h.py;have a6:=h.pz;have a7:=h.lh;have a8:=h.one;simp only [slantL,beyL,smallV,vIn,Bool.or_eq_false_iff,Bool.not_eq_false',Bool.and_eq_true,inB_iff,decide_eq_false_iff_not,beq_iff_eq];refine ⟨⟨⟨a1,a2,a3⟩,?_⟩,⟨a4,a5,a6⟩,aO,aO,aO⟩;unfold vDot;rw [w64 (n:=l.n.x*l.n.x) aO aO,w64 (n:=l.n.y*l.n.y) aO aO,w64 (n:=l.n.z*l.n.z) aO aO,w64 (n:=l.n.x*l.n.x+l.n.y*l.n.y) aO aO,w64 aO aO];exact a8
theorem Loc.Ok.cross {l:Loc} (h:l.Ok):vCross l.p l.n=⟨l.p.y*l.n.z - l.p.z*l.n.y,l.p.z*l.n.x - l.p.x*l.n.z,l.p.x*l.n.y - l.p.y*l.n.x⟩ /\
 (-48<=l.p.y*l.n.z - l.p.z*l.n.y/\l.p.y*l.n.z - l.p.z*l.n.y<=48)/\(-48<=l.p.z*l.n.x - l.p.x*l.n.z/\l.p.z*l.n.x - l.p.x*l.n.z<=48)/\(-48<=l.p.x*l.n.y - l.p.y*l.n.x/\l.p.x*l.n.y - l.p.y*l.n.x<=48):=by
 have q1:=mul_unit' (b:=l.p.y) h.nz.1 h.nz.2;have q2:=mul_unit' (b:=l.p.z) h.ny.1 h.ny.2;have q3:=mul_unit' (b:=l.p.z) h.nx.1 h.nx.2;have q4:=mul_unit' (b:=l.p.x) h.nz.1 h.nz.2;have q5:=mul_unit' (b:=l.p.x) h.ny.1 h.ny.2;have q6:=mul_unit' (b:=l.p.y) h.nx.1 h.nx.2;have b1:=h.px;have b2:=h.py;have b3:=h.pz;refine ⟨?_,aO,aO,aO⟩;unfold vCross;rw [w64 (n:=l.p.y*l.n.z) aO aO,w64 (n:=l.p.z*l.n.y) aO aO,w64 (n:=l.p.z*l.n.x) aO aO,w64 (n:=l.p.x*l.n.z) aO aO,w64 (n:=l.p.x*l.n.y) aO aO,w64 (n:=l.p.y*l.n.x) aO aO];rw [w64 aO aO,w64 aO aO,w64 aO aO]
theorem locR_len (l:Loc):(locR l).length=6:=rfl
theorem locR_bd {l:Loc} (h:l.Ok) (j:Nat):-48<=iAt (locR l) j/\iAt (locR l) j<=48:=by
 obtain ⟨e,c1,c2,c3⟩:=h.cross;have a1:=h.nx;have a2:=h.ny;have a3:=h.nz;unfold locR;rw [e]
 match j with
 | 0=>show -48<=l.n.x/\l.n.x<=48; omega
 | 1=>show -48<=l.n.y/\l.n.y<=48; omega
 | 2=>show -48<=l.n.z/\l.n.z<=48; omega
 | 3=>exact c1
 | 4=>exact c2
 | 5=>exact c3
 | n+6=>show -48<=(0:Int)/\(0:Int)<=48; omega
theorem locE_zero {L:List Loc}:locE L=0↔∀ l∈L,l.Ok:=by
 unfold locE;constructor
 ·intro h l hl
  by_cases h1:L.any slantL
  ·rw [if_pos h1] at h; omega
  ·by_cases h2:L.any beyL
   ·rw [if_neg h1,if_pos h2] at h; omega
   ·refine loc_ok ?_ ?_
    ·cases h3:slantL l with
     | false=>rfl
     | true=>exact absurd (List.any_eq_true.2 ⟨l,hl,h3⟩) h1
    ·cases h3:beyL l with
     | false=>rfl
     | true=>exact absurd (List.any_eq_true.2 ⟨l,hl,h3⟩) h2
 ·intro h;rw [if_neg,if_neg]
  ·intro h2;obtain ⟨l,hl,h3⟩:=List.any_eq_true.1 h2;rw [(h l hl).small.2] at h3; cases h3
  ·intro h2;obtain ⟨l,hl,h3⟩:=List.any_eq_true.1 h2;rw [(h l hl).small.1] at h3; cases h3
theorem rAt_locM {L:List Loc} {i:Nat} (hi:i<L.length):∃ l,l∈L/\L[i]?=some l/\rAt (locM L) i=locR l:=by
 refine ⟨L[i],List.getElem_mem hi,List.getElem?_eq_getElem hi,?_⟩;unfold rAt locM;simp [hi]
theorem locM_len (L:List Loc):(locM L).length=L.length:=by unfold locM; simp
theorem cols_locM {L:List Loc} (h:L≠[]):cols (locM L)=6:=by
 cases L with
 | nil=>exact absurd rfl h
 | cons l ls=>rfl
theorem cols_locZ (L:List Loc):cols (locZ L)=6:=by
 cases L with
 | nil=>rfl
 | cons l ls=>rfl
theorem check_locM {L:List Loc} (h:locE L=0) (hn:L.length<=6) (h0:L≠[]):matCheck (locM L)=0:=by
 rw [locE_zero] at h;have hc:=cols_locM h0;refine check_of (by rw [locM_len]; omega) aO (fun i hi=>?_) (fun i hi k _=>?_)
 ·obtain ⟨l,_,_,e⟩:=rAt_locM (L:=L) (i:=i) (by rw [locM_len] at hi; exact hi);rw [e,hc,locR_len]
 ·obtain ⟨l,hl,_,e⟩:=rAt_locM (L:=L) (i:=i) (by rw [locM_len] at hi; exact hi);rw [e];have:=locR_bd (h l hl) k;exact not_large this.1 this.2 aO
theorem rAt_locZ {L:List Loc} {i:Nat} (hi:i<L.length+1):(i<L.length/\rAt (locZ L) i=rAt (locM L) i)\/(i=L.length/\rAt (locZ L) i=zero6):=by
 have:=rAt_at (M:=locM L) (l:=zero6) (i:=i) (by rw [List.length_append,locM_len]; exact hi);rw [locM_len] at this;exact this
theorem zero6_at (j:Nat):iAt zero6 j=0:=by
 match j with
 | 0=>rfl
 | 1=>rfl
 | 2=>rfl
 | 3=>rfl
 | 4=>rfl
 | 5=>rfl
 | n+6=>rfl
theorem check_locZ {L:List Loc} (h:locE L=0) (hn:L.length<=6):matCheck (locZ L)=0:=by
 rw [locE_zero] at h;have hc:=cols_locZ L;have hl:(locZ L).length=L.length+1:=by unfold locZ; rw [List.length_append,locM_len]; rfl
 refine check_of aO aO (fun i hi=>?_) (fun i hi k _=>?_)
 ·rcases rAt_locZ (L:=L) (i:=i) aO with ⟨h1,e⟩ | ⟨_,e⟩
  ·obtain ⟨l,_,_,e2⟩:=rAt_locM h1;rw [e,e2,hc,locR_len]
  ·rw [e,hc]; rfl
 ·rcases rAt_locZ (L:=L) (i:=i) aO with ⟨h1,e⟩ | ⟨_,e⟩
  ·obtain ⟨l,hl,_,e2⟩:=rAt_locM h1;rw [e,e2];have:=locR_bd (h l hl) k;exact not_large this.1 this.2 aO
  ·rw [e,zero6_at];exact not_large (B:=1) aO aO aO
theorem Fact.zero {M:Nat->Nat->Int} {m n r:Nat} (h:Fact M m n r):Fact (fun i j=>if i<m then M i j else 0) (m+1) n r:=by
 obtain ⟨d,C,E,hd,h⟩:=h;refine ⟨d,fun i t=>if i<m then C i t else 0,E,hd,fun i hi j hj=>?_⟩
 by_cases e:i<m
 ·have e1:sumF (fun t=>(if i<m then C i t else 0)*E t j) r=sumF (fun t=>C i t*E t j) r:=sumF_eq fun t _=>by rw [if_pos e]
  show d*(if i<m then M i j else 0)=_;rw [e1,if_pos e]; exact h i e j hj
 ·have e1:sumF (fun t=>(if i<m then C i t else 0)*E t j) r=0:=sumF_zero fun t _=>by rw [if_neg e,Int.zero_mul]
  show d*(if i<m then M i j else 0)=_;rw [e1,if_neg e,Int.mul_zero]
def roll (t:Int) (v:V3):V3:=if t=0 then v else if t=1 then ⟨v.z,v.x,v.y⟩ else ⟨v.y,v.z,v.x⟩
def dr (l:List Int) (k:Nat) (m:Int):Int:=nextV (l.drop k) m
def mdA (l:List Int):Int:=dr l 2 9 - 4
def mdB (l:List Int):Int:=dr l 3 9 - 4
def mdZ (l:List Int):Int:=dr l 4 9 - 4
def mdS (l:List Int):Int:=dr l 1 2*2 - 1
def mdP (l:List Int):Nat->V3
 | 0=>⟨mdA l,mdB l,mdZ l⟩
 | 1=>⟨mdA l+(1+dr l 5 6),mdB l,mdZ l⟩
 | 2=>⟨mdA l+dr l 7 5,mdB l+(1+dr l 6 6),mdZ l⟩
 | 3=>⟨mdA l,mdB l,dr l 8 5⟩
 | 4=>⟨mdA l+(1+dr l 5 6),mdB l,dr l 9 5⟩
 | _=>⟨mdA l,mdB l+dr l 10 5,dr l 11 5⟩
def mdN (l:List Int) (k:Nat):V3:=if 4<k then ⟨-mdS l,0,0⟩ else if 2<k then ⟨0,1,0⟩ else ⟨0,0,mdS l⟩
def mdLo (l:List Int) (k:Nat):Int:=-dr l (12+2*k) 20
def mdHi (l:List Int) (k:Nat):Int:=mdLo l k+dr l (13+2*k) 40
def mdL (l:List Int) (k:Nat):Loc:=⟨roll (nextV l 3) (mdP l k),roll (nextV l 3) (mdN l k),mdLo l k,mdHi l k⟩
def madeL (l:List Int):List Loc:=(List.range 6).map (mdL l)
theorem dr_bd (l:List Int) (k:Nat) {m:Int} (hm:1<=m):0<=dr l k m/\dr l k m<m:=nextV_bd _ _ hm
theorem mdS_cases (l:List Int):mdS l=1\/mdS l=-1:=by
 have:=dr_bd l 1 (m:=2) aO;unfold mdS; omega
theorem mdP_bd (l:List Int) (k:Nat):(-4<=(mdP l k).x/\(mdP l k).x<=10)/\(-4<=(mdP l k).y/\(mdP l k).y<=10)/\(-4<=(mdP l k).z/\(mdP l k).z<=10):=by
 have h2:=dr_bd l 2 (m:=9) aO;have h3:=dr_bd l 3 (m:=9) aO;have h4:=dr_bd l 4 (m:=9) aO;have h5:=dr_bd l 5 (m:=6) aO;have h6:=dr_bd l 6 (m:=6) aO;have h7:=dr_bd l 7 (m:=5) aO;have h8:=dr_bd l 8 (m:=5) aO;have h9:=dr_bd l 9 (m:=5) aO;have h10:=dr_bd l 10 (m:=5) aO;have h11:=dr_bd l 11 (m:=5) aO
 match k with
 | 0=>simp only [mdP,mdA,mdB,mdZ]; omega
 | 1=>simp only [mdP,mdA,mdB,mdZ]; omega
 | 2=>simp only [mdP,mdA,mdB,mdZ]; omega
 | 3=>simp only [mdP,mdA,mdB]; omega
 | 4=>simp only [mdP,mdA,mdB]; omega
 | n+5=>simp only [mdP,mdA,mdB]; omega
theorem mdN_unit (l:List Int) (k:Nat):mdN l k=⟨1,0,0⟩\/mdN l k=⟨-1,0,0⟩\/mdN l k=⟨0,1,0⟩\/mdN l k=⟨0,0,1⟩\/mdN l k=⟨0,0,-1⟩:=by
 unfold mdN;rcases mdS_cases l with h | h <;> rw [h] <;> split <;> (try split) <;> simp
theorem mdL_ok (l:List Int) (k:Nat):(mdL l k).Ok:=by
 have hp:=mdP_bd l k;have hl:=dr_bd l (12+2*k) (m:=20) aO;have hh:=dr_bd l (13+2*k) (m:=40) aO;have hlh:mdLo l k<=mdHi l k /\ -10000<=mdLo l k/\mdHi l k<=10000:=by unfold mdHi mdLo; omega
 have e1:(mdL l k).p=roll (nextV l 3) (mdP l k):=rfl;have e2:(mdL l k).n=roll (nextV l 3) (mdN l k):=rfl;have t1:roll (nextV l 3) (mdP l k)=mdP l k/\roll (nextV l 3) (mdN l k)=mdN l k\/roll (nextV l 3) (mdP l k)=⟨(mdP l k).z,(mdP l k).x,(mdP l k).y⟩/\roll (nextV l 3) (mdN l k)=⟨(mdN l k).z,(mdN l k).x,(mdN l k).y⟩\/roll (nextV l 3) (mdP l k)=⟨(mdP l k).y,(mdP l k).z,(mdP l k).x⟩/\roll (nextV l 3) (mdN l k)=⟨(mdN l k).y,(mdN l k).z,(mdN l k).x⟩:=by
  unfold roll; split
  ·exact .inl ⟨rfl,rfl⟩
  ·split
   ·exact .inr (.inl ⟨rfl,rfl⟩)
   ·exact .inr (.inr ⟨rfl,rfl⟩)
 rcases mdN_unit l k with hn | hn | hn | hn | hn <;> rw [hn] at t1 e2 <;> rcases t1 with ⟨a,b⟩ | ⟨a,b⟩ | ⟨a,b⟩ <;>
  exact ⟨by rw [e2,b]; simp,by rw [e2,b]; simp,by rw [e2,b]; simp,by rw [e1,a]; first | omega | (simp only []; omega),by rw [e1,a]; first | omega | (simp only []; omega),by rw [e1,a]; first | omega | (simp only []; omega),hlh,by rw [e2,b]; rfl⟩
theorem madeL_len (l:List Int):(madeL l).length=6:=by unfold madeL; simp
theorem madeL_ok (l:List Int):locE (madeL l)=0:=locE_zero.2 fun x hx=>by
 unfold madeL at hx;obtain ⟨k,_,rfl⟩:=List.mem_map.1 hx;exact mdL_ok l k
theorem madeL_at (l:List Int) {k:Nat} (hk:k<6):rAt (locM (madeL l)) k=locR (mdL l k):=by
 unfold rAt locM madeL;simp [hk]
theorem locR_sum {x:Loc} (h:x.Ok) (Z:Nat->Int):sumF (fun c=>iAt (locR x) c*Z c) 6=x.n.x*Z 0+x.n.y*Z 1+x.n.z*Z 2+(x.p.y*x.n.z - x.p.z*x.n.y)*Z 3+(x.p.z*x.n.x - x.p.x*x.n.z)*Z 4+(x.p.x*x.n.y - x.p.y*x.n.x)*Z 5:=by
 have e:=h.cross.1;simp only [sumF,locR,e,iAt,List.getD_cons_zero,List.getD_cons_succ,Int.zero_add]
def lsum (p n:V3) (a b c d e f:Int):Int:=n.x*a+n.y*b+n.z*c+(p.y*n.z - p.z*n.y)*d+(p.z*n.x - p.x*n.z)*e+(p.x*n.y - p.y*n.x)*f
theorem lsum_one (p n:V3) (a b c d e f:Int):lsum ⟨p.z,p.x,p.y⟩ ⟨n.z,n.x,n.y⟩ a b c d e f=lsum p n b c a e f d:=by
 unfold lsum; simp only []; grind
theorem lsum_two (p n:V3) (a b c d e f:Int):lsum ⟨p.y,p.z,p.x⟩ ⟨n.y,n.z,n.x⟩ a b c d e f=lsum p n c a b f d e:=by
 unfold lsum; simp only []; grind
theorem cancel_pos {a b:Int} (ha:0<a) (hab:a*b=0):b=0:=by
 rcases Int.mul_eq_zero.1 hab with h | h
 ·omega
 ·exact h
theorem lin_e {a x b c d e s:Int} (hs:s=1\/s=-1) (g0:s*c+b*s*d + -(a*s)*e=0) (g1:s*c+b*s*d + -((a+x)*s)*e=0):x*e=0:=by
 rcases hs with rfl | rfl <;> grind
theorem lin_f {a x u v b d f:Int} (hd:d=0) (g3:b + -u*d+a*f=0) (g4:b + -v*d+(a+x)*f=0):x*f=0:=by
 subst hd; grind
theorem base_zero (l:List Int) {a b c d e f:Int} (h:∀ k,k<6->lsum (mdP l k) (mdN l k) a b c d e f=0):a=0/\b=0/\c=0/\d=0/\e=0/\f=0:=by
 have h5:=dr_bd l 5 (m:=6) aO;have h6:=dr_bd l 6 (m:=6) aO;have g0:=h 0 aO;have g1:=h 1 aO;have g2:=h 2 aO;have g3:=h 3 aO;have g4:=h 4 aO;have g5:=h 5 aO;clear h;have hs:=mdS_cases l;simp [lsum,mdP,mdN] at g0 g1 g2 g3 g4 g5;generalize dr l 5 6=x at *;generalize dr l 6 6=y at *;generalize mdA l=A at *;generalize mdB l=B at *;generalize mdZ l=z at *;generalize dr l 7 5=w at *;generalize dr l 8 5=u at *;generalize dr l 9 5=v at *;generalize dr l 10 5=p at *;generalize dr l 11 5=q at *;generalize mdS l=s at *;have he:e=0:=cancel_pos (a:=1+x) aO (lin_e hs g0 g1);subst he;have hd:d=0:=cancel_pos (a:=1+y) aO (by
  have g0':s*c+B*s*d=0:=by simpa using g0
  have g2':s*c+(B+(1+y))*s*d=0:=by simpa using g2
  clear g0 g1 g2 g3 g4 g5;rcases hs with rfl | rfl <;> grind)
 have hf:f=0:=cancel_pos (a:=1+x) aO (lin_f hd g3 g4);subst hd;subst hf;simp at g0 g3 g5;rcases hs with rfl | rfl <;> refine ⟨?_,?_,?_,rfl,rfl,rfl⟩ <;> omega
theorem made_zero (l:List Int) (Z:Nat->Int) (h:∀ k,k<6->sumF (fun c=>iAt (locR (mdL l k)) c*Z c) 6=0):∀ c,c<6->Z c=0:=by
 have g:∀ k,k<6->lsum (roll (nextV l 3) (mdP l k)) (roll (nextV l 3) (mdN l k)) (Z 0) (Z 1) (Z 2) (Z 3) (Z 4) (Z 5)=0:=fun k hk=>(locR_sum (mdL_ok l k) Z).symm.trans (h k hk)
 have fin:Z 0=0/\Z 1=0/\Z 2=0/\Z 3=0/\Z 4=0/\Z 5=0:=by
  unfold roll at g;split at g
  ·exact base_zero l g
  ·split at g
   ·obtain ⟨a,b,c,d,e,f⟩:=base_zero l fun k hk=>(lsum_one (mdP l k) (mdN l k) _ _ _ _ _ _).symm.trans (g k hk)
    exact ⟨c,a,b,f,d,e⟩
   ·obtain ⟨a,b,c,d,e,f⟩:=base_zero l fun k hk=>(lsum_two (mdP l k) (mdN l k) _ _ _ _ _ _).symm.trans (g k hk)
    exact ⟨b,c,a,e,f,d⟩
 intro c hc
 match c,hc with
 | 0,_=>exact fin.1
 | 1,_=>exact fin.2.1
 | 2,_=>exact fin.2.2.1
 | 3,_=>exact fin.2.2.2.1
 | 4,_=>exact fin.2.2.2.2.1
 | 5,_=>exact fin.2.2.2.2.2
theorem made_rank (l:List Int):rankZ (locM (madeL l))=6:=by
 have hn:=madeL_len l;have h0:madeL l≠[]:=fun h=>by rw [h] at hn; simp at hn
 have hk:=check_locM (madeL_ok l) aO h0;have hc:=cols_locM h0;have hle:=(rankZ_le hk).1;rw [hc] at hle;refine Classical.byContradiction fun hne=>?_
 have hlt:kernF (locM (madeL l))<cols (locM (madeL l)):=(rank_kern hk).2 aO;obtain ⟨x,_,hz⟩:=kern_all hk;have q:=hz hlt;have:=made_zero l (fun c=>iAt (wholeZ (kernQ x (kernF (locM (madeL l)))) (cols (locM (madeL l))) (cols (locM (madeL l)))) c) (fun k hk6=>by
  have:=q.rows k (by rw [locM_len,hn]; exact hk6);rw [madeL_at l hk6] at this;rw [hc] at this ⊢;exact this) (kernF (locM (madeL l))) (by rw [hc] at hlt; exact hlt)
 have:=q.pos;omega
theorem made_C (l:List Int):locC (madeL l)=0:=by
 unfold locC;rw [if_pos (madeL_len l),if_pos (madeL_ok l),if_neg (by rw [made_rank l]; omega)]
end Go.Proofs.YtflolbnnkbdmfaaGreat
namespace Go.Proofs.YtflolbnnkbdmfaaGreat
def shiftC (t a b:QI) (x y:Int):QI:=addQ t (subQ (mulQ a (x,1)) (mulQ b (y,1)))
structure SmShift (t a b:QI) (x y:Int):Prop where
 ht:SmQ t
 ha:SmQ a
 hb:SmQ b
 p:SmQ (mulQ a (x,1))
 q:SmQ (mulQ b (y,1))
 d:SmQ (subQ (mulQ a (x,1)) (mulQ b (y,1)))
 s:SmQ (shiftC t a b x y)
def shiftQ (x:Nat->QI) (v:V3):Nat->QI
 | 0=>shiftC (x 0) (x 4) (x 5) v.z v.y
 | 1=>shiftC (x 1) (x 5) (x 3) v.x v.z
 | _=>shiftC (x 2) (x 3) (x 4) v.y v.x
structure SmShifts (x:Nat->QI) (v:V3):Prop where
 c0:SmShift (x 0) (x 4) (x 5) v.z v.y
 c1:SmShift (x 1) (x 5) (x 3) v.x v.z
 c2:SmShift (x 2) (x 3) (x 4) v.y v.x
theorem add_same {a b D:Int} (hD:D≠0):addQ (toQ a D) (toQ b D)=toQ (a+b) D:=by
 rw [add_toQ hD hD];exact toQ_eq (Int.mul_ne_zero hD hD) hD (by grind)
theorem sub_same {a b D:Int} (hD:D≠0):subQ (toQ a D) (toQ b D)=toQ (a - b) D:=by
 rw [sub_toQ hD hD];exact toQ_eq (Int.mul_ne_zero hD hD) hD (by grind)
theorem mul_int {a D:Int} (k:Int) (hD:D≠0):mulQ (toQ a D) (k,1)=toQ (a*k) D:=by
 rw [<- toQ_one k,mul_toQ hD aO,Int.mul_one]
theorem int_mul {a D:Int} (k:Int) (hD:D≠0):mulQ (k,1) (toQ a D)=toQ (k*a) D:=by
 rw [<- toQ_one k,mul_toQ aO hD,Int.one_mul]
theorem shiftC_toQ {T A B D:Int} (hD:D≠0) (x y:Int):shiftC (toQ T D) (toQ A D) (toQ B D) x y=toQ (T+(A*x - B*y)) D:=by
 unfold shiftC;rw [mul_int x hD,mul_int y hD,sub_same hD,add_same hD]
theorem abs_mul24 {a x:Int} {n:Nat} (ha:a.natAbs<n) (h1:-24<=x) (h2:x<=24):(a*x).natAbs<=n*24:=by
 rw [Int.natAbs_mul];exact Nat.mul_le_mul (Nat.le_of_lt ha) aO
theorem p_310:2^300*49<2^310:=by decide +kernel
theorem p_310s:2^310<2^1000:=by decide +kernel
theorem p_310a:2^300<2^310:=by decide +kernel
theorem sm_310 {z:Int} (h:z.natAbs<2^310):Sm z:=Nat.lt_trans h p_310s
theorem sm_shift {T A B D:Int} (hD:D≠0) (hd:D.natAbs<2^300) (hT:T.natAbs<2^300) (hA:A.natAbs<2^300) (hB:B.natAbs<2^300) {x y:Int} (hx:-24<=x/\x<=24) (hy:-24<=y/\y<=24):SmShift (toQ T D) (toQ A D) (toQ B D) x y:=by
 have e1:=abs_mul24 hA hx.1 hx.2;have e2:=abs_mul24 hB hy.1 hy.2;have hp:=p_310;have hDs:Sm D:=sm_310 (Nat.lt_trans hd p_310a);have k:∀ z:Int,z.natAbs<=2^300*49->SmQ (toQ z D):=fun z hz=>toQ_sm hD (sm_310 (Nat.lt_of_le_of_lt hz hp)) hDs
 generalize 2^300=n at *;refine ⟨k _ aO,k _ aO,k _ aO,?_,?_,?_,?_⟩
 ·rw [mul_int x hD]; exact k _ aO
 ·rw [mul_int y hD]; exact k _ aO
 ·rw [mul_int x hD,mul_int y hD,sub_same hD]; exact k _ aO
 ·rw [shiftC_toQ hD]; exact k _ aO
def shN (N:Nat->Int) (v:V3):Nat->Int
 | 0=>N 0+(N 4*v.z - N 5*v.y)
 | 1=>N 1+(N 5*v.x - N 3*v.z)
 | _=>N 2+(N 3*v.y - N 4*v.x)
theorem shift_toQ {x:Nat->QI} {N:Nat->Int} {D:Int} (hD:D≠0) (he:∀ c,x c=toQ (N c) D) (v:V3) (i:Nat):shiftQ x v i=toQ (shN N v i) D:=by
 match i with
 | 0=>show shiftC _ _ _ _ _=_; rw [he,he,he,shiftC_toQ hD]; rfl
 | 1=>show shiftC _ _ _ _ _=_; rw [he,he,he,shiftC_toQ hD]; rfl
 | n+2=>show shiftC _ _ _ _ _=_; rw [he,he,he,shiftC_toQ hD]; rfl
theorem shifts_sm {x:Nat->QI} {N:Nat->Int} {D:Int} (hD:D≠0) (hd:D.natAbs<2^300) (hN:∀ c,(N c).natAbs<2^300) (he:∀ c,x c=toQ (N c) D) {v:V3} (hv:vIn v=true):SmShifts x v:=by
 simp only [vIn,Bool.and_eq_true,inB_iff] at hv;refine ⟨?_,?_,?_⟩ <;> rw [he,he,he]
 ·exact sm_shift hD hd (hN _) (hN _) (hN _) hv.2.2 hv.2.1
 ·exact sm_shift hD hd (hN _) (hN _) (hN _) hv.1 hv.2.2
 ·exact sm_shift hD hd (hN _) (hN _) (hN _) hv.2.1 hv.1
theorem own_shift {l:Loc} (h:l.Ok) (N:Nat->Int):l.n.x*shN N l.p 0+l.n.y*shN N l.p 1+l.n.z*shN N l.p 2=sumF (fun c=>iAt (locR l) c*N c) 6:=by
 rw [locR_sum h];simp only [shN];grind
end Go.Proofs.YtflolbnnkbdmfaaGreat
