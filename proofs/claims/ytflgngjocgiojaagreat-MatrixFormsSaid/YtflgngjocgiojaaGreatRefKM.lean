import Derived.Test.YtflgngjocgiojaaGreatSan5a
set_option linter.all false
namespace Go.Proofs.YtflgngjocgiojaaGreat
open Go.RowKit
theorem infoI:(Tryz.prog.info? 3).map (fun i=>(i.zero,i.size,i.bytes))=some (some (.int .i64 0),1,8):=aK
theorem infoIs:(Tryz.prog.info? 22).map (fun i=>(i.zero,i.size,i.bytes))=some (some (.slice none 0 0),1,24):=aK
def encI (l:List Int):List Value:=l.map (Value.int .i64)
theorem encI_at {l:List Int} {i:Nat} (h:i<l.length):(encI l)[i]?=some (.int .i64 (iAt l i)):=by
 unfold encI iAt;rw [List.getElem?_map,Ze,List.getElem?_eq_getElem h]; rfl
theorem encI_snoc (l:List Int) (x:Int):encI l++[.int .i64 x]=encI (l++[x]):=by unfold encI; rw [List.map_append]; rfl
theorem encI_one (l:List Int):∀ u∈encI l,u.oneCell'=true:=fun u hu=>by
 obtain ⟨d,_,rfl⟩:=List.mem_map.1 hu;rfl
theorem encI_len (l:List Int):(encI l).length=l.length:=by unfold encI; rw [List.length_map]
theorem ints_of_row {W:World} {base:Nat} {v:Value} {l:List Int} {n:Nat} (h:W.ownsRow base 3 1 v n (encI l)) (hn:l.length=n) (hI:I64L l):∃ A c,v = .slice A n c/\n<=c/\c<=9223372036854775807/\IntsAt W A n l/\(∀ b off,A=some ⟨b,off,none⟩->off=0/\base<=b/\b<W.heap.size/\v.ownBlock=some b):=by
 rcases h.2 with ⟨rfl,h0⟩ | ⟨g,cap,cur,rfl,h1,h2,h3,h4,h5,h6⟩
 ·subst h0;exact ⟨none,0,rfl,Zr _,aO,⟨hn,hI,fun h=>absurd h (Nat.lt_irrefl 0)⟩,fun b off e=>by cases e⟩
 ·have hg:g<W.heap.size:=by
   rcases Nat.lt_or_ge g W.heap.size with h | h
   ·exact h
   ·rw [Array.getElem?_eq_none h] at h2; cases h2
  unfold maxLen at h4;refine ⟨some ⟨g,0,none⟩,cap,rfl,h3,h4,⟨hn,hI,fun h0=>⟨g,0,rfl,hg,fun i hi=>?_⟩⟩,fun b off e=>by cases e; exact ⟨rfl,h1,hg,rfl⟩⟩;have q:=(ownsRow_cell (xs:=encI l) (size:=1) (e:=3) ⟨h.1,.inr ⟨g,cap,cur,rfl,h1,h2,h3,h4,h5,h6⟩⟩ h0).2.2.2.2 i aO;rw [Nat.zero_add,q];exact encI_at aO
def RowsW (X:Nat->Prop) (w:World) (xs:List Value) (M:List (List Int)):Prop:=xs.length=M.length/\∀ i,i<M.length->∃ B m c,xs[i]?=some (.slice B m c)/\m<=c/\c<=9223372036854775807/\(∀ b off,B=some ⟨b,off,none⟩->b<w.heap.size/\X b)/\IntsAt w B m (rAt M i)
theorem IntsAt.same {w w':World} {A:Option Addr} {n:Nat} {l:List Int} (h:IntsAt w A n l) (hs:w.heap.size<=w'.heap.size) (hk:∀ b off,A=some ⟨b,off,none⟩->w'.heap[b]?=w.heap[b]?):IntsAt w' A n l:=
 ⟨h.len,h.ok,fun h0=>by
  obtain ⟨b,off,e,hlt,hc⟩:=h.row h0;exact ⟨b,off,e,Zl hlt hs,fun i hi=>(Zc (w:=w) (a:=⟨b,off+i,none⟩) (hk b off e)).trans (hc i hi)⟩⟩
theorem RowsW.move {X Y:Nat->Prop} {w w':World} {xs:List Value} {M:List (List Int)} (h:RowsW X w xs M) (hs:w.heap.size<=w'.heap.size) (hk:∀ b,b<w.heap.size->X b->w'.heap[b]?=w.heap[b]?/\Y b):RowsW Y w' xs M:=
 ⟨h.1,fun i hi=>by
  obtain ⟨B,m,c,h1,h2,h3,h4,h5⟩:=h.2 i hi;exact ⟨B,m,c,h1,h2,h3,fun b off e=>⟨Zl (h4 b off e).1 hs,(hk b (h4 b off e).1 (h4 b off e).2).2⟩,h5.same hs fun b off e=>(hk b (h4 b off e).1 (h4 b off e).2).1⟩⟩
theorem RowsW.below {X:Nat->Prop} {w w':World} {xs:List Value} {M:List (List Int)} (h:RowsW X w xs M) (hb:Below w.heap.size w w'):RowsW X w' xs M:=h.move hb.size fun b hlt hX=>⟨hb.block b hlt,hX⟩
theorem RowsW.nil (X:Nat->Prop) (w:World):RowsW X w [] []:=⟨rfl,fun i h=>absurd h (Nat.not_lt_zero i)⟩
theorem rAt_at {M:List (List Int)} {l:List Int} {i:Nat} (hi:i<(M++[l]).length):(i<M.length/\rAt (M++[l]) i=rAt M i)\/(i=M.length/\rAt (M++[l]) i=l):=rAt_snoc hi
theorem RowsW.snoc {X:Nat->Prop} {w:World} {xs:List Value} {M:List (List Int)} {B:Option Addr} {m c:Nat} {l:List Int} (h:RowsW X w xs M) (h1:m<=c) (h2:c<=9223372036854775807) (hb:∀ b off,B=some ⟨b,off,none⟩->b<w.heap.size/\X b) (h3:IntsAt w B m l):RowsW X w (xs++[.slice B m c]) (M++[l]):=
 ⟨by simp [h.1],fun i hi=>by
  rcases rAt_at hi with ⟨h4,h5⟩ | ⟨h4,h5⟩
  ·rw [h5,List.getElem?_append_left (by rw [h.1]; exact h4)];exact h.2 i h4
  ·rw [h5,h4,<- h.1,List.getElem?_append_right (Zr _),Nat.sub_self];exact ⟨B,m,c,rfl,h1,h2,hb,h3⟩⟩
theorem RowsW.one {X:Nat->Prop} {w:World} {xs:List Value} {M:List (List Int)} (h:RowsW X w xs M):∀ u∈xs,u.oneCell'=true:=fun u hu=>by
 obtain ⟨i,hi,rfl⟩:=List.getElem_of_mem hu;obtain ⟨B,m,c,e,_⟩:=h.2 i (by rw [<- h.1]; exact hi);rw [List.getElem?_eq_getElem hi] at e;injection e with e
 rw [e]; rfl
theorem rows_of_row {W:World} {base:Nat} {X:Nat->Prop} {v:Value} {M:List (List Int)} {n:Nat} {xs:List Value} (h:W.ownsRow base 22 1 v n xs) (hr:RowsW X W xs M) (hn:M.length=n):∃ A c,v = .slice A n c/\n<=c/\c<=9223372036854775807/\RowsAt W A n M/\(0<n->∃ g,A=some ⟨g,0,none⟩/\base<=g/\g<W.heap.size):=by
 rcases h.2 with ⟨rfl,h0⟩ | ⟨g,cap,cur,rfl,h1,h2,h3,h4,h5,h6⟩
 ·subst h0;exact ⟨none,0,rfl,Zr _,aO,⟨hn,fun h=>absurd h (Nat.lt_irrefl 0)⟩,fun h=>absurd h (Nat.lt_irrefl 0)⟩
 ·have hg:g<W.heap.size:=by
   rcases Nat.lt_or_ge g W.heap.size with h | h
   ·exact h
   ·rw [Array.getElem?_eq_none h] at h2; cases h2
  unfold maxLen at h4;refine ⟨some ⟨g,0,none⟩,cap,rfl,h3,h4,⟨hn,fun h0=>⟨g,0,rfl,hg,fun i hi=>?_⟩⟩,fun _=>⟨g,rfl,h1,hg⟩⟩;obtain ⟨B,m,c,e1,e2,e3,_,e5⟩:=hr.2 i aO;have q:=(ownsRow_cell (xs:=xs) (size:=1) (e:=22) ⟨h.1,.inr ⟨g,cap,cur,rfl,h1,h2,h3,h4,h5,h6⟩⟩ h0).2.2.2.2 i aO;exact ⟨B,m,c,by rw [Nat.zero_add,q]; exact e1,e2,e3,e5⟩
def OwnRows (base:Nat) (w:World) (v:Value) (M:List (List Int)):Prop:=∃ xs,w.ownsRow base 22 1 v M.length xs/\RowsW (fun b=>base<=b/\some b≠v.ownBlock) w xs M
def cellsI (l:List Int):Array Value:=(encI l).toArray
theorem cellsI_at {l:List Int} {i:Nat} (h:i<l.length):(cellsI l)[i]?=some (.int .i64 (iAt l i)):=by
 unfold cellsI;rw [List.getElem?_toArray];exact encI_at h
theorem cellsI_set (l:List Int) (i:Nat) (x:Int):(cellsI l).setIfInBounds i (.int .i64 x)=cellsI (l.set i x):=by
 unfold cellsI encI;rw [List.setIfInBounds_toArray,List.map_set]
theorem iAt_set {l:List Int} {i j:Nat} {x:Int} (hi:i<l.length):iAt (l.set i x) j=if j=i then x else iAt l j:=by
 unfold iAt;simp only [Ze,List.getElem?_set]
 by_cases e:i=j
 ·subst e; simp [hi]
 ·rw [if_neg e,if_neg (fun h=>e h.symm)]
theorem iAt_rep {n i:Nat}:iAt (List.replicate n 0) i=0:=by
 unfold iAt;rw [Ze,List.getElem?_replicate];split <;> rfl
theorem make_ints (n:Nat) (h:n<=100000) (w:World):(Instr.makeSlice 22 (.int .i64 (n:Nat)) (.int .i64 (n:Nat))).run Tryz.prog w = .ok (.slice (some ⟨w.heap.size,0,none⟩) n n) (w.alloc (.cells (cellsI (List.replicate n 0)) 3)):=by
 obtain ⟨i,hi,hz,hs,hb⟩:=info_parts infoI;have q:=run_make (P:=Tryz.prog) w 22 3 i (.int .i64 0) aK hi hz .i64 .i64 n n aO (Int.le_refl _) (by rw [hb]; omega) aO;rw [hs] at q;simp only [Int.toNat_natCast] at q;have e:madeCells (Value.int .i64 0).cells (n*1)=cellsI (List.replicate n 0):=by
  unfold madeCells cellsI encI;apply Array.ext
  ·simp
  ·intro i h1 h2;simp [Value.cells,Nat.mod_one]
 rw [e] at q;exact q
theorem Own.ints {W:World} {b n:Nat} {l:List Int} (h:Own W b (cellsI l)) (hn:l.length=n) (hI:I64L l):IntsAt W (some ⟨b,0,none⟩) n l:=
 ⟨hn,hI,fun _=>⟨b,0,rfl,h.lt,fun i hi=>by rw [Nat.zero_add,h.cell]; exact cellsI_at aO⟩⟩
def BdI (B:Int) (l:List Int):Prop:=∀ i,-B<=iAt l i/\iAt l i<=B
theorem BdI.set {B:Int} {l:List Int} (h:BdI B l) {i:Nat} {x:Int} (hi:i<l.length) (hx:-B<=x/\x<=B):BdI B (l.set i x):=fun j=>by
 rw [iAt_set hi];split
 ·exact hx
 ·exact h j
theorem BdI.rep {B:Int} (h:0<=B) (n:Nat):BdI B (List.replicate n 0):=fun j=>by rw [iAt_rep]; omega
theorem BdI.i64 {B:Int} {l:List Int} (h:BdI B l) (hB:B<=1000000000000):I64L l:=fun i _=>by have:=h i; omega
theorem BdI.mono {B C:Int} {l:List Int} (h:BdI B l) (hB:B<=C):BdI C l:=fun i=>by have:=h i; omega
def blen (M:Nat):Nat:=if M=0 then 0 else M.log2+1
theorem blen_zero:blen 0=0:=rfl
theorem blen_eq {M L:Nat} (h1:2^L<=M) (h2:M<2^(L+1)):blen M=L+1:=by
 have h0:M≠0:=by have:=Nat.two_pow_pos L; omega
 unfold blen;rw [if_neg h0,(Nat.log2_eq_iff h0).2 ⟨h1,h2⟩]
theorem blen_lt (M:Nat):M<2^blen M:=by
 unfold blen;split
 ·rename_i h; subst h; exact Nat.two_pow_pos 0
 ·rename_i h; exact ((Nat.log2_eq_iff h).1 rfl).2
theorem blen_le {M:Nat} (h:0<M):0<blen M/\2^(blen M - 1)<=M:=by
 have h0:M≠0:=aO
 unfold blen;rw [if_neg h0];exact ⟨aO,((Nat.log2_eq_iff h0).1 rfl).1⟩
theorem blen_top {M n j:Nat} (hn:(digs M).length=n+1) (h1:2^j<=dAt (digs M) n) (h2:dAt (digs M) n<2^(j+1)):blen M=32*n+j+1:=by
 have e:=vD_split (digs M) n aO;have hd:(digs M).drop (n+1)=[]:=List.drop_of_length_le aO;rw [hd,vD_nil,digs_val,Nat.mul_zero,Nat.add_zero] at e;have h3:=vD_lt ((digs_dg M).take n);rw [List.length_take,Nat.min_eq_left aO] at h3;have ep:(4294967296:Nat)^n=2^(32*n):=by rw [Nat.pow_mul]
 rw [ep] at e h3;generalize dAt (digs M) n=d at *;generalize vD ((digs M).take n)=v at *;refine blen_eq ?_ ?_
 ·rw [Nat.pow_add];have:=Nat.mul_le_mul_left (2^(32*n)) h1;omega
 ·rw [Nat.add_assoc,Nat.pow_add];have:=Nat.mul_le_mul_left (2^(32*n)) (show d+1<=2^(j+1) by omega);rw [Nat.mul_add] at this;omega
theorem blen_digs {M n:Nat} (hn:(digs M).length<=n):blen M<=32*n:=by
 have h1:=digs_len.1 hn;rcases Nat.eq_zero_or_pos M with h | h
 ·subst h; simp [blen]
 ·obtain ⟨h2,h3⟩:=blen_le h;apply Classical.byContradiction;intro hc;have h4:=Nat.pow_le_pow_right (n:=2) aO (show 32*n<=blen M - 1 by omega);have ep:(4294967296:Nat)^n=2^(32*n):=by rw [Nat.pow_mul]
  omega
set_option maxRecDepth 100000 in
set_option maxHeartbeats 4000000 in
theorem ref1_length {w:World} {A:Option Addr} {n M:Nat} (c:Nat) (hv:DigsAt w A n (digs M)) (hn:n<=2000) :
 Calls Tryz.prog 138 #[.slice A n c] w fun r w'=>r = .returned (.int .i64 (blen M))/\Below w.heap.size w w':=by
 obtain ⟨o,ho⟩:=Zx (blen M);rw [ho];have hl:=hv.len;have hw:=Zb w.heap.size w;rcases Nat.eq_zero_or_pos n with h0 | h0
 ·subst h0;have e:M=0:=digs_nil.1 (List.eq_nil_of_length_eq_zero hl);subst e;have e2:o=0:=ho.symm;subst e2;clear ho hl hv;go_enter Tryz.func138,Tryz.ntmps138;go_wp2;go_ret;exact ⟨rfl,hw⟩
 ·obtain ⟨m,rfl⟩:∃ m,n=m+1:=⟨n - 1,aO⟩;obtain ⟨t,ht⟩:=Zx (dAt (digs M) m);obtain ⟨b,off,hA,hb,a1⟩:=hv.cells (show m<m+1 by omega) ht;subst hA;have ht1:t<4294967296:=by rw [<- ht]; exact hv.dg.at_ m
  have htp:0<t:=by
   have hc:=digs_canon M (fun e=>by rw [e] at hl; simp at hl);rw [List.getLast_eq_getElem,dAt_in] at hc;rw [hl,Nat.add_sub_cancel,ht] at hc;omega
  have HE:Hid (∀ j,2^j<=t->t<2^(j+1)->o=32*m+j+1):=Zh (fun j h1 h2=>by
   rw [<- ho]; exact blen_top hl (by rw [ht]; exact h1) (by rw [ht]; exact h2))
  have hmi:(m:Int)<=2000:=aO
  have h0i:¬ ((m:Int)+1=0):=aO
  have em:((m+1:Nat):Int) - 1=(m:Int):=aO
  have ml:(m:Int)<((m+1:Nat):Int):=aO
  obtain ⟨N,hN⟩:=Zx (m+1);rw [hN] at em ml ⊢;have hNi:¬ (N:Int)=0:=aO
  have HTP:=Zh htp;clear ht hv ho hl hN;go_enter Tryz.func138,Tryz.ntmps138;go_wp2;go_loopw [3,4] (fun i x wr=>∃ j:Nat,j<=33/\i = .int .i64 (32*(m:Int)+j)/\x = .int .u32 (t / 2^j:Nat)/\(0<j->2^(j - 1)<=t)/\Below w.heap.size w wr) (fun i _ _=>40 - (intOf i - 32*(m:Int)).toNat)
  case atStart=>exact ⟨0,aO,aS,aS,fun h=>aO,hw⟩
  case round =>
   clear hw;obtain ⟨j,hj,rfl,rfl,hpos,hw⟩:=hrel;have HPOS:=Zh hpos;clear hpos;obtain ⟨x,hx⟩:=Zx (t / 2^j);rw [hx];have hx1:x<4294967296:=by rw [<- hx]; exact Nat.lt_of_le_of_lt (Nat.div_le_self _ _) ht1
   by_cases hx0:x=0
   ·subst hx0;have hj0:0<j:=by
     apply Classical.byContradiction;intro h;obtain rfl:j=0:=aO
     have:=HTP.out;simp at hx;omega
    have hlt:t<2^j:=by
     rcases Nat.lt_or_ge t (2^j) with h | h
     ·exact h
     ·have:=Nat.div_pos h (Nat.two_pow_pos j); omega
    have e:=HE.out (j - 1) (HPOS.out hj0) (by rw [show j - 1+1=j by omega]; exact hlt);have e2:(32*(m:Int)+j)=(o:Int):=aO
    rw [e2];clear e2 e hlt hx HE;go_wp2;go_ret;exact ⟨rfl,hw⟩
   ·have hxp:(0:Int)<(x:Int):=aO
    have hle:2^j<=t:=by
     rcases Nat.lt_or_ge t (2^j) with h | h
     ·rw [Nat.div_eq_of_lt h] at hx; omega
     ·exact h
    have hj32:j<32:=by
     rcases Nat.lt_or_ge j 32 with h | h
     ·exact h
     ·have:=Nat.pow_le_pow_right (n:=2) aO h; omega
    obtain ⟨y,hy⟩:=Zx (t / 2^(j+1));have hxy:x / 2=y:=by rw [<- hx,<- hy,Nat.pow_succ,Nat.div_div_eq_div_mul]
    have hxyi:(x:Int) / 2=(y:Int):=aO
    have HH:=Zh (Zi hle hy);clear hx hle hy hx0 HE HPOS;go_wp2;go_roundw
    case rel=>exact ⟨j+1,aO,by congr 1 <;> omega,by rw [HH.out.2],fun _=>HH.out.1,hw⟩
    case measure=>simp [intOf]; omega
def encR (R:List Nat):List Value:=R.map fun d=>Value.int .u32 ((d:Nat):Int)
structure GrowD (w:World) (base:Nat) (v:Value) (k:Nat) (R:List Nat):Prop where
 row:w.ownsRow base 97 1 v k (encR R)
 len:R.length=k
 dg:Dg R
theorem GrowD.start (w:World) (base:Nat):GrowD w base (.slice none 0 0) 0 []:=⟨⟨rfl,.inl ⟨rfl,rfl⟩⟩,rfl,Dg.nil⟩
theorem encR_at {R:List Nat} {i:Nat} (h:i<R.length):(encR R)[i]?=some (.int .u32 (dAt R i:Nat)):=by
 unfold encR;rw [List.getElem?_map,List.getElem?_eq_getElem h,dAt_in h]; rfl
theorem GrowD.slice {w:World} {base:Nat} {v:Value} {k:Nat} {R:List Nat} (h:GrowD w base v k R):∃ A c,v = .slice A k c/\k<=c/\c<=9223372036854775807/\DigsAt w A k R/\(0<k->∃ g,A=some ⟨g,0,none⟩/\base<=g/\g<w.heap.size):=by
 rcases Nat.eq_zero_or_pos k with h0 | h0
 ·subst h0;obtain ⟨h1,h2⟩:=h.row;have hR:R=[]:=List.eq_nil_of_length_eq_zero h.len;subst hR;rcases h2 with ⟨rfl,_⟩ | ⟨g,cap,cur,e1,e2,e3,e4,e5,e6,e7⟩
  ·exact ⟨none,0,rfl,Zr _,aO,DigsAt.nil _ _,fun h=>aO⟩
  ·exact ⟨_,cap,e1,e4,by unfold maxLen at e5; omega,DigsAt.nil _ _,fun h=>aO⟩
 ·have h9:∃ g cap,v = .slice (some ⟨g,0,none⟩) k cap:=by
   rcases h.row.2 with ⟨_,e2⟩ | ⟨g,cap,cur,e1,_⟩
   ·omega
   ·exact ⟨g,cap,e1⟩
  obtain ⟨g,cap,rfl⟩:=h9;obtain ⟨a1,a2,a3,a4,a5⟩:=ownsRow_cell h.row h0;refine ⟨_,cap,rfl,a3,by unfold maxLen at a4; omega,⟨h.len,h.dg,fun _=>⟨g,0,rfl,a2,fun i hi=>?_⟩⟩,fun _=>⟨g,rfl,a1,a2⟩⟩;rw [Nat.zero_add,a5 i aO,encR_at (by rw [h.len]; exact hi)]
theorem GrowD.below {w w':World} {base:Nat} {v:Value} {k:Nat} {R:List Nat} (h:GrowD w base v k R) (hb:Below w.heap.size w w'):GrowD w' base v k R:=⟨ownsRow_stay h.row hb,h.len,h.dg⟩
theorem encR_snoc (R:List Nat) (r:Nat):encR R++[.int .u32 (r:Nat)]=encR (R++[r]):=by unfold encR; rw [List.map_append]; rfl
def NewR (w:World) (N:Nat) (e:Ending) (w':World):Prop:=∃ b C,e = .returned (.slice (some ⟨b,0,none⟩) (digs N).length C)/\(digs N).length<=C/\C<=9223372036854775807/\DigsAt w' (some ⟨b,0,none⟩) (digs N).length (digs N)/\w.heap.size<=b/\b<w'.heap.size
theorem NewR.of {w w':World} {D:List Nat} {n N C b:Nat} (h:DigsAt w' (some ⟨b,0,none⟩) n D) (hn:n<=C) (hC:C<=9223372036854775807) (hN:vD D=N) (h1:w.heap.size<=b) (h2:b<w'.heap.size):NewR w N (.returned (.slice (some ⟨b,0,none⟩) (trimN D n) C)) w':=by
 have hl:=trimN_le D n;have e:=trim_len h.dg h.len;have e2:=trim_digs h.dg;unfold trimL at e2;rw [h.len] at e2;subst hN;have ht:=h.take hl;rw [e2] at ht;rw [e] at ht hl ⊢;exact ⟨b,C,rfl,aO,hC,ht,h1,h2⟩
theorem without_step (D:List Nat) (h:Dg D) (k s:Nat) (hs:s<32):(dAt D k+dAt D (k+1)*4294967296) / 2^s%4294967296=vD D / 2^(32*k+s)%4294967296:=by
 rw [dAt_div D h,dAt_div D h];generalize vD D=M;have e1:(4294967296:Nat)^k=2^(32*k):=by rw [Nat.pow_mul]
 have e3:M / 2^(32*k+s)=M / 4294967296^k / 2^s:=by rw [Nat.div_div_eq_div_mul,e1,<- Nat.pow_add]
 have e4:M / 4294967296^(k+1)=M / 4294967296^k / 4294967296:=by rw [Nat.div_div_eq_div_mul,<- Nat.pow_succ]
 rw [e3,e4];generalize M / 4294967296^k=X;have e5:X%4294967296+X / 4294967296%4294967296*4294967296=X%(4294967296*4294967296):=by rw [Nat.mod_mul,Nat.mul_comm (X / 4294967296%4294967296)]
 have e6:(4294967296*4294967296:Nat)=2^s*(4294967296*2^(32 - s)):=by
  have:(4294967296:Nat)=2^s*2^(32 - s):=by rw [<- Nat.pow_add,show s+(32 - s)=32 by omega]
  have e:2^s*(4294967296*2^(32 - s))=4294967296*(2^s*2^(32 - s)):=by rw [Nat.mul_left_comm]
  rw [e,<- this]
 rw [e5,e6,Nat.mod_mul_right_div_self,Nat.mod_mul_right_mod]
theorem mod_snoc (Y j r:Nat) (h:Y / 4294967296^j%4294967296=r):Y%4294967296^(j+1)=Y%4294967296^j+4294967296^j*r:=by
 rw [Nat.pow_succ,Nat.mod_mul,h]
end Go.Proofs.YtflgngjocgiojaaGreat
namespace Go.Proofs.YtflgngjocgiojaaGreat
theorem mod_dig (M j:Nat):M%4294967296^(j+1)=M%4294967296^j+4294967296^j*dAt (digs M) j:=mod_snoc M j _ (by rw [dAt_div _ (digs_dg M),digs_val])
theorem mod_all {M n:Nat} (h:(digs M).length<=n):M%4294967296^n=M:=Nat.mod_eq_of_lt (digs_len.1 h)
theorem vD_app (R:List Nat) (r:Nat) {j:Nat} (h:R.length=j):vD (R++[r])=vD R+4294967296^j*r:=by rw [vD_snoc,h]
theorem two_step {R:List Nat} {M j b b0 r b':Nat} (hR:R.length=j) (hv:vD R+4294967296^j*b=2*(M%4294967296^j)+b0) (hs:2*dAt (digs M) j+b=r+4294967296*b'):vD (R++[r])+4294967296^(j+1)*b'=2*(M%4294967296^(j+1))+b0:=by
 rw [vD_app R r hR,mod_dig,Nat.pow_succ];have e:=congrArg (4294967296^j*·) hs;simp only [Nat.mul_add] at e;rw [Nat.mul_assoc,Nat.mul_add,<- Nat.mul_assoc 2,Nat.mul_comm 2 (4294967296^j),Nat.mul_assoc];omega
theorem plus_step {R:List Nat} {M N j c r c':Nat} (hR:R.length=j) (hv:vD R+4294967296^j*c=M%4294967296^j+N%4294967296^j) (hs:c+dAt (digs M) j+dAt (digs N) j=r+4294967296*c'):vD (R++[r])+4294967296^(j+1)*c'=M%4294967296^(j+1)+N%4294967296^(j+1):=by
 rw [vD_app R r hR,mod_dig,mod_dig,Nat.pow_succ];have e:=congrArg (4294967296^j*·) hs;simp only [Nat.mul_add] at e;rw [Nat.mul_assoc];omega
theorem minus_step {R:List Nat} {M N j c r c':Nat} (hR:R.length=j) (hv:vD R+N%4294967296^j=M%4294967296^j+4294967296^j*c) (hs:r+dAt (digs N) j+c=dAt (digs M) j+4294967296*c'):vD (R++[r])+N%4294967296^(j+1)=M%4294967296^(j+1)+4294967296^(j+1)*c':=by
 rw [vD_app R r hR,mod_dig,mod_dig,Nat.pow_succ];have e:=congrArg (4294967296^j*·) hs;simp only [Nat.mul_add] at e;rw [Nat.mul_assoc];omega
theorem minus_end {R:List Nat} {M N n c:Nat} (hR:R.length=n) (hd:Dg R) (h1:(digs M).length<=n) (h2:(digs N).length<=n) (hle:N<=M) (hv:vD R+N%4294967296^n=M%4294967296^n+4294967296^n*c):vD R=M - N:=by
 rw [mod_all h1,mod_all h2] at hv;have h3:=vD_lt hd;rw [hR] at h3;rcases Nat.eq_zero_or_pos c with h | h
 ·subst h; omega
 ·have:=Nat.mul_le_mul_left (4294967296^n) h;omega
theorem half_word (d:Nat) (hd:d<4294967296) (b:Nat) (hb:b<=1):2*d+b=(d*2%4294967296+b)+4294967296*(d / 2147483648)/\d*2%4294967296+b<4294967296/\d / 2147483648<=1:=aO
theorem quo_step (M N k:Nat) (hN:0<N):let X:=M / 2^(k+1); let Y:=M / 2^k; let r:=2*(X%N)+M / 2^k%2
 (N<=r->Y%N=r - N/\Y / N=2*(X / N)+1)/\(r<N->Y%N=r/\Y / N=2*(X / N)):=by
 intro X Y r;have hX:X=Y / 2:=by show M / 2^(k+1)=M / 2^k / 2; rw [Nat.div_div_eq_div_mul,Nat.pow_succ]
 have hY:Y=2*X+Y%2:=aO
 have hr:r=2*(X%N)+Y%2:=rfl;have h1:=Nat.div_add_mod X N;have h2:=Nat.mod_lt X hN;have hb:Y%2<2:=Nat.mod_lt _ aO;generalize Y%2=b at *;generalize X / N=q at *;generalize X%N=s at *;constructor
 ·intro h;have e:Y=N*(2*q+1)+(r - N):=by rw [Nat.mul_add,Nat.mul_one,Nat.mul_left_comm]; omega
  have hl:r - N<N:=aO
  rw [e];exact ⟨by rw [Nat.mul_add_mod,Nat.mod_eq_of_lt hl],by rw [Nat.mul_add_div hN,Nat.div_eq_of_lt hl,Nat.add_zero]⟩
 ·intro h;have e:Y=N*(2*q)+r:=by rw [Nat.mul_left_comm]; omega
  rw [e];exact ⟨by rw [Nat.mul_add_mod,Nat.mod_eq_of_lt h],by rw [Nat.mul_add_div hN,Nat.div_eq_of_lt h,Nat.add_zero]⟩
theorem quo_first {M N f:Nat} (hN:0<N) (hf:f+blen N=blen M):M / 2^(f+1)<N:=by
 have h1:=blen_lt M;obtain ⟨h2,h3⟩:=blen_le hN;rw [Nat.div_lt_iff_lt_mul (Nat.two_pow_pos _)];have e:2^blen M=2^(blen N - 1)*2^(f+1):=by rw [<- Nat.pow_add]; congr 1; omega
 rw [e] at h1;exact Zl h1 (Nat.mul_le_mul_right _ h3)
theorem quo_less {M N:Nat} (h:blen M<blen N):M<N:=by
 have h1:=blen_lt M;have hN:0<N:=by
  rcases Nat.eq_zero_or_pos N with h2 | h2
  ·subst h2; rw [blen_zero] at h; omega
  ·exact h2
 obtain ⟨_,h3⟩:=blen_le hN;exact Zl h1 (Zm (Nat.pow_le_pow_right aO aO) h3)
end Go.Proofs.YtflgngjocgiojaaGreat
