import Derived.Test.YtflgngjocgiojaaGreatMatE
set_option linter.all false
namespace Go.Proofs.YtflgngjocgiojaaGreat
open Go.RowKit
set_option maxHeartbeats 8000000
set_option maxRecDepth 100000
theorem infoR:(Tryz.prog.info? 49).map (fun i=>(i.zero,i.size,i.bytes))=some (some (.slice none 0 0),1,24):=aK
def MatO (X:Nat->Prop) (w:World) (g:Nat) (L:List (List Int)):Prop:=∃ cs,Own w g cs/\∀ i,i<L.length->∃ B c,cs[i]?=some (.slice B (rAt L i).length c)/\(rAt L i).length<=c/\c<=9223372036854775807/\NumsX X w B (rAt L i).length (rAt L i)
def RowsC (X:Nat->Prop) (w:World) (xs:List Value) (L:List (List Int)):Prop:=xs.length=L.length/\∀ i,i<L.length->∃ B c,xs[i]?=some (.slice B (rAt L i).length c)/\(rAt L i).length<=c/\c<=9223372036854775807/\NumsX X w B (rAt L i).length (rAt L i)
theorem RowsC.move {X Y:Nat->Prop} {w w':World} {xs:List Value} {L:List (List Int)} (h:RowsC X w xs L) (hs:w.heap.size<=w'.heap.size) (hk:∀ b,b<w.heap.size->X b->w'.heap[b]?=w.heap[b]?/\Y b):RowsC Y w' xs L:=
 ⟨h.1,fun i hi=>by
  obtain ⟨B,c,h1,h2,h3,h4⟩:=h.2 i hi;exact ⟨B,c,h1,h2,h3,h4.move hs hk⟩⟩
theorem rAt_snoc {L:List (List Int)} {Z:List Int} {i:Nat} (hi:i<(L++[Z]).length):(i<L.length/\rAt (L++[Z]) i=rAt L i)\/(i=L.length/\rAt (L++[Z]) i=Z):=by
 unfold rAt;simp only [Ze];rcases Nat.lt_or_ge i L.length with h | h
 ·exact .inl ⟨h,by rw [List.getElem?_append_left h]⟩
 ·have:i=L.length:=by simp at hi; omega
  subst this;exact .inr ⟨rfl,aS⟩
theorem RowsC.snoc {X:Nat->Prop} {w:World} {xs:List Value} {L:List (List Int)} {B:Option Addr} {c:Nat} {Z:List Int} (h:RowsC X w xs L) (h1:Z.length<=c) (h2:c<=9223372036854775807) (h3:NumsX X w B Z.length Z):RowsC X w (xs++[.slice B Z.length c]) (L++[Z]):=
 ⟨by simp [h.1],fun i hi=>by
  rcases rAt_snoc hi with ⟨h4,h5⟩ | ⟨h4,h5⟩
  ·rw [h5,List.getElem?_append_left (by rw [h.1]; exact h4)];exact h.2 i h4
  ·rw [h5,h4,<- h.1,List.getElem?_append_right (Zr _),Nat.sub_self];exact ⟨B,c,rfl,h1,h2,h3⟩⟩
theorem ownsRow_far {w:World} {base:Nat} {e:TypeId} {size:Nat} {v:Value} {n:Nat} {xs:List Value} (h:w.ownsRow base e size v n xs) {p:Addr} (hp:p.block<base) (x:Value):(w.setCell p x).ownsRow base e size v n xs:=by
 refine ⟨h.1,?_⟩;rcases h.2 with h1 | ⟨g,cap,cur,e1,e2,e3,e4⟩
 ·exact .inl h1
 ·exact .inr ⟨g,cap,cur,e1,e2,(Below.heap_setCell _ _ _ g aO).trans e3,e4⟩
def SysAt (B:Nat) (w:World) (S:Nat) (L:List (List Int)) (k:Nat):Prop:=
 B<=S/\S<w.heap.size/\∃ A c,Own w S #[.slice A L.length c,.int .i64 (k:Nat)]/\L.length<=c/\c<=9223372036854775807/\(0<L.length->∃ g,A=some ⟨g,0,none⟩/\g≠S/\B<=g/\MatO (fun b=>b≠S/\b≠g) w g L)
def sysR (M:List (List Int)) (lb:List Int) (k:Nat):List Int:=rAt M k++(if k<lb.length then [iAt lb k] else [])
def sysL (M:List (List Int)) (lb:List Int):Nat->List (List Int)
 | 0=>[]
 | k+1=>sysL M lb k++[sysR M lb k]
theorem sysL_len (M:List (List Int)) (lb:List Int):∀ k,(sysL M lb k).length=k
 | 0=>rfl
 | k+1=>by simp [sysL,sysL_len M lb k]
theorem take_iAt {l:List Int} {k:Nat} (h:k<l.length):l.take (k+1)=l.take k++[iAt l k]:=by
 rw [List.take_succ_eq_append_getElem h];unfold iAt;simp [Ze,h]
theorem matrix_of {w:World} {A Ab:Option Addr} {n nb:Nat} {M:List (List Int)} {lb:List Int} (c cb:Nat) (h:RowsAt w A n M) (hb:IntsAt w Ab nb lb) (hn:n<=1000) (hm:∀ i,i<n->(rAt M i).length<=1000) (hnb:nb<=1000) :
 Calls Tryz.prog 56 #[.slice A n c,.slice Ab nb cb] w fun e w'=>(∃ S,e = .returned (.pointer (some ⟨S,0,none⟩))/\SysAt w.heap.size w' S (sysL M lb n) (cols M))/\Below w.heap.size w w':=by
 obtain ⟨i0,hi,hz0,hz1,hz2⟩:=info_parts infoN;obtain ⟨i1,hi1,hy0,hy1,hy2⟩:=info_parts infoR;have q:=matrix_columns c h;obtain ⟨m,hm1⟩:=Zx (cols M);rw [hm1] at q ⊢;have Q:=Zh q;have H:=Zh h;have HB:=Zh hb;have HM:=Zh hm;have HL:=Zh hb.len;obtain ⟨E,hc,hr⟩:=h.pick;have HE:=Zh (Zi hc hr);have hni:(n:Int)<=1000:=aO
 clear q h hb hm hc hr hm1;go_enter Tryz.func56,Tryz.ntmps56;go_wp2_with fail;refine Zd Q.out ?_;rintro e w1 ⟨rfl,hb1⟩;have hz:=hb1.size;have hW:=hb1.alloc hz (.cells #[.slice none 0 0,.int .i64 (m:Nat)] 93);have oS:Own (w1.alloc (.cells #[.slice none 0 0,.int .i64 (m:Nat)] 93)) w1.heap.size #[.slice none 0 0,.int .i64 (m:Nat)]:=aOwn;have hsz:(w1.alloc (.cells #[.slice none 0 0,.int .i64 (m:Nat)] 93)).heap.size=w1.heap.size+1:=aS
 go_wp2;generalize (w1.alloc (.cells #[.slice none 0 0,.int .i64 (m:Nat)] 93))=W0 at *;generalize w1.heap.size=S at *;have hwS:=hz;clear hb1;go_loopw [17] (fun i wr=>∃ (k:Nat) (v:Value) (xs:List Value),k<=n/\i = .int .i64 k/\Below w.heap.size w wr/\S+1<=wr.heap.size/\Own wr S #[v,.int .i64 (m:Nat)]/\wr.ownsRow (S+1) 49 1 v k xs/\RowsC (fun b=>b≠S/\some b≠v.ownBlock) wr xs (sysL M lb k)) (fun i _=>n - (intOf i).toNat)
 case atStart=>exact ⟨0,.slice none 0 0,[],aO,rfl,hW,aO,oS,⟨rfl,.inl ⟨rfl,rfl⟩⟩,rfl,fun i hi=>by simp [sysL] at hi⟩
 case round =>
  obtain ⟨k,v,xs,hk,rfl,hbel,hsz1,oS,hown,hrow⟩:=hrel;have HO:=Zh hown;have HC:=Zh hrow;have OV:Hid (∀ b,v.ownBlock=some b->b<wr.heap.size):=Zh (fun b hb=>ownBlock_lt hown hb);clear hown hrow hsz hW
  by_cases hlt:k<n
  ·have hlt2:(k:Int)<(n:Int):=aO
   have hkb:=hbel.size;obtain ⟨b,off,rfl,hbb,hcell⟩:=HE.out.1 aO;replace hcell:=(Zc (w:=w) (a:=⟨b,off+k,none⟩) (hbel.block b hbb)).trans (hcell k hlt);have hI:=(HE.out.2 k hlt).2.2.below hbel;have hm0:=HM.out k hlt;rw [hI.len] at hm0;obtain ⟨e,he⟩:=Zx (E k);rw [he] at hcell hI hm0;obtain ⟨Ar,nr,cr⟩:=e;simp only at hcell hI hm0;have HI:=Zh hI;clear hI he;generalize wr=wo at *;go_wp2;clear hcell;go_loopw [8,24] (fun u i wi=>∃ (j:Nat) (ys:List Value),j<=nr/\i = .int .i64 j/\Below wo.heap.size wo wi/\wi.ownsRow wo.heap.size 35 2 u j ys/\RowC (fun b=>wo.heap.size<=b/\some b≠u.ownBlock) wi ys ((rAt M k).take j)) (fun _ i _=>nr - (intOf i).toNat)
   case atStart=>exact ⟨0,[],aO,rfl,Zb _ _,⟨rfl,.inl ⟨rfl,rfl⟩⟩,trivial⟩
   case round =>
    obtain ⟨j,ys,hj,rfl,hbw,hown,hrow⟩:=hrel;have HOi:=Zh hown;have HCi:=Zh hrow;have OL:Hid (∀ b,u8.ownBlock=some b->b<wr.heap.size):=Zh (fun b hb=>ownBlock_lt hown hb);clear hown hrow;have hwz:=hbw.size
    by_cases hjt:j<nr
    ·have hjt2:(j:Int)<(nr:Int):=aO
     obtain ⟨br,offr,rfl,hbr,hcr⟩:=(HI.out.below hbw).row aO;replace hcr:=hcr j hjt;have hio:=HI.out.ok j (by rw [HI.out.len]; exact hjt);have he:=take_iAt (l:=rAt M k) (k:=j) (by rw [HI.out.len]; exact hjt);obtain ⟨x,hx⟩:=Zx (iAt (rAt M k) j);rw [hx] at hcr hio he;have HT:=Zh he;have fx:fits x=true:=fits_small aO;have HF:=Zh fx;have q:=of_val (w:=wr) x hio.1 hio.2;have HQ:=Zh q;clear hx he fx q hio;go_wp2_with fail;refine Zd HQ.out ?_;rintro e u5 ⟨⟨b3,rfl,g1,g2,g3⟩,hb5⟩;obtain ⟨A8,n8,c8,hs8⟩:=slN_form x b3;have N5:=g1.at_ HF.out;simp only [numV] at N5 ⊢;rw [hs8] at N5 ⊢;have OB:Hid (∀ b off,A8=some ⟨b,off,none⟩->wr.heap.size<=b/\b<u5.heap.size):=Zh (fun b off e=>by
      subst e;have h9:=slN_addr hs8;subst h9;exact ⟨g2,g3⟩)
     have N5:=Zh N5;have O5:=Zh (ownsRow_stay HOi.out hb5);have C5:=Zh (RowC.move (Y:=fun b=>wo.heap.size<=b/\some b≠u8.ownBlock/\b<u5.heap.size) hb5.size (fun b hb hX=>⟨hb5.block b hb,hX.1,hX.2,Zl hb hb5.size⟩) HCi.out);have B5:=Zh (hbw.trans (hb5.mono hwz));have hz5:=hb5.size;clear hs8 g1 g2 g3 hb5 hcr;go_wp2_with (at_builtin; refine wpList_append_lies _ rfl _ _ _ (by rfl) wo.heap.size 35 i0 zeroN 2 32 Tryz.underlying49 hi hz0 hz1 hz2 rfl aO _ j ys (by rfl) (O5.out.alloc _) ⟨u5.heap.size,0,none⟩ 1 1 [.bool (sgnN x),.slice A8 n8 c8] (by rfl) rfl ?c1 ?c2 aO ?c3 ?c4 ?c5 (u5.heap.size+1) aS ?_)
     case c1=>exact World.news_of_block (heap_alloc_new u5 _)
     case c2=>intro u hu; simp at hu; rcases hu with rfl | rfl <;> rfl
     case c3=>unfold maxLen; omega
     case c4=>omega
     case c5=>simp; omega
     intro g cg w6 ho6 hg6 hat hlt6;have hob:∀ b,_=some b->wo.heap.size<=b:=fun b hb=>ownBlock_ge (O5.out) hb
     have B6:=Zh (Below.grown (B5.out.alloc aO (.cells #[.bool (sgnN x),.slice A8 n8 c8] 35)) hg6 aT (fun b hb=>hob b hb));have hc6:RowC (fun b=>wo.heap.size<=b/\some b≠some g) w6 (ys++[.bool (sgnN x),.slice A8 n8 c8]) ((rAt M k).take (j+1)):=by
      rw [HT.out];have hb5:Below u5.heap.size u5 (u5.alloc (.cells #[.bool (sgnN x),.slice A8 n8 c8] 35)):=(Zb _ _).alloc (Zr _) _;refine RowC.grown hg6 (fun b hb hX=>⟨hX.2.1,hX.1,fun e=>by
       cases e;rcases hat with h | h
       ·exact hX.2.1 h.symm
       ·have:=hX.2.2; omega⟩) (X:=fun b=>wo.heap.size<=b/\some b≠u8.ownBlock/\b<u5.heap.size) (RowC.snoc ?_ (N5.out.below hb5) (C5.out.below hb5))
      exact ⟨_,_,_,rfl,fun b off e=>by
       have h9:=OB.out b off e;exact ⟨aT,aO,fun e=>by have:=OL.out _ e.symm; omega,h9.2⟩⟩
     have HC6:=Zh hc6;have HO6:=Zh ho6;clear hc6 ho6 hg6 hat hob;go_wp2;go_roundw
     case rel=>exact ⟨j+1,_,aO,by go_num,B6.out,HO6.out,HC6.out⟩
     case measure=>simp [intOf]; omega
    ·have hj2:j=nr:=aO
     subst hj2
     by_cases hkn:k<nb
     ·have hkn2:(k:Int)<(nb:Int):=aO
      have hlbk:k<lb.length:=by rw [HL.out]; exact hkn
      have hbo:=hbel.trans (hbw.mono hkb);obtain ⟨bb,offb,rfl,hbbb,hcb⟩:=(HB.out.below hbo).row aO;replace hcb:=hcb k hkn;have hio:=HB.out.ok k hlbk;obtain ⟨x,hx⟩:=Zx (iAt lb k);rw [hx] at hcb hio;have HT:Hid (sysR M lb k=rAt M k++[x]):=Zh (by unfold sysR; rw [if_pos hlbk,hx]);have HTT:Hid ((rAt M k).take j=rAt M k):=Zh (List.take_of_length_le (by rw [HI.out.len]; exact Zr _));have fx:fits x=true:=fits_small aO;have HF:=Zh fx;have HQ:=Zh (of_val (w:=wr) x hio.1 hio.2);clear hx fx hio hlbk;go_wp2_with fail;refine Zd HQ.out ?_;rintro e u5 ⟨⟨b3,rfl,g1,g2,g3⟩,hb5⟩;obtain ⟨A8,n8,c8,hs8⟩:=slN_form x b3;have N5:=g1.at_ HF.out;simp only [numV] at N5 ⊢;rw [hs8] at N5 ⊢;have OB:Hid (∀ b off,A8=some ⟨b,off,none⟩->wr.heap.size<=b/\b<u5.heap.size):=Zh (fun b off e=>by
       subst e;have h9:=slN_addr hs8;subst h9;exact ⟨g2,g3⟩)
      have N5:=Zh N5;have O5:=Zh (ownsRow_stay HOi.out hb5);have C5:=Zh (RowC.move (Y:=fun b=>wo.heap.size<=b/\some b≠u8.ownBlock/\b<u5.heap.size) hb5.size (fun b hb hX=>⟨hb5.block b hb,hX.1,hX.2,Zl hb hb5.size⟩) HCi.out);have B5:=Zh (hbw.trans (hb5.mono hwz));have hz5:=hb5.size;clear hs8 g1 g2 g3 hb5 hcb;go_wp2_with (at_builtin; refine wpList_append_lies _ rfl _ _ _ (by rfl) wo.heap.size 35 i0 zeroN 2 32 Tryz.underlying49 hi hz0 hz1 hz2 rfl aO _ j ys (by rfl) (O5.out.alloc _) ⟨u5.heap.size,0,none⟩ 1 1 [.bool (sgnN x),.slice A8 n8 c8] (by rfl) rfl ?c1 ?c2 aO ?c3 ?c4 ?c5 (u5.heap.size+1) aS ?_)
      case c1=>exact World.news_of_block (heap_alloc_new u5 _)
      case c2=>intro u hu; simp at hu; rcases hu with rfl | rfl <;> rfl
      case c3=>unfold maxLen; omega
      case c4=>omega
      case c5=>simp; omega
      intro g cg w6 ho6 hg6 hat hlt6;have hob:∀ b,_=some b->wo.heap.size<=b:=fun b hb=>ownBlock_ge (O5.out) hb
      have Bw6:=Zh (Below.grown (B5.out.alloc aO (.cells #[.bool (sgnN x),.slice A8 n8 c8] 35)) hg6 aT (fun b hb=>hob b hb));have hc6:RowC (fun b=>wo.heap.size<=b/\some b≠some g) w6 (ys++[.bool (sgnN x),.slice A8 n8 c8]) (sysR M lb k):=by
       rw [HT.out];have hb5:Below u5.heap.size u5 (u5.alloc (.cells #[.bool (sgnN x),.slice A8 n8 c8] 35)):=(Zb _ _).alloc (Zr _) _;have C5':=C5.out;rw [HTT.out] at C5';refine RowC.grown hg6 (fun b hb hX=>⟨hX.2.1,hX.1,fun e=>by
        cases e;rcases hat with h | h
        ·exact hX.2.1 h.symm
        ·have:=hX.2.2; omega⟩) (X:=fun b=>wo.heap.size<=b/\some b≠u8.ownBlock/\b<u5.heap.size) (RowC.snoc ?_ (N5.out.below hb5) (C5'.below hb5))
       exact ⟨_,_,_,rfl,fun b off e=>by
        have h9:=OB.out b off e;exact ⟨aT,aO,fun e=>by have:=OL.out _ e.symm; omega,h9.2⟩⟩
      have hZl:(sysR M lb k).length=j+1:=by rw [HT.out]; simp [HI.out.len]
      obtain ⟨Al,cl,hvl,-,hl1,hl2,hNX⟩:=row_of (X:=fun b=>wo.heap.size<=b) hZl ho6 (RowC.move (Zr _) (fun b _ hX=>⟨rfl,hX.1⟩) hc6) (fun b h _=>h);rw [hvl];clear hc6 ho6 hg6 hat hob hZl hvl hlt6;have OS:=oS.below Bw6.out;have OW:=Zh (ownsRow_stay HO.out Bw6.out);have CW:=Zh (RowsC.snoc (RowsC.move (Y:=fun b=>b≠S/\some b≠v.ownBlock/\b<w6.heap.size) HC.out Bw6.out.size (fun b hb hX=>⟨Bw6.out.block b hb,hX.1,hX.2,Zl hb Bw6.out.size⟩)) hl1 hl2 (hNX.imp fun b hb hX=>⟨aO,fun e=>by have:=OV.out _ e.symm; omega,hb⟩));have hWz:=Bw6.out.size;have OSc:=OS.cell;have OSz:=OS.lt;have BB:=Zh (hbel.trans (Bw6.out.mono hkb));clear hNX oS;go_wp2_with (at_builtin; refine wpList_append_lies _ rfl _ _ _ (by rfl) (S+1) 49 i1 (.slice none 0 0) 1 24 Tryz.underlying91 hi1 hy0 hy1 hy2 rfl aO _ k xs (by rfl) (OW.out.alloc _) ⟨w6.heap.size,0,none⟩ 1 1 [.slice Al (sysR M lb k).length cl] (by rfl) rfl ?w6c1 ?w6c2 aO ?w6c3 ?w6c4 ?w6c5 (w6.heap.size+1) aS ?_)
      try (case w6c1=>exact World.news_of_block (heap_alloc_new w6 _))
      case w6c2=>first | (intro u hu; simp at hu; subst hu; rfl) | rfl
      case w6c3=>first | (unfold maxLen; omega) | omega
      case w6c4=>omega
      case w6c5=>first | omega | (simp; omega)
      intro g2 cg2 w7 ho7 hg7 hat7 hlt7;have hob:∀ b,_=some b->S+1<=b:=fun b hb=>ownBlock_ge OW.out hb
      have hb5:Below w6.heap.size w6 (w6.alloc (.cells #[.slice Al (sysR M lb k).length cl] 49)):=(Zb _ _).alloc (Zr _) _;have B7:=Zh (Below.grown (BB.out.alloc aO (.cells #[.slice Al (sysR M lb k).length cl] 49)) hg7 aT (fun b hb=>by have:=hob b hb; omega));have OS7:Own w7 S #[v,.int .i64 (m:Nat)]:=(OS.alloc _).of_block (hg7.block _ aT (fun e=>by have:=hob _ e.symm; omega));have C7:RowsC (fun b=>b≠S/\some b≠some g2) w7 (xs++[.slice Al (sysR M lb k).length cl]) (sysL M lb (k+1)):=by
       refine RowsC.move (CW.out) (Zm hb5.size hg7.size) (fun b hb hX=>⟨(hg7.block b (Zl hb hb5.size) hX.2.1).trans (hb5.block b hb),hX.1,fun e=>?_⟩);cases e;rcases hat7 with h | h
       ·exact hX.2.1 h.symm
       ·have:=hX.2.2; omega
      have HC7:=Zh C7;have HO7:=Zh ho7;have hs7:=hg7.size;simp at hs7;have OS7c:=OS7.cell;have OS7f:=OS7.thaw;clear C7 ho7 hg7 hat7 hob hb5 OSc OS;go_wp2;go_roundw
      case rel=>exact ⟨k+1,.slice (some ⟨g2,0,none⟩) (k+1) cg2,_,aO,by go_num,B7.out.setCell hwS _,by simp [World.setCell]; omega,OS7.set 0 _,ownsRow_far HO7.out aS _,RowsC.move HC7.out (by simp [World.setCell]) (fun b hb hX=>⟨Below.heap_setCell _ _ _ b hX.1,hX.1,hX.2⟩)⟩
      case measure=>simp [intOf]; omega
     ·have hkn2:¬ (k:Int)<(nb:Int):=aO
      have HT:Hid (sysR M lb k=rAt M k):=Zh (by unfold sysR; rw [if_neg (by rw [HL.out]; exact hkn),List.append_nil]);have hZl:(sysR M lb k).length=j:=by rw [HT.out,HI.out.len]
      have hc6:RowC (fun b=>wo.heap.size<=b/\some b≠u8.ownBlock) wr ys (sysR M lb k):=by
       have:=HCi.out;rw [List.take_of_length_le (by rw [HI.out.len]; exact Zr _)] at this;rw [HT.out]; exact this
      have Bwr:=Zh hbw;obtain ⟨Al,cl,rfl,-,hl1,hl2,hNX⟩:=row_of (X:=fun b=>wo.heap.size<=b) hZl HOi.out (RowC.move (Zr _) (fun b _ hX=>⟨rfl,hX.1⟩) hc6) (fun b h _=>h);clear hc6 hZl HOi HCi OL;have OS:=oS.below Bwr.out;have OW:=Zh (ownsRow_stay HO.out Bwr.out);have CW:=Zh (RowsC.snoc (RowsC.move (Y:=fun b=>b≠S/\some b≠v.ownBlock/\b<wr.heap.size) HC.out Bwr.out.size (fun b hb hX=>⟨Bwr.out.block b hb,hX.1,hX.2,Zl hb Bwr.out.size⟩)) hl1 hl2 (hNX.imp fun b hb hX=>⟨aO,fun e=>by have:=OV.out _ e.symm; omega,hb⟩));have OSc:=OS.cell;have OSz:=OS.lt;have BB:=Zh (hbel.trans (Bwr.out.mono hkb));clear hNX oS;go_wp2_with (at_builtin; refine wpList_append_lies _ rfl _ _ _ (by rfl) (S+1) 49 i1 (.slice none 0 0) 1 24 Tryz.underlying91 hi1 hy0 hy1 hy2 rfl aO _ k xs (by rfl) (OW.out.alloc _) ⟨wr.heap.size,0,none⟩ 1 1 [.slice Al (sysR M lb k).length cl] (by rfl) rfl ?wrc1 ?wrc2 aO ?wrc3 ?wrc4 ?wrc5 (wr.heap.size+1) aS ?_)
      try (case wrc1=>exact World.news_of_block (heap_alloc_new wr _))
      case wrc2=>first | (intro u hu; simp at hu; subst hu; rfl) | rfl
      case wrc3=>first | (unfold maxLen; omega) | omega
      case wrc4=>omega
      case wrc5=>first | omega | (simp; omega)
      intro g2 cg2 w7 ho7 hg7 hat7 hlt7;have hob:∀ b,_=some b->S+1<=b:=fun b hb=>ownBlock_ge OW.out hb
      have hb5:Below wr.heap.size wr (wr.alloc (.cells #[.slice Al (sysR M lb k).length cl] 49)):=(Zb _ _).alloc (Zr _) _;have B7:=Zh (Below.grown (BB.out.alloc aO (.cells #[.slice Al (sysR M lb k).length cl] 49)) hg7 aT (fun b hb=>by have:=hob b hb; omega));have OS7:Own w7 S #[v,.int .i64 (m:Nat)]:=(OS.alloc _).of_block (hg7.block _ aT (fun e=>by have:=hob _ e.symm; omega));have C7:RowsC (fun b=>b≠S/\some b≠some g2) w7 (xs++[.slice Al (sysR M lb k).length cl]) (sysL M lb (k+1)):=by
       refine RowsC.move (CW.out) (Zm hb5.size hg7.size) (fun b hb hX=>⟨(hg7.block b (Zl hb hb5.size) hX.2.1).trans (hb5.block b hb),hX.1,fun e=>?_⟩);cases e;rcases hat7 with h | h
       ·exact hX.2.1 h.symm
       ·have:=hX.2.2; omega
      have HC7:=Zh C7;have HO7:=Zh ho7;have hs7:=hg7.size;simp at hs7;have OS7c:=OS7.cell;have OS7f:=OS7.thaw;clear C7 ho7 hg7 hat7 hob hb5 OSc OS;go_wp2;go_roundw
      case rel=>exact ⟨k+1,.slice (some ⟨g2,0,none⟩) (k+1) cg2,_,aO,by go_num,B7.out.setCell hwS _,by simp [World.setCell]; omega,OS7.set 0 _,ownsRow_far HO7.out aS _,RowsC.move HC7.out (by simp [World.setCell]) (fun b hb hX=>⟨Below.heap_setCell _ _ _ b hX.1,hX.1,hX.2⟩)⟩
      case measure=>simp [intOf]; omega
  ·have hk2:k=n:=aO
   subst hk2;have HB:=Zh hbel;have hfin:SysAt w.heap.size wr S (sysL M lb k) m:=by
    have hl:=sysL_len M lb k;rcases HO.out.2 with ⟨rfl,h0⟩ | ⟨g,cap,cur,rfl,h1,h2,h3,h4,h5,h6⟩
    ·subst h0;exact ⟨hwS,oS.lt,none,0,oS,by simp [sysL],aO,fun h=>by simp [sysL] at h⟩
    ·unfold maxLen at h4;refine ⟨hwS,oS.lt,some ⟨g,0,none⟩,cap,by rw [hl]; exact oS,by rw [hl]; exact h3,aO,fun h=>⟨g,rfl,aO,aO,cur,⟨_,h2⟩,fun i hi=>?_⟩⟩;obtain ⟨B,c,e1,e2,e3,e4⟩:=HC.out.2 i hi;refine ⟨B,c,?_,e2,e3,e4.imp fun b hb hX=>⟨hX.1,fun e=>hX.2 (by rw [e]; rfl)⟩⟩;rw [<- h6,List.getElem?_take] at e1;split at e1
     ·rw [<- Array.getElem?_toList]; exact e1
     ·cases e1
   have HS:=Zh hfin;clear hbel hfin;go_wp2;go_ret;exact ⟨⟨_,rfl,HS.out⟩,HB.out⟩
theorem rAt_set {L:List (List Int)} {i j:Nat} {x:List Int} (h:i<L.length):rAt (L.set i x) j=if j=i then x else rAt L j:=by
 unfold rAt;rw [Ze,Ze,List.getElem?_set]
 by_cases e:i=j
 ·subst e; simp [h]
 ·rw [if_neg e,if_neg (fun h=>e h.symm)]
def findP (L:List (List Int)) (c:Nat):Nat->Nat->Option Nat
 | 0,_=>none
 | f+1,p=>if zAt (rAt L p) c≠0 then some p else findP L c f (p+1)
theorem findP_skip {L:List (List Int)} {c:Nat}:∀ (d f p:Nat),(∀ q,p<=q->q<p+d->zAt (rAt L q) c=0)->findP L c (f+d) p=findP L c f (p+d)
 | 0,f,p,_=>rfl
 | d+1,f,p,h=>by
  rw [<- Nat.add_assoc,findP,if_neg (by rw [h p (Zr _) aO]; simp),findP_skip d f (p+1) (fun q h1 h2=>h q aO aO)];congr 1;omega
theorem findP_none {L:List (List Int)} {c at_:Nat} (h:∀ q,at_<=q->q<L.length->zAt (rAt L q) c=0):findP L c (L.length - at_) at_=none:=by
 have:=findP_skip (L:=L) (c:=c) (L.length - at_) 0 at_ (fun q h1 h2=>h q h1 aO);rw [Nat.zero_add] at this;rw [this]; rfl
theorem findP_some {L:List (List Int)} {c at_ p:Nat} (h:∀ q,at_<=q->q<p->zAt (rAt L q) c=0) (h1:at_<=p) (h2:p<L.length) (h3:zAt (rAt L p) c≠0):findP L c (L.length - at_) at_=some p:=by
 have:=findP_skip (L:=L) (c:=c) (p - at_) (L.length - p) at_ (fun q h4 h5=>h q h4 aO);rw [show L.length - p+(p - at_)=L.length - at_ by omega,show at_+(p - at_)=p by omega] at this;rw [this,show L.length - p=(L.length - p - 1)+1 by omega,findP,if_pos h3]
theorem findP_spec {L:List (List Int)} {c:Nat}:∀ (f p q:Nat),findP L c f p=some q->p<=q/\q<p+f/\zAt (rAt L q) c≠0
 | 0,_,_,h=>by cases h
 | f+1,p,q,h=>by
  rw [findP] at h;split at h
  ·rename_i h1
   cases h;exact ⟨Zr _,aO,h1⟩
  ·have:=findP_spec f (p+1) q h;exact ⟨aO,aO,this.2.2⟩
theorem findP_zero {L:List (List Int)} {c:Nat}:∀ (f p:Nat),findP L c f p=none->∀ q,p<=q->q<p+f->zAt (rAt L q) c=0
 | 0,_,_,q,h1,h2=>aO
 | f+1,p,h,q,h1,h2=>by
  rw [findP] at h;split at h
  ·cases h
  ·rename_i h3
   by_cases e:q=p
   ·subst e; exact Classical.byContradiction h3
   ·exact findP_zero f (p+1) h q aO aO
def swapL (L:List (List Int)) (i p:Nat):List (List Int):=(L.set i (rAt L p)).set p (rAt L i)
theorem swapL_len (L:List (List Int)) (i p:Nat):(swapL L i p).length=L.length:=by simp [swapL]
theorem rAt_swap {L:List (List Int)} {i p j:Nat} (hi:i<L.length) (hp:p<L.length):rAt (swapL L i p) j=if j=p then rAt L i else if j=i then rAt L p else rAt L j:=by
 unfold swapL;rw [rAt_set (by simpa using hp)];split
 ·rfl
 ·rw [rAt_set hi]
def elimL (L:List (List Int)) (a c:Nat) (b:Int):Nat->List (List Int)
 | 0=>L
 | k+1=>(elimL L a c b k).set (a+1+k) (combZ (rAt L (a+1+k)) (rAt L a) c b (rAt L (a+1+k)).length)
theorem elimL_len (L:List (List Int)) (a c:Nat) (b:Int):∀ k,(elimL L a c b k).length=L.length
 | 0=>rfl
 | k+1=>by rw [elimL,List.length_set,elimL_len L a c b k]
theorem rAt_elim {L:List (List Int)} {a c:Nat} {b:Int} {j:Nat}:∀ {k:Nat},a+1+k<=L.length->rAt (elimL L a c b k) j=if a<j/\j<a+1+k then combZ (rAt L j) (rAt L a) c b (rAt L j).length else rAt L j
 | 0,_=>by rw [elimL,if_neg aO]
 | k+1,h=>by
  rw [elimL,rAt_set (by rw [elimL_len]; omega),rAt_elim (k:=k) aO]
  by_cases e:j=a+1+k
  ·subst e; rw [if_pos rfl,if_pos aO]
  ·rw [if_neg e]
   by_cases h1:a<j/\j<a+1+k
   ·rw [if_pos h1,if_pos aO]
   ·rw [if_neg h1,if_neg aO]
structure BS where
 L:List (List Int)
 b:Int
 a:Nat
def stepB (s:BS) (c:Nat):BS:=
 match findP s.L c (s.L.length - s.a) s.a with
 | none=>s
 | some p=>⟨elimL (swapL s.L s.a p) s.a c s.b (s.L.length - (s.a+1)),zAt (rAt (swapL s.L s.a p) s.a) c,s.a+1⟩
def runB (s:BS):Nat->BS
 | 0=>s
 | c+1=>stepB (runB s c) c
def leadsB (s:BS):Nat->List (Nat×Nat)
 | 0=>[]
 | c+1=>leadsB s c++(match findP (runB s c).L c ((runB s c).L.length - (runB s c).a) (runB s c).a with | none=>[] | some _=>[(c,(runB s c).a)])
theorem stepB_len (s:BS) (c:Nat):(stepB s c).L.length=s.L.length:=by
 unfold stepB;split
 ·rfl
 ·simp [elimL_len,swapL_len]
theorem runB_len (s:BS):∀ c,(runB s c).L.length=s.L.length
 | 0=>rfl
 | c+1=>by rw [runB,stepB_len,runB_len s c]
theorem stepB_none {s:BS} {c:Nat} (h:findP s.L c (s.L.length - s.a) s.a=none):stepB s c=s:=by unfold stepB; rw [h]
theorem stepB_some {s:BS} {c p:Nat} (h:findP s.L c (s.L.length - s.a) s.a=some p) :
 stepB s c=⟨elimL (swapL s.L s.a p) s.a c s.b (s.L.length - (s.a+1)),zAt (rAt (swapL s.L s.a p) s.a) c,s.a+1⟩:=by unfold stepB; rw [h]
theorem stepB_a (s:BS) (c:Nat):(stepB s c).a<=s.a+1/\s.a<=(stepB s c).a/\(s.a<=s.L.length->(stepB s c).a<=s.L.length):=by
 unfold stepB;split
 ·exact ⟨aO,aO,fun h=>h⟩
 ·rename_i p hp
  have:=findP_spec _ _ _ hp;exact ⟨Zr _,Nat.le_succ _,fun _=>by show s.a+1<=_; omega⟩
theorem runB_a (s:BS):∀ c,(runB s c).a<=s.a+c
 | 0=>Zr _
 | c+1=>by have:=runB_a s c; have:=(stepB_a (runB s c) c).1; rw [runB]; omega
theorem leadsB_len (s:BS):∀ c,(leadsB s c).length+s.a=(runB s c).a
 | 0=>Nat.zero_add _
 | c+1=>by
  rw [leadsB,runB,List.length_append];have:=leadsB_len s c;cases h:findP (runB s c).L c ((runB s c).L.length - (runB s c).a) (runB s c).a with
  | none=>rw [stepB_none h]; simpa using this
  | some p=>rw [stepB_some h]; simp; omega
def Wide (L:List (List Int)) (n:Nat):Prop:=∀ i,i<L.length->(rAt L i).length=n
theorem Wide.swap {L:List (List Int)} {n i p:Nat} (h:Wide L n) (hi:i<L.length) (hp:p<L.length):Wide (swapL L i p) n:=fun j hj=>by
 rw [swapL_len] at hj;rw [rAt_swap hi hp];split
 ·exact h i hi
 ·split
  ·exact h p hp
  ·exact h j hj
theorem Wide.elim {L:List (List Int)} {n a c k:Nat} {b:Int} (h:Wide L n) (hk:a+1+k<=L.length):Wide (elimL L a c b k) n:=fun j hj=>by
 rw [elimL_len] at hj;rw [rAt_elim hk];split
 ·rw [combZ_len]; exact h j hj
 ·exact h j hj
theorem stepB_wide {s:BS} {n c:Nat} (h:Wide s.L n):Wide (stepB s c).L n:=by
 cases hf:findP s.L c (s.L.length - s.a) s.a with
 | none=>rw [stepB_none hf]; exact h
 | some p =>
  rw [stepB_some hf];have:=findP_spec _ _ _ hf;exact (h.swap aO aO).elim (by rw [swapL_len]; omega)
theorem runB_wide {s:BS} {n:Nat} (h:Wide s.L n):∀ c,Wide (runB s c).L n
 | 0=>h
 | c+1=>stepB_wide (runB_wide h c)
def SmL (L:List (List Int)) (n:Nat):Prop:=∀ i,i<L.length->∀ k,k<n->Sm (zAt (rAt L i) k)
theorem SmL.swap {L:List (List Int)} {n i p:Nat} (h:SmL L n) (hi:i<L.length) (hp:p<L.length):SmL (swapL L i p) n:=fun j hj=>by
 rw [swapL_len] at hj;rw [rAt_swap hi hp];split
 ·exact h i hi
 ·split
  ·exact h p hp
  ·exact h j hj
theorem stepB_b {s:BS} {c:Nat} (hb:s.b≠0):(stepB s c).b≠0:=by
 cases hf:findP s.L c (s.L.length - s.a) s.a with
 | none=>rw [stepB_none hf]; exact hb
 | some p =>
  rw [stepB_some hf];have h1:=findP_spec _ _ _ hf;show zAt (rAt (swapL s.L s.a p) s.a) c≠0;rw [rAt_swap aO aO];split
  ·rename_i e; rw [e]; exact h1.2.2
  ·rw [if_pos rfl]; exact h1.2.2
theorem runB_b {s:BS} (hb:s.b≠0):∀ c,(runB s c).b≠0
 | 0=>hb
 | c+1=>stepB_b (runB_b hb c)
structure ItW (g B:Nat) (W W':World):Prop where
 os:W'.os=W.os
 tape:W'.tape=W.tape
 output:W'.output=W.output
 size:W.heap.size<=W'.heap.size
 block:∀ k,k<W.heap.size->k≠g->k<B->W'.heap[k]?=W.heap[k]?
 rest:∀ (k:Nat) (o:Obj),W.heap[k]?=some o->o.isCells=false->W'.heap[k]?=some o
theorem ItW.refl (g B:Nat) (W:World):ItW g B W W:=⟨rfl,rfl,rfl,Zr _,fun _ _ _ _=>rfl,fun _ _ h _=>h⟩
theorem ItW.trans {g B:Nat} {X Y Z:World} (h:ItW g B X Y) (k:ItW g B Y Z):ItW g B X Z:=
 ⟨k.os.trans h.os,k.tape.trans h.tape,k.output.trans h.output,Zm h.size k.size,fun i hi hg hB=>(k.block i (Zl hi h.size) hg hB).trans (h.block i hi hg hB),fun i o h1 h2=>k.rest i o (h.rest i o h1 h2) h2⟩
theorem ItW.mono {g B B':Nat} {W W':World} (h:ItW g B W W') (hB:B'<=B):ItW g B' W W':=⟨h.os,h.tape,h.output,h.size,fun k h1 h2 h3=>h.block k h1 h2 aO,h.rest⟩
theorem ItW.below {g B:Nat} {W W':World} (h:Below W.heap.size W W'):ItW g B W W':=
 ⟨h.os,h.tape,h.output,h.size,fun k hk _ _=>h.block k hk,fun k o h1 _=>(h.block k (Zt.1 h1).1).trans h1⟩
theorem ItW.set {g B:Nat} {W:World} {p:Addr} (hp:p.block=g\/B<=p.block) (hc:∃ cs T r,W.heap[p.block]?=some (.cells cs T r)) (x:Value):ItW g B W (W.setCell p x):=
 ⟨rfl,rfl,rfl,by simp [World.setCell],fun k hk h1 h2=>Below.heap_setCell _ _ _ k aO,fun k o h1 h2=>by
  obtain ⟨cs,T,r,hc⟩:=hc;refine (Below.heap_setCell _ _ _ k (fun e=>?_)).trans h1;rw [e,hc] at h1;cases h1;simp [Obj.isCells] at h2⟩
theorem Own.cells {w:World} {b:Nat} {cs:Array Value} (h:Own w b cs):∃ cs T r,w.heap[b]?=some (.cells cs T r):=by
 obtain ⟨T,h⟩:=h;exact ⟨_,_,_,h⟩
def SeqItW {α:Type} (n:Nat) (P:Program) (f:Nat) (lb:Array Value) (encs:α->Array Value) (Kp:World->World->Prop) (g:Nat) (S:List α->Prop) (N:Nat) (Fin:World->Prop) (w:World):Prop:=
 ∀ (l:Nat) (J:List α->World->Prop) (W:World),Below w.heap.size w W->(∀ s A B,J s A->ItW g W.heap.size A B->J s B) ->
  (∀ pre x W1,J pre W1->pre.length<N->YieldAt Fence.wide (n - 1) P l (encs x) W1 fun e W'=>e = .returned (.bool true)/\J (pre++[x]) W'/\Kp W1 W') ->
  J [] W ->
  CallsIn Fence.wide n P f (#[.func (.yield l) #[] #[]]++lb) W fun e W'=>(∃ v,e = .returned v)/\∃ xs,S xs/\J xs W'/\Fin W'
theorem wpIn_range_itW {α:Type} {P:Program} {n:Nat} {g:Operand} {ps:Array Tmp} {assign body:Code} {Q:Exit->Act->World->Prop} {a:Act} {w:World}
 (h1:1<=n) {gf:Nat} {lb:Array Value} (hg:a.eval g = .func (.func gf) #[] lb) (eg:∀ args w,(callFunc gf args).run P w = .ok (.enter gf args) w)
 {encs:α->Array Value} {Kp:World->World->Prop} {gb:Nat} {S:List α->Prop} {N:Nat} {Fin:World->Prop} (hseq:SeqItW (n - 1) P gf lb encs Kp gb S N Fin w) (hgb:gb<w.heap.size)
 (hKt:∀ {A B C:World},Kp A B->Kp B C->Kp A C) (hKb:∀ (W:World) (l:Nat) (o o':Obj),w.heap.size<=l->W.heap[l]?=some o->o.isCells=false->o.isWalk=false->Kp W (W.putObj l o')) (hps:∀ x,(encs x).size=ps.size)
 (hFin:OwnFrom w.heap.size (fun (_:Unit) W=>Fin W))
 (I:List α->World->Prop) (hI:OwnFrom w.heap.size I) (hIt:∀ s A B,I s A->ItW gb w.heap.size A B->I s B) (h0:I [] w) (a₁:α->Act)
 (hassign:∀ (l:Nat) (x:α) (W:World) (K:Act->World->Prop),K (a₁ x) W ->
  assign.wpIn (Fence.wide.inRound l) (n - 1 - 1) P (Exit.then K (fun _ _ _=>False)) { tmps:=(ps.zip (encs x)).foldl (fun t (p,v)=>t.setIfInBounds p v) a.tmps,defers:=[] } W)
 (hbody:∀ (l:Nat) (pre:List α) (x:α) (W:World),w.heap.size<=l->I pre W->pre.length<N->body.wpIn (Fence.wide.inRound l) (n - 1 - 1) P (fun e _ W'=>e = .normal/\KeepsFrom w.heap.size W W'/\Kp W W'/\I (pre++[x]) W') (a₁ x) W)
 (hdone:∀ (D:Nat) (xs:List α) (W:World),w.heap.size<=D->S xs->I xs W->Fin W->W.heap[D]?=some (.deferred (some []))->Q .normal { a with defers:={ target:= .collected D,args:=#[] }::a.defers } W) :
 (Code.rangeFunc g ps assign body).wpIn Fence.wide n P Q a w:=by
 refine wpIn_rangeFunc fun fn hfn=>?_
 obtain ⟨R,hR⟩:∃ R:LoopState->Loop,R=fun st=>{ state:=st,pending:=none,fn,tmps:=a.tmps,params:=ps,assign,body,defers:=w.heap.size }:=⟨_,rfl⟩
 have hst:∀ st,(R st).state=st:=fun st=>by rw [hR]
 have hup:∀ st st',{ R st with state:=st' }=R st':=fun st st'=>by rw [hR]
 obtain ⟨V,hV⟩:=Zx ((w.alloc (.deferred (some []))).alloc (.loop (R .ready)));have vL:V.heap[w.heap.size+1]?=some (.loop (R .ready)):=by
  have:=World.alloc_heap_new (w.alloc (.deferred (some []))) (.loop (R .ready));rw [World.size_alloc,hV] at this;exact this
 have vD:V.heap[w.heap.size]?=some (.deferred (some [])):=by
  rw [<- hV];exact (Below.heap_alloc _ _ _ aS).trans (World.alloc_heap_new w _)
 have vS:V.heap.size=w.heap.size+1+1:=by rw [<- hV]; simp
 have vB:Below w.heap.size w V:=by rw [<- hV]; exact ((Zb _ w).alloc (Zr _) _).alloc aS _
 have vI:I [] V:=hIt _ _ _ h0 (ItW.below vB);refine ⟨w.heap.size+1,[{ target:= .collected w.heap.size,args:=#[] }],V,{ target:= .fn (.func gf) lb,args:=#[.func (.yield (w.heap.size+1)) #[] #[]] },V,gf,
  #[.func (.yield (w.heap.size+1)) #[] #[]]++lb,V,?_,?_,fun _ _=>trivial,?_,fun _=>h1,?_⟩
 ·rw [<- hV,hR]; exact run_enterLoop_outer _ _ _ _ _
 ·simp only [resolve,hg];simp [go_sem]
 ·simp [invoke,go_sem,eg]
 refine (hseq (w.heap.size+1) (fun pre W=>I pre W/\W.heap[w.heap.size+1]?=some (.loop (R .ready))/\W.heap[w.heap.size]?=some (.deferred (some []))) V vB
  (fun s A B hA hAB=>⟨hIt s A B hA.1 (hAB.mono aO),hAB.rest _ _ hA.2.1 rfl,hAB.rest _ _ hA.2.2 rfl⟩) ?_ ⟨vI,vL,vD⟩).mono ?_
 ·rintro pre x W ⟨wI,wL,wD⟩ hlen;have hy:=run_yield (P:=P) (args:=encs x) wL (by rw [hR]; exact hps x);rw [hR] at hy;refine ⟨fn,_,assign,body,hy,roundIn_of_wpIn hfn (hassign _ x W _ ?_)⟩;clear hy;have hlt:=(Zt.1 wL).1;refine ⟨_,run_beginRound wL (hst _),?_⟩;rw [hup];have uL:(W.putObj (w.heap.size+1) (.loop (R .busy))).heap[w.heap.size+1]?=some (.loop (R .busy)):=World.putObj_heap_same hlt;have uD:(W.putObj (w.heap.size+1) (.loop (R .busy))).heap[w.heap.size]?=some (.deferred (some [])):=(World.putObj_heap_other aO).trans wD;have uK:Kp W (W.putObj (w.heap.size+1) (.loop (R .busy))):=hKb _ _ _ _ aO wL rfl rfl;refine wpIn_mono (hbody _ pre x _ aO (hI.putObj _ wI aO wL rfl) hlen) ?_;rintro e a3 U ⟨rfl,hKf,hKp,hIU⟩;have tL:=hKf.same _ _ aO uL rfl;have tD:=hKf.same _ _ (Zr _) uD rfl;have hr:=run_endRound (P:=P) none tL;simp only [Option.isNone_none,if_true] at hr;have e0:({ R .busy with state:= .ready,pending:=none }:Loop)=R .ready:=by rw [hR]
  rw [e0] at hr;exact ⟨_,_,hr,rfl,⟨hI.putObj _ hIU aO tL rfl,World.putObj_heap_same (Zt.1 tL).1,(World.putObj_heap_other aO).trans tD⟩,hKt uK (hKt hKp (hKb _ _ _ _ aO tL rfl rfl))⟩
 ·rintro e U ⟨⟨v,rfl⟩,xs,hS,⟨hIU,tL,tD⟩,hF⟩;have hr:=run_endLoop (P:=P) tL (by rw [hst]; simp);have e0:(R .ready).pending=none:=by rw [hR]
  rw [e0] at hr;exact ⟨none,_,hr,hdone _ xs _ (Zr _) hS (hI.putObj _ hIU aO tL rfl) (hFin.putObj (s:=()) _ hF aO tL rfl) ((World.putObj_heap_other aO).trans tD)⟩
end Go.Proofs.YtflgngjocgiojaaGreat
