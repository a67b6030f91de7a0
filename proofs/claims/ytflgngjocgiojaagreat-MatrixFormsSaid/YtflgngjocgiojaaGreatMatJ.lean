import Derived.Test.YtflgngjocgiojaaGreatMatG
set_option linter.all false
namespace Go.Proofs.YtflgngjocgiojaaGreat
set_option maxRecDepth 100000
set_option maxHeartbeats 8000000
open Go.RowKit
attribute [local go_sem] Oper.semAt_some
theorem matrix_leads (S:Nat) (w:World) :
 Calls Tryz.prog 57 #[.pointer (some ⟨S,0,none⟩)] w fun r w'=>r = .returned (.func (.func 97) #[] #[.pointer (some ⟨w.heap.size,0,none⟩)])/\Own w' w.heap.size #[.pointer (some ⟨S,0,none⟩)]/\Below w.heap.size w w':=by
 go_enter Tryz.func57,Tryz.ntmps57;have hW:=(Zb w.heap.size w).alloc (Zr _) (.cells #[.pointer (some ⟨S,0,none⟩)] 88);have o:=Own.new (w:=w) (b:=w.heap.size) (cs:=#[.pointer (some ⟨S,0,none⟩)]) (T:=88) rfl;go_wp2;go_ret;exact ⟨rfl,o,hW⟩
theorem KI.grown {B:Nat} {W W':World} {row:Option Nat} (hg:W.grownBy W' row) (hr:∀ r,row=some r->B<=r/\∃ o:Obj,W.heap[r]?=some o/\o.isCells=false):KI W W':=
 ⟨hg.size,fun b cs T r h _=>(hg.block b (Zt.1 h).1 (fun e=>by
  obtain ⟨_,o,ho,hc⟩:=hr b e.symm;rw [h] at ho; cases ho; simp [Obj.isCells] at hc)).trans h⟩
theorem SysAt.ki {B0:Nat} {w w':World} {S k:Nat} {L:List (List Int)} (h:SysAt B0 w S L k) (hk:KI w w'):SysAt B0 w' S L k:=by
 obtain ⟨h0,h1,A,c,h2,h3,h4,h5⟩:=h;refine ⟨h0,Zl h1 hk.size,A,c,h2.ki hk (fun i e=>by simp at e),h3,h4,fun h0=>?_⟩;obtain ⟨g,e,hg,hB,hm⟩:=h5 h0;exact ⟨g,e,hg,hB,hm.ki hk h0⟩
theorem SysAt.below {B0:Nat} {w w':World} {S k:Nat} {L:List (List Int)} (h:SysAt B0 w S L k) (hk:Below w.heap.size w w'):SysAt B0 w' S L k:=h.ki (KI.below hk)
theorem sysAt_own {B0 S k B:Nat} {L:List (List Int)}:OwnFrom B (fun (_:Unit) W=>SysAt B0 W S L k):=fun _ X Y row hs hg hr=>hs.ki (KI.grown hg hr)
def FineL (L:List (List Int)) (k wd:Nat):Prop:=∀ c,c<=k->SmL (runB ⟨L,1,0⟩ c).L wd
theorem leads1_nil (n l Bx S:Nat) (hn:1<=n) (A:Option Addr) (cap N:Nat) (J:List (Nat×Nat)->World->Prop) (W:World) (g:Nat)
 (hJ:∀ s X Y,J s X->ItW g W.heap.size X Y->J s Y) (hbox:Own W Bx #[.pointer (some ⟨S,0,none⟩)]) (hsys:Own W S #[.slice A N cap,.int .i64 (0:Nat)]) (hJ0:J [] W) :
 CallsIn Fence.wide n Tryz.prog 97 #[.func (.yield l) #[] #[],.pointer (some ⟨Bx,0,none⟩)] W fun e W'=>(∃ v,e = .returned v)/\J [] W'/\KI W W':=by
 refine callsIn_of_wp Tryz.func97 rfl trivial ?_ rfl;simp only [Tryz.ntmps97,List.size_toArray,List.length_cons,List.length_nil,Nat.reduceAdd,Nat.reduceSub,Array.replicate_succ,Array.replicate_zero,List.push_toArray,List.append_toArray,List.nil_append,List.cons_append];have HJ:=Zh hJ;have HB:=Zh hbox;have HO:=Zh hsys;have H0:=Zh hJ0;clear hJ hbox hsys hJ0;refine wpIn_scope ?_;gi_wp2_with fail;refine ⟨trivial,(callsIn_wide.2 (of_val (w:=W) 1 aO aO)).mono ?_⟩;rintro e w1 ⟨⟨b1,rfl,g1,g2,g3⟩,hb1⟩;obtain ⟨A8,n8,c8,hs8⟩:=slN_form 1 b1;simp only [numV];rw [hs8];have hW2:Below W.heap.size W (w1.alloc (.cells #[.bool (sgnN 1),.slice A8 n8 c8] 35)):=hb1.alloc hb1.size _;have HJ1:=Zh (HJ.out _ _ _ H0.out (ItW.below hW2));have oB:=HB.out.below hW2;have oS:=HO.out.below hW2;have HK:=Zh (KI.below hW2);clear g1 g2 g3 hs8 hb1 hW2;gi_wp2;refine wpIn_label ?_;generalize (w1.alloc (.cells #[.bool (sgnN 1),.slice A8 n8 c8] 35))=W2 at *;have oBc:=oB.cell;have oSc:=oS.cell;gi_wp2;gi_loopw [4,14] (fun a i wr=>i = .int .i64 (0:Nat)/\J [] wr/\KI W wr) (fun _ _ _=>0)
 case atStart=>exact ⟨rfl,HJ1.out,HK.out⟩
 case round =>
  clear HJ1 HK;obtain ⟨rfl,hJ1,hK⟩:=hrel;have HJ1:=Zh hJ1;have HK:=Zh hK;clear hJ1 hK;gi_wp2;simp only [Exit.noGoto_normal];go_end0;exact ⟨⟨_,rfl⟩,HJ1.out,HK.out⟩
theorem leads_seq (n:Nat) (hn:1<=n) {w:World} {B0 Bx S k wd:Nat} {L:List (List Int)} (hbox:Own w Bx #[.pointer (some ⟨S,0,none⟩)]) (hsys:SysAt B0 w S L k) (hN:L.length<=900) (hw:Wide L wd) (hk:k<=wd) (hwd:wd<=900) (h0:L=[]->k=0) (hf:FineL L k wd) :
 ∃ g,B0<=g/\g<w.heap.size/\(∀ b i,Own w b #[.int .i64 i]->b≠g) /\
  SeqItW n Tryz.prog 97 #[.pointer (some ⟨Bx,0,none⟩)] (fun x:Nat×Nat=>#[.int .i64 (x.1:Nat),.int .i64 (x.2:Nat)]) KI g (fun xs=>xs=leadsB ⟨L,1,0⟩ k) 1000 (fun W=>SysAt B0 W S (runB ⟨L,1,0⟩ k).L k) w:=by
 obtain ⟨hS0,hSl,A,cap,ho,hc1,hc2,hrow⟩:=hsys;have hdis:∀ b cs i,Own w b cs->Own w b #[.int .i64 i]->cs=#[.int .i64 i]:=fun b cs i h1 h2=>by
  obtain ⟨T1,h1⟩:=h1;obtain ⟨T2,h2⟩:=h2;rw [h1] at h2;cases h2; rfl
 rcases Nat.eq_zero_or_pos L.length with hL | hL
 ·obtain rfl:L=[]:=List.eq_nil_of_length_eq_zero hL;obtain rfl:=h0 rfl;refine ⟨S,hS0,hSl,fun b i h e=>?_,fun l J W hW hJ hY hJ0=>?_⟩
  ·subst e;have:=hdis _ _ _ ho h;simp at this
  ·refine (leads1_nil n l Bx S hn A cap 0 J W S hJ (hbox.below hW) (ho.below hW) hJ0).mono ?_;rintro e W' ⟨h1,h2,h3⟩;refine ⟨h1,[],rfl,h2,?_⟩;have:SysAt B0 W S [] 0:=⟨hS0,Zl hSl hW.size,A,cap,ho.below hW,hc1,hc2,fun h=>by simp at h⟩;exact this.ki h3
 ·obtain ⟨g,rfl,hgS,hgB,hm⟩:=hrow hL;have hBg:Bx≠g:=fun e=>by
   subst e;obtain ⟨cs,hcs,hrows⟩:=hm;obtain ⟨B,c,h1,_⟩:=hrows 0 hL;obtain ⟨T1,h5⟩:=hbox;obtain ⟨T2,h6⟩:=hcs;rw [h5] at h6;cases h6;simp at h1
  refine ⟨g,hgB,by obtain ⟨cs,hcs,_⟩:=hm; exact hcs.lt,fun b i h e=>?_,fun l J W hW hJ hY hJ0=>?_⟩
  ·subst e;obtain ⟨cs,hcs,hrows⟩:=hm;obtain ⟨B,c,h1,_⟩:=hrows 0 hL;have:=hdis _ _ _ hcs h;rw [this] at h1;simp at h1
  ·have hmX:=hm.below hW;refine (leads1_in n l Bx S g cap k wd hn L ⟨L,1,0⟩ rfl J W hJ hY (hbox.below hW) (ho.below hW) hmX hBg (fun e=>hgS e.symm) hL hN hw hk hwd hc1 hc2 hf hJ0).mono ?_;rintro e W' ⟨h1,h2,h3,h4⟩;have hl:(runB ⟨L,1,0⟩ k).L.length=L.length:=runB_len _ k;exact ⟨h1,_,rfl,h2,hS0,h3.lt,_,cap,by rw [hl]; exact h3,by rw [hl]; exact hc1,hc2,fun _=>⟨g,rfl,hgS,hgB,h4⟩⟩
theorem matCheck_ok {M:List (List Int)} (h:matCheck M=0):M.length<=48/\cols M<=8/\(∀ i,i<M.length->(rAt M i).length=cols M)/\∀ i,i<M.length->∀ k,k<cols M->largeI (iAt (rAt M i) k)=false:=by
 unfold matCheck at h;split at h
 ·cases h
 ·rename_i h1
  split at h
  ·cases h
  ·rename_i h2
   split at h
   ·cases h
   ·rename_i h3
    have h2':anyF (fun i=>decide ((rAt M i).length≠cols M)) M.length=false:=by simpa using h2
    have h3':anyF (fun i=>anyF (fun k=>largeI (iAt (rAt M i) k)) (rAt M i).length) M.length=false:=by simpa using h3
    have hw:∀ i,i<M.length->(rAt M i).length=cols M:=fun i hi=>by
     have:=anyF_none h2' hi;simpa using this
    refine ⟨aO,aO,hw,fun i hi k hk=>?_⟩;have h4:=anyF_none h3' hi;exact anyF_none h4 (by rw [hw i hi]; exact hk)
theorem rAt_sysL (M:List (List Int)) (lb:List Int):∀ {n i:Nat},i<n->rAt (sysL M lb n) i=sysR M lb i
 | n+1,i,h=>by
  rcases rAt_snoc (L:=sysL M lb n) (Z:=sysR M lb n) (i:=i) (by simp [sysL_len]; exact h) with ⟨h1,h2⟩ | ⟨h1,h2⟩
  ·rw [sysL,h2];exact rAt_sysL M lb (by rw [sysL_len] at h1; exact h1)
  ·rw [sysL,h2];rw [sysL_len] at h1;rw [h1]
end Go.Proofs.YtflgngjocgiojaaGreat
namespace Go.Proofs.YtflgngjocgiojaaGreat
set_option maxRecDepth 100000
set_option maxHeartbeats 8000000
open Go.RowKit
attribute [local go_sem] Oper.semAt_some
def rankZ (M:List (List Int)):Nat:=if matCheck M=0 then (leadsB ⟨sysL M [] M.length,1,0⟩ (cols M)).length else 0
theorem ItW.boxed {g B:Nat} {W W':World} {b:Nat} {t:TypeId} {v:Value} (h:ItW g B W W') (hb:Boxed W b t v) (hg:b≠g) (hB:b<B):Boxed W' b t v:=(h.block b hb.lt hg hB).trans hb
theorem ItW.below_ {g B:Nat} {w W W':World} (h:ItW g B W W') (hb:Below w.heap.size w W) (hg:w.heap.size<=g) (hB:w.heap.size<=B):Below w.heap.size w W':=
 hb.trans ⟨h.os,h.tape,h.output,h.size,fun k hk=>h.block k (Zl hk hb.size) aO aO⟩
theorem sysR_nil (M:List (List Int)) (i:Nat):sysR M [] i=rAt M i:=by unfold sysR; rw [if_neg aS,List.append_nil]
theorem wide_sys {M:List (List Int)} {n k:Nat} (h:∀ i,i<n->(rAt M i).length=k):Wide (sysL M [] n) k:=fun i hi=>by
 rw [sysL_len] at hi;rw [rAt_sysL M [] hi,sysR_nil];exact h i hi
theorem foldl_two (t:Array Value) (p q:Tmp) (a b:Value):(#[p,q].zip #[a,b]).foldl (fun t (p,v)=>t.setIfInBounds p v) t=(t.setIfInBounds p a).setIfInBounds q b:=by simp [<- Array.foldl_toList]
theorem KI.box {W:World} {B:Nat} {t:TypeId} {i:Int} (h:Boxed W B t (.int .i64 i)) (u:Value):KI W (W.setCell ⟨B,0,none⟩ u):=
 ⟨by simp [World.setCell],fun b cs T r h1 h2=>by
  by_cases e:b=B
  ·subst e;have:W.heap[b]?=some (.cells #[.int .i64 i] t (0,0)):=h;rw [this] at h1; cases h1;exact absurd rfl (h2 i)
  ·exact (Below.heap_setCell _ _ _ b e).trans h1⟩
theorem intsNil (w:World):IntsAt w none 0 []:=⟨rfl,fun i hi=>by simp at hi,fun h=>aO⟩
theorem matrix_Rank {w:World} {A:Option Addr} {n:Nat} {M:List (List Int)} (c:Nat) (h:RowsAt w A n M) (hf:matCheck M=0->FineL (sysL M [] M.length) (cols M) (cols M)) :
 Calls Tryz.prog 19 #[.slice A n c] w fun e w'=>e = .returned (.tuple #[.int .i64 (rankZ M:Nat),.int .i64 (matCheck M)])/\Below w.heap.size w w':=by
 have H:=Zh h;have hl:=h.len;have q:=matrix_check c h;obtain ⟨e,he⟩:=Zx (matCheck M);rw [he] at q ⊢;obtain ⟨rk,hrk⟩:=Zx (rankZ M);rw [hrk];have HK:=Zh (Zi he hrk);have Q:=Zh q;have HF:=Zh hf;have HL:=Zh hl;clear h q he hrk hf hl;refine (callsIn_wide (n:=5)).1 ?_;refine callsIn_of_wp_marks Tryz.func19 rfl trivial ?_ rfl;simp only [Tryz.ntmps19,List.size_toArray,List.length_cons,List.length_nil,Nat.reduceAdd,Nat.reduceSub,Array.replicate_succ,Array.replicate_zero,List.push_toArray,List.append_toArray,List.nil_append,List.cons_append];gi_wp2_with fail;refine ⟨trivial,(callsIn_wide.2 Q.out).mono ?_⟩;rintro e2 w1 ⟨rfl,hb1⟩;have hz1:=hb1.size
 by_cases he0:e=0
 ·subst he0;have hok:=matCheck_ok HK.out.1;rw [HL.out] at hok;have HO:=Zh hok;have hn48:=hok.1;have hc8:=hok.2.1;have hB1:=hb1.alloc hz1 (.cells #[.int .i64 0] 3);have bN:=Boxed.new w1 3 (.int .i64 0);have hWz:=hB1.size;gi_wp2_with fail;obtain ⟨Bn,hBn⟩:=Zx (w1.heap.size);rw [hBn] at bN ⊢;generalize (w1.alloc (.cells #[.int .i64 0] 3))=w2 at *;have qo:=matrix_of c 0 (H.out.below hB1) (intsNil w2) aO (fun i hi=>by rw [HO.out.2.2.1 i hi]; omega) aO;refine ⟨trivial,(callsIn_wide.2 qo).mono ?_⟩;clear qo;rintro e3 w3 ⟨⟨S,rfl,hS⟩,hb3⟩;have HS:=Zh hS;have bN3:=boxB bN hb3;have hB3:=hB1.trans (hb3.mono hWz);have hz3:=hb3.size;have hBn3:Bn<w3.heap.size:=bN3.lt;clear hS hb3 bN hok;gi_wp2_with fail;refine ⟨trivial,(callsIn_wide.2 (matrix_leads S w3)).mono ?_⟩;rintro e4 w4 ⟨rfl,hbx,hb4⟩;have HS4:=Zh (HS.out.below hb4);have bN4:=boxB bN3 hb4;have hB4:=hB3.trans (hb4.mono (Zm hWz hz3));have hz4:=hb4.size;clear hb4 bN3 HS;obtain ⟨g,hg1,hg2,hg3,hseq⟩:=leads_seq (5 - 1) aO (wd:=cols M) hbx HS4.out (by rw [sysL_len]; omega) (wide_sys HO.out.2.2.1) (Zr _) aO (fun h=>by
   have h1:=congrArg List.length h;rw [sysL_len] at h1;have h2:=HL.out;have h3:n=0:=h1;rw [h3] at h2;rw [List.eq_nil_of_length_eq_zero h2]; rfl) (by have:=HF.out HK.out.1; rw [HL.out] at this; exact this)
  gi_wp2;refine wpIn_range_itW aO (gf:=97) (lb:=#[.pointer (some ⟨w3.heap.size,0,none⟩)]) rfl (enters_of Tryz.func97 aK rfl)
   hseq hg2 KI.trans (KI.putObj (w:=w4)) (fun _=>rfl) sysAt_own
   (fun pre W=>Boxed W Bn 3 (.int .i64 (pre.length:Nat))/\Below w.heap.size w W)
   (fun _ _ _ _ ⟨h1,h2⟩ hg hr=>⟨boxed_own' () _ _ _ h1 hg hr,ownFrom_below (Zr _) aO () _ _ _ h2 hg hr⟩)
   (fun s X Y ⟨h1,h2⟩ hI=>⟨hI.boxed h1 (hg3 _ _ (box_own bN4)) aO,hI.below_ h2 aO aO⟩)
   ⟨bN4,hB4⟩
   (fun x=>{ tmps:=#[.slice A n c,undef,.int .i64 0,.int .i64 0,.int .i64 0,.pointer (some ⟨Bn,0,none⟩),.slice A n c,.int .i64 0,.int .i64 0,.bool false,undef,.slice A n c,.pointer (some ⟨S,0,none⟩),.func (.func 97) #[] #[.pointer (some ⟨w3.heap.size,0,none⟩)],.int .i64 (x.1:Nat),.int .i64 (x.2:Nat),undef,undef,undef],defers:=[] })
   ?assign ?body ?done
  case assign =>
   intro l x W K hK;rw [foldl_two]
   (try simp only [LN])
   refine wpIn_skip ?_;exact hK
  case body =>
   rintro l pre x W hl ⟨h1,h2⟩ hlen;have c1:=(box_own h1).cell 0;have f1:=h1.frozen;simp only [List.size_toArray,List.getElem?_toArray,List.getElem?_cons_zero] at c1;gi_wp2;exact ⟨(KeepsOthers.setCell _ _ _).from _,KI.box h1 _,box_set h1 _,h2.setCell aT _⟩
  case done =>
   rintro D xs W hD rfl ⟨h1,h2⟩ hF hK;have hrk:(leadsB ⟨sysL M [] n,1,0⟩ (cols M)).length=rk:=by
    rw [<- HK.out.2]; unfold rankZ; rw [if_pos HK.out.1,HL.out]
   rw [hrk] at h1;have c1:=(box_own h1).cell 0;simp only [List.size_toArray,List.getElem?_toArray,List.getElem?_cons_zero] at c1;clear hrk hF;gi_wp2;refine ⟨aS,.inl ⟨_,_,rfl,run_takeDeferred hK,?_⟩⟩;refine ⟨_,by simp [results,Tryz.results19,go_sem]; exact rfl,?_⟩;exact ⟨rfl,h2.trans (belowK_b (w:=w) (Zr _) _ D _ _ aO hK rfl rfl)⟩
 ·obtain rfl:rk=0:=by rw [<- HK.out.2]; unfold rankZ; rw [if_neg (by rw [HK.out.1]; exact he0)]
  have hne:(e != 0)=true:=bne_iff_ne.2 he0;have HW:=Zh hb1;clear he0 hb1;gi_wp2;refine ⟨_,by simp [results,Tryz.results19,go_sem]; exact rfl,?_⟩;exact ⟨rfl,HW.out⟩
end Go.Proofs.YtflgngjocgiojaaGreat
namespace Go.Proofs.YtflgngjocgiojaaGreat
open Go.RowKit
set_option maxHeartbeats 8000000
set_option maxRecDepth 100000
theorem ratio_Of {w:World} {v1 v2:Value} {z1 z2:Int} (h1:NumAt w v1 z1) (h2:NumAt w v2 z2) (h0:z2≠0):Calls Tryz.prog 22 #[v1,v2] w (RetR w (ofN z1 z2) (ofD z1 z2)):=by
 by_cases h:0<z2
 ·exact ratio_Of_pos h1 h2 h
 ·exact ratio_Of_neg h1 h2 aO
theorem ratio_over_ne {w:World} {v1 v2:Value} {z1 z2:Int} (h1:ProdAt w v1 z1) (h2:ProdAt w v2 z2) (h0:z2≠0):Calls Tryz.prog 75 #[v1,v2] w (RetR w (ofN z1 z2) (ofD z1 z2)):=by
 obtain ⟨z,hz⟩:=Zx (ofN z1 z2);obtain ⟨y,hy⟩:=Zx (ofD z1 z2);rw [hz,hy];obtain ⟨s1,A1,n1,c1,rfl,g1⟩:=h1;obtain ⟨s2,A2,n2,c2,rfl,g2⟩:=h2;have G1:=Zh g1;have G2:=Zh g2;have H:=Zh (Zi hz (Zi hy h0));clear g1 g2 hz hy h0;have hW:=((((Zb w.heap.size w).alloc (Zr _) (.cells #[.bool s1,.slice A1 n1 c1,.bool true] 113)).alloc aS (.cells #[.bool s2,.slice A2 n2 c2,.bool true] 113)).alloc aT (.cells nz2 37));have o4:Own (((w.alloc (.cells #[.bool s1,.slice A1 n1 c1,.bool true] 113)).alloc (.cells #[.bool s2,.slice A2 n2 c2,.bool true] 113)).alloc (.cells nz2 37)) (w.heap.size+1+1) nz2:=aOwn;go_enter Tryz.func75,Tryz.ntmps75;go_wp2_with fail;generalize (((w.alloc (.cells #[.bool s1,.slice A1 n1 c1,.bool true] 113)).alloc (.cells #[.bool s2,.slice A2 n2 c2,.bool true] 113)).alloc (.cells nz2 37))=W0 at *;have hz0:=hW.size;have q:=ratio_Of (G1.out.below hW) (G2.out.below hW) H.out.2.2;rw [H.out.1,H.out.2.1] at q;refine Zd q ?_;clear q;rintro e u1 ⟨⟨b1,b2,rfl,oN,oM,loN,hiN,loM,hiM⟩,hb⟩;have q4:=o4.below hb;have hwu:=hW.trans (hb.mono hz0);have q4c:=q4.cell;have q4f:=q4.thaw;have o4l:=o4.lt;have HN:=Zh (Zi oN oM);obtain ⟨A7,n7,c7,hs7⟩:=slN_form z b1;obtain ⟨A8,n8,c8,hs8⟩:=slN_form y b2;simp only [ratV];rw [hs7,hs8];have HSL:=Zh (Zi hs7 hs8);clear hs7 hs8 oN oM hb o4;go_wp2;refine retC (b:=w.heap.size+1+1) (v:= .tuple #[.agg #[.bool (sgnN z),.slice A7 n7 c7,.bool (sgnN y),.slice A8 n8 c8],.bool true]) (((((q4.set 0 (.bool (sgnN z))).set 1 (.slice A7 n7 c7)).set 2 (.bool (sgnN y))).set 3 (.slice A8 n8 c8))) (fun w' hw'=>by simp [results,Tryz.results75,go_sem,hw']) rfl ⟨⟨b1,b2,by rw [ratV,HSL.out.1,HSL.out.2],((((HN.out.1).far aT _).far aT _).far aT _).far aT _,((((HN.out.2).far aT _).far aT _).far aT _).far aT _,aO,aT,aO,aT⟩,((((hwu.setCell aT _).setCell aT _).setCell aT _).setCell aT _)⟩
theorem ratio_Div {w:World} {v1 v2:Value} {a b c d:Int} (h1:RatAt w v1 a b) (h2:RatAt w v2 c d) (k1:goodQ a b=true) (k2:goodQ c d=true) (h0:c≠0) (f1:fits (a*d)=true) (f2:fits (b*c)=true) :
 Calls Tryz.prog 100 #[v1,v2] w (RetR w (ofN (a*d) (b*c)) (ofD (a*d) (b*c))):=by
 obtain ⟨z,hz⟩:=Zx (ofN (a*d) (b*c));obtain ⟨y,hy⟩:=Zx (ofD (a*d) (b*c));rw [hz,hy];obtain ⟨ac,hac⟩:=Zx (a*d);obtain ⟨bd,hbd⟩:=Zx (b*c);have hb0:0<b:=by unfold goodQ at k1; simp at k1; exact k1.1
 have hbd0:bd≠0:=by rw [<- hbd]; exact Int.mul_ne_zero aO h0
 obtain ⟨o,ho⟩:=Zx (ordI c 0);have ho0:(o==0)=false:=by
  rw [<- ho]; unfold ordI;apply beq_eq_false_iff_ne.2;split
  ·omega
  ·split <;> omega
 have HSG:=Zh ho;clear ho;rw [hac] at f1 hz hy;rw [hbd] at f2 hz hy;have R1:=Zh (Zi h1 k1);have R2:=Zh (Zi h2 k2);have H:=Zh (Zi hz (Zi hy (Zi hac (Zi hbd (Zi hbd0 (Zi f1 f2))))));obtain ⟨s1,A1,n1,c1,t1,E1,m1,d1,rfl,g1,g2⟩:=h1;obtain ⟨s2,A2,n2,c2,t2,E2,m2,d2,rfl,g3,g4⟩:=h2;have G1:=Zh g1;have G2:=Zh g2;have G3:=Zh g3;have G4:=Zh g4;clear hz hy hac hbd hb0 hbd0 f1 f2 k1 k2 g1 g2 g3 g4;have hW:=((((Zb w.heap.size w).alloc (Zr _) (.cells #[.bool s1,.slice A1 n1 c1,.bool t1,.slice E1 m1 d1] 37)).alloc aS (.cells #[.bool s2,.slice A2 n2 c2,.bool t2,.slice E2 m2 d2] 37)).alloc aT (.cells nz2 37));have o2:Own (((w.alloc (.cells #[.bool s1,.slice A1 n1 c1,.bool t1,.slice E1 m1 d1] 37)).alloc (.cells #[.bool s2,.slice A2 n2 c2,.bool t2,.slice E2 m2 d2] 37)).alloc (.cells nz2 37)) w.heap.size #[.bool s1,.slice A1 n1 c1,.bool t1,.slice E1 m1 d1]:=aOwn;have o3:Own (((w.alloc (.cells #[.bool s1,.slice A1 n1 c1,.bool t1,.slice E1 m1 d1] 37)).alloc (.cells #[.bool s2,.slice A2 n2 c2,.bool t2,.slice E2 m2 d2] 37)).alloc (.cells nz2 37)) (w.heap.size+1) #[.bool s2,.slice A2 n2 c2,.bool t2,.slice E2 m2 d2]:=aOwn;have o4:Own (((w.alloc (.cells #[.bool s1,.slice A1 n1 c1,.bool t1,.slice E1 m1 d1] 37)).alloc (.cells #[.bool s2,.slice A2 n2 c2,.bool t2,.slice E2 m2 d2] 37)).alloc (.cells nz2 37)) (w.heap.size+1+1) nz2:=aOwn;go_enter Tryz.func100,Tryz.ntmps100;go_wp2_with fail;generalize (((w.alloc (.cells #[.bool s1,.slice A1 n1 c1,.bool t1,.slice E1 m1 d1] 37)).alloc (.cells #[.bool s2,.slice A2 n2 c2,.bool t2,.slice E2 m2 d2] 37)).alloc (.cells nz2 37))=W0 at *;have q:=ratio_Right (R1.out.1.below hW);rw [R1.out.2] at q;refine Zd q ?_;clear q;rintro e u1 ⟨rfl,hb⟩;have hW1:=hW.trans (hb.mono hW.size);replace o2:=o2.below hb;replace o3:=o3.below hb;replace o4:=o4.below hb;have o3c:=o3.cell;clear hb hW;go_wp2_with fail;have q:=ratio_Sign (R2.out.1.below hW1) R2.out.2;rw [HSG.out] at q;refine Zd q ?_;clear q;rintro e u2 ⟨rfl,hb⟩;have hWW:=hW1.trans (hb.mono hW1.size);have p2:=o2.below hb;have p3:=o3.below hb;have p4:=o4.below hb;have p4z:=p4.lt;have X1:=Zh (G1.out.below hWW);have X2:=Zh (G2.out.below hWW);have X3:=Zh (G3.out.below hWW);have X4:=Zh (G4.out.below hWW);clear hb hW1 o2 o3 o4 o3c;go_wp2;have hTb:∀ b,b∈[w.heap.size+1+1]->b<u2.heap.size:=fun b hm=>by
  have h1:=List.mem_singleton.1 hm;omega
 have hTn:∀ b∈[w.heap.size+1+1],∃ cs,Own u2 b cs/\noU cs:=fun b hm=>by
  have h1:=List.mem_singleton.1 hm;subst h1;exact ⟨_,p4,noU_rat⟩
 have hwT:∀ u,Upd [w.heap.size+1+1] u2 u->Below w.heap.size w u:=fun u hu=>Upd.below hWW hu aT
 refine region_gen (T:=[w.heap.size+1+1]) [.make 4 [] (prodB _ ac),.make 9 [] (prodB _ bd),.make 10 [4,9] (ratB _ w.heap.size z y),.need 11 [10]] 13 0 40 (fun _ u=>Own u (w.heap.size+1+1) nz2) (fun _ _ _ h k=>h.below k) p4 aK aK (by rfl) ?_;have q_d2:=fun v y=>(p2.later (v:=v) (T:=[w.heap.size+1+1]) aT y).cell
 have q_d3:=fun v y=>(p3.later (v:=v) (T:=[w.heap.size+1+1]) aS y).cell
 unfold genWalk;refine ⟨_,pz1,?_⟩;refine one_of (by rfl) ⟨fun f=>⟨rfl,fun u hu _=>?_⟩,?_⟩
 ·refine make_call (f:=73) (args:=#[.agg #[.bool s1,.slice A1 n1 c1],.agg #[.bool t2,.slice E2 m2 d2]]) gA6 ?_;have q:=ratio_times (w:=u) (NumAt.keepU X1.out hu hTn) (NumAt.keepU X4.out hu hTn);rw [H.out.2.2.1] at q;refine q.mono ?_;rintro e wx ⟨⟨b,rfl,q1,q2,q3⟩,hbx⟩;exact ⟨(b,0),rfl,q2,q3,hbx,fun hm=>absurd (hTb b hm) (by have:=hu.1; omega),q1⟩
 have q_d2:=fun v y=>(p2.later (v:=v) (T:=[w.heap.size+1+1]) aT y).cell
 have q_d3:=fun v y=>(p3.later (v:=v) (T:=[w.heap.size+1+1]) aS y).cell
 unfold genWalk;refine ⟨_,pz7,?_⟩;refine one_of (by rfl) ⟨fun f=>⟨rfl,fun u hu _=>?_⟩,?_⟩
 ·refine make_call (f:=73) (args:=#[.agg #[.bool t1,.slice E1 m1 d1],.agg #[.bool s2,.slice A2 n2 c2]]) gA6 ?_;have q:=ratio_times (w:=u) (NumAt.keepU X2.out hu hTn) (NumAt.keepU X3.out hu hTn);rw [H.out.2.2.2.1] at q;refine q.mono ?_;rintro e wx ⟨⟨b,rfl,q1,q2,q3⟩,hbx⟩;exact ⟨(b,0),rfl,q2,q3,hbx,fun hm=>absurd (hTb b hm) (by have:=hu.1; omega),q1⟩
 unfold genWalk;refine ⟨_,pz7,?_⟩;refine one_of (by rfl) ⟨fun f=>⟨rfl,fun u hu hm=>?_⟩,?_⟩
 ·refine make_call (f:=75) (args:=#[prodV ac (f 4).1,prodV bd (f 9).1]) gA6 ?_;have e1:NumO u (f 4).1 ac:=(show (prodB [w.heap.size+1+1] ac).R (f 4) u from hm 4 aS).2;have e2:NumO u (f 9).1 bd:=(show (prodB [w.heap.size+1+1] bd).R (f 9) u from hm 9 aS).2;have q:=ratio_over_ne (w:=u) (RetP.prod e1 H.out.2.2.2.2.2.1) (RetP.prod e2 H.out.2.2.2.2.2.2) H.out.2.2.2.2.1;rw [H.out.1,H.out.2.1] at q;refine q.mono ?_;rintro e wx ⟨⟨b1,b2,rfl,q1,q2,q3,q4,q5,q6⟩,hbx⟩;have hus:=hu.1;exact ⟨(b1,b2),rfl,q3,q4,hbx,fun hm=>absurd (hTb b1 hm) aO,fun hm=>absurd (hTb b2 hm) aO,q1,q2,by show w.heap.size<=b2; omega,q6⟩
 unfold genWalk;refine ⟨_,pz7,?_⟩;unfold genWalk;refine ⟨_,pz7,?_⟩;intro f u' hup hph hmade hdist;obtain ⟨⟨hT1,hT2,oN,oM,loM,hiM⟩,loN,hiN⟩:=hmade 10 aO rfl;replace oN:NumO u' (f 10).1 z:=oN;replace oM:NumO u' (f 10).2 y:=oM;replace loM:w.heap.size<=(f 10).2:=loM;replace hiM:(f 10).2<u'.heap.size:=hiM;have hT2b:(f 10).2≠w.heap.size+1+1:=fun h=>hT2 (by rw [h]; exact List.mem_singleton_self _)
 clear hT1 hT2;have q4:Own u' (w.heap.size+1+1) nz2:=hph;have hwu:Below w.heap.size w u':=hwT u' hup;clear hmade hdist hph;simp only [TK,Nat.reduceSub,Nat.reduceAdd]
 (try simp only [LN])
 (try simp only [VB3])
 simp only [ratV];generalize (f 10).1=b1 at *;generalize (f 10).2=b2 at *;generalize (f 4).1=b8 at *;generalize (f 9).1=b9 at *;clear f;obtain ⟨A7,n7,c7,hs7⟩:=slN_form z b1;obtain ⟨A8,n8,c8,hs8⟩:=slN_form y b2;rw [hs7,hs8];have HSL:=Zh (Zi hs7 hs8);clear hs7 hs8;have q4c:=q4.cell;have q4f:=q4.thaw;have hkT:=Upd.keeps (Keeps.refl _ _) hup;refine effc_mem (by rfl) (fun K hK=>?_);go_simp;refine hK _ _ (((((hkT).set aS _).set aS _).set aS _).set aS _) (fun u3 hu3=>?_);clear hK K;have hs3:=hu3.size;simp [World.setCell] at hs3;have hwu1:=((((hwu.setCell aT _).setCell aT _).setCell aT _).setCell aT _).trans (hu3.mono (by simp [World.setCell]; exact hwu.size));have q5:=((((q4.set 0 (.bool (sgnN z))).set 1 (.slice A7 n7 c7)).set 2 (.bool (sgnN y))).set 3 (.slice A8 n8 c8)).below hu3;have oN1:=NumO.below (((((oN).far aT _).far aT _).far aT _).far aT _) hu3;have oM1:=NumO.below (((((oM).far aT _).far aT _).far aT _).far aT _) hu3;have hk1:=(((((hkT).set aS _).set aS _).set aS _).set aS _).later hu3;clear q4 q4c q4f oN oM hu3;refine effc_mem (by rfl) (fun K hK=>?_);go_simp;refine hK _ _ hk1 (fun u4 hu4=>?_);clear hK K;have q6:=q5.below hu4;have oN2:=oN1.below hu4;have oM2:=oM1.below hu4;have hwu2:=hwu1.trans (hu4.mono hwu1.size);have hs4:=hu4.size;refine effc_nil ?_
 (try simp only [LN])
 go_wp2;refine retC (b:=w.heap.size+1+1) (v:= .tuple #[.agg #[.bool (sgnN z),.slice A7 n7 c7,.bool (sgnN y),.slice A8 n8 c8],.bool true]) q6 (fun w' hw'=>by simp [results,Tryz.results100,go_sem,hw']) rfl ⟨⟨b1,b2,by rw [ratV,HSL.out.1,HSL.out.2],oN2,oM2,aO,aO,aO,aO⟩,hwu2⟩
abbrev QI:=Int×Int
def mulQ (a b:QI):QI:=(ofN (a.1*b.1) (a.2*b.2),ofD (a.1*b.1) (a.2*b.2))
def subQ (a b:QI):QI:=(ofN (a.1*b.2 + -b.1*a.2) (a.2*b.2),ofD (a.1*b.2 + -b.1*a.2) (a.2*b.2))
def addQ (a b:QI):QI:=(ofN (a.1*b.2+b.1*a.2) (a.2*b.2),ofD (a.1*b.2+b.1*a.2) (a.2*b.2))
def divQ (a b:QI):QI:=(ofN (a.1*b.2) (a.2*b.1),ofD (a.1*b.2) (a.2*b.1))
def SmQ (a:QI):Prop:=goodQ a.1 a.2=true/\Sm a.1/\Sm a.2
theorem ofN_one (z:Int):ofN z 1=z:=by
 unfold ofN;rw [if_neg aO];simp
theorem ofD_one (z:Int):ofD z 1=1:=by
 unfold ofD;rw [if_neg aO];simp
theorem good_one (z:Int):goodQ z 1=true:=by unfold goodQ; simp
theorem p_one:(1:Int).natAbs<2^1000:=by decide +kernel
theorem Sm.one:Sm 1:=p_one
theorem Sm.neg {z:Int} (h:Sm z):Sm (-z):=by unfold Sm; rw [Int.natAbs_neg]; exact h
theorem sm_sum {a b c d:Int} (ha:Sm a) (hb:Sm b) (hc:Sm c) (hd:Sm d):fits (a*b+c*d)=true:=by
 have:=ha.cross hb hc.neg hd;rw [Int.neg_mul,Int.sub_neg] at this;exact this
theorem SmQ.int {z:Int} (h:Sm z):SmQ (z,1):=⟨good_one z,h,Sm.one⟩
def RatX (X:Nat->Prop) (W:World) (s1:Bool) (A1:Option Addr) (n1 c1:Nat) (s2:Bool) (A2:Option Addr) (n2 c2:Nat) (p q:Int):Prop:=
 (∀ b off,A1=some ⟨b,off,none⟩->b<W.heap.size/\X b)/\(∀ b off,A2=some ⟨b,off,none⟩->b<W.heap.size/\X b)/\NumAt W (.agg #[.bool s1,.slice A1 n1 c1]) p/\NumAt W (.agg #[.bool s2,.slice A2 n2 c2]) q
section
variable {X Y:Nat->Prop} {W W':World} {s1 s2:Bool} {A1 A2:Option Addr} {n1 c1 n2 c2:Nat} {p q:Int}
theorem RatX.at_ (h:RatX X W s1 A1 n1 c1 s2 A2 n2 c2 p q):RatAt W (.agg #[.bool s1,.slice A1 n1 c1,.bool s2,.slice A2 n2 c2]) p q:=⟨_,_,_,_,_,_,_,_,rfl,h.2.2.1,h.2.2.2⟩
theorem RatX.move (h:RatX X W s1 A1 n1 c1 s2 A2 n2 c2 p q) (hs:W.heap.size<=W'.heap.size) (hk:∀ b,b<W.heap.size->X b->W'.heap[b]?=W.heap[b]?/\Y b):RatX Y W' s1 A1 n1 c1 s2 A2 n2 c2 p q:=
 ⟨fun b off e=>⟨Zl (h.1 b off e).1 hs,(hk b (h.1 b off e).1 (h.1 b off e).2).2⟩,fun b off e=>⟨Zl (h.2.1 b off e).1 hs,(hk b (h.2.1 b off e).1 (h.2.1 b off e).2).2⟩,
  h.2.2.1.same hs fun b off e=>(hk b (h.1 b off e).1 (h.1 b off e).2).1,h.2.2.2.same hs fun b off e=>(hk b (h.2.1 b off e).1 (h.2.1 b off e).2).1⟩
theorem RatX.below (h:RatX X W s1 A1 n1 c1 s2 A2 n2 c2 p q) (hb:Below W.heap.size W W'):RatX X W' s1 A1 n1 c1 s2 A2 n2 c2 p q:=h.move hb.size fun b hlt hX=>⟨hb.block b hlt,hX⟩
end
theorem ratX_of {W:World} {p q:Int} {b1 b2:Nat} {X:Nat->Prop} (h1:NumO W b1 p) (h2:NumO W b2 q) (f1:fits p=true) (f2:fits q=true) (l1:b1<W.heap.size) (l2:b2<W.heap.size) (x1:X b1) (x2:X b2) {A1 A2:Option Addr} {n1 c1 n2 c2:Nat} (e1:slN p b1 = .slice A1 n1 c1) (e2:slN q b2 = .slice A2 n2 c2) :
 RatX X W (sgnN p) A1 n1 c1 (sgnN q) A2 n2 c2 p q:=by
 have g1:=h1.at_ f1;have g2:=h2.at_ f2;unfold numV at g1 g2;rw [e1] at g1;rw [e2] at g2;refine ⟨fun b off e=>?_,fun b off e=>?_,g1,g2⟩
 ·subst e;have:=slN_addr e1;subst this;exact ⟨l1,x1⟩
 ·subst e;have:=slN_addr e2;subst this;exact ⟨l2,x2⟩
def BoxR (W:World) (b:Nat) (a:QI):Prop:=∃ s1 A1 n1 c1 s2 A2 n2 c2,Own W b #[.bool s1,.slice A1 n1 c1,.bool s2,.slice A2 n2 c2]/\RatX (fun x=>x≠b) W s1 A1 n1 c1 s2 A2 n2 c2 a.1 a.2
theorem BoxR.below {W W':World} {b:Nat} {a:QI} (h:BoxR W b a) (hb:Below W.heap.size W W'):BoxR W' b a:=by
 obtain ⟨s1,A1,n1,c1,s2,A2,n2,c2,ho,hr⟩:=h;exact ⟨s1,A1,n1,c1,s2,A2,n2,c2,ho.below hb,hr.below hb⟩
def RatsO (W:World) (b:Nat) (x:Nat->QI) (lo n:Nat):Prop:=∃ cs,OwnT W b cs 37/\cs.size=n*4/\∀ i,lo<=i->i<n->∃ s1 A1 n1 c1 s2 A2 n2 c2,cs[i*4]?=some (.bool s1)/\cs[i*4+1]?=some (.slice A1 n1 c1)/\cs[i*4+2]?=some (.bool s2)/\cs[i*4+3]?=some (.slice A2 n2 c2)/\RatX (fun y=>y≠b) W s1 A1 n1 c1 s2 A2 n2 c2 (x i).1 (x i).2
theorem RatsO.below {W W':World} {b:Nat} {x:Nat->QI} {lo n:Nat} (h:RatsO W b x lo n) (hb:Below W.heap.size W W'):RatsO W' b x lo n:=by
 obtain ⟨cs,ho,hz,hc⟩:=h;refine ⟨cs,ho.below hb,hz,fun i h1 h2=>?_⟩;obtain ⟨s1,A1,n1,c1,s2,A2,n2,c2,e1,e2,e3,e4,hr⟩:=hc i h1 h2;exact ⟨s1,A1,n1,c1,s2,A2,n2,c2,e1,e2,e3,e4,hr.below hb⟩
theorem OwnT.set_ {w:World} {b:Nat} {cs:Array Value} {T:TypeId} (h:OwnT w b cs T) (i:Nat) (x:Value):OwnT (w.setCell ⟨b,i,none⟩ x) b (cs.setIfInBounds i x) T:=by
 have h1:w.heap[b]?=some (.cells cs T (0,0)):=h;show (w.setCell ⟨b,i,none⟩ x).heap[b]?=_;simp [World.setCell,Array.getElem?_modify,h1]
def put4 (W:World) (b o:Nat) (v1 v2 v3 v4:Value):World:=(((W.setCell ⟨b,o,none⟩ v1).setCell ⟨b,o+1,none⟩ v2).setCell ⟨b,o+2,none⟩ v3).setCell ⟨b,o+3,none⟩ v4
theorem put4_size (W:World) (b o:Nat) (v1 v2 v3 v4:Value):(put4 W b o v1 v2 v3 v4).heap.size=W.heap.size:=by simp [put4,World.setCell]
theorem put4_block (W:World) (b o:Nat) (v1 v2 v3 v4:Value) (y:Nat) (hy:y≠b):(put4 W b o v1 v2 v3 v4).heap[y]?=W.heap[y]?:=
 (((Below.heap_setCell _ _ _ y hy).trans (Below.heap_setCell _ _ _ y hy)).trans (Below.heap_setCell _ _ _ y hy)).trans (Below.heap_setCell _ _ _ y hy)
theorem put4_own {W:World} {b:Nat} {cs:Array Value} {T:TypeId} (h:OwnT W b cs T) (o:Nat) (v1 v2 v3 v4:Value):∃ cs',OwnT (put4 W b o v1 v2 v3 v4) b cs' T/\cs'.size=cs.size/\(o+3<cs.size->cs'[o]?=some v1/\cs'[o+1]?=some v2/\cs'[o+2]?=some v3/\cs'[o+3]?=some v4)/\∀ j,(j<o\/o+3<j)->cs'[j]?=cs[j]?:=by
 refine ⟨_,(((h.set_ o v1).set_ (o+1) v2).set_ (o+2) v3).set_ (o+3) v4,aS,fun hz=>⟨?_,?_,?_,?_⟩,fun j hj=>?_⟩
 ·simp [Array.getElem?_setIfInBounds]; omega
 ·simp [Array.getElem?_setIfInBounds]; omega
 ·simp [Array.getElem?_setIfInBounds]; omega
 ·simp [Array.getElem?_setIfInBounds]; omega
 ·rw [Array.getElem?_setIfInBounds_ne aO,Array.getElem?_setIfInBounds_ne aO,Array.getElem?_setIfInBounds_ne aO,Array.getElem?_setIfInBounds_ne aO]
theorem RatsO.set {W:World} {b:Nat} {x y:Nat->QI} {lo lo' k n:Nat} (h:RatsO W b x lo n) (hk:k<n) {s1 s2:Bool} {A1 A2:Option Addr} {n1 c1 n2 c2:Nat} (hr:RatX (fun y=>y≠b) W s1 A1 n1 c1 s2 A2 n2 c2 (y k).1 (y k).2) (hy:∀ i,lo'<=i->i<n->i≠k->lo<=i/\y i=x i) :
 RatsO (put4 W b (k*4) (.bool s1) (.slice A1 n1 c1) (.bool s2) (.slice A2 n2 c2)) b y lo' n:=by
 obtain ⟨cs,ho,hz,hc⟩:=h;obtain ⟨cs',ho',hz',hn,hold⟩:=put4_own ho (k*4) (.bool s1) (.slice A1 n1 c1) (.bool s2) (.slice A2 n2 c2);have hmv:∀ {t1 B1 m1 d1 t2 B2 m2 d2 p q},RatX (fun y=>y≠b) W t1 B1 m1 d1 t2 B2 m2 d2 p q->RatX (fun y=>y≠b) (put4 W b (k*4) (.bool s1) (.slice A1 n1 c1) (.bool s2) (.slice A2 n2 c2)) t1 B1 m1 d1 t2 B2 m2 d2 p q:=
  fun h=>h.move (by rw [put4_size]; exact Zr _) fun y _ hX=>⟨put4_block _ _ _ _ _ _ _ y hX,hX⟩
 refine ⟨cs',ho',by rw [hz',hz],fun i h1 h2=>?_⟩
 by_cases e:i=k
 ·subst e;obtain ⟨g1,g2,g3,g4⟩:=hn aO;exact ⟨s1,A1,n1,c1,s2,A2,n2,c2,g1,g2,g3,g4,hmv hr⟩
 ·obtain ⟨h3,h4⟩:=hy i h1 h2 e;obtain ⟨t1,B1,m1,d1,t2,B2,m2,d2,e1,e2,e3,e4,h5⟩:=hc i h3 h2;rw [h4];exact ⟨t1,B1,m1,d1,t2,B2,m2,d2,(hold _ aO).trans e1,(hold _ aO).trans e2,(hold _ aO).trans e3,(hold _ aO).trans e4,hmv h5⟩
theorem RatsO.put {W:World} {b:Nat} {x:Nat->QI} {k n:Nat} (h:RatsO W b x (k+1) n) (hk:k<n) {s1 s2:Bool} {A1 A2:Option Addr} {n1 c1 n2 c2:Nat} (hr:RatX (fun y=>y≠b) W s1 A1 n1 c1 s2 A2 n2 c2 (x k).1 (x k).2) :
 RatsO ((((W.setCell ⟨b,k*4,none⟩ (.bool s1)).setCell ⟨b,k*4+1,none⟩ (.slice A1 n1 c1)).setCell ⟨b,k*4+2,none⟩ (.bool s2)).setCell ⟨b,k*4+3,none⟩ (.slice A2 n2 c2)) b x k n:=
 h.set hk hr fun i h1 _ h3=>⟨aO,rfl⟩
theorem RatsO.put2 {W:World} {b:Nat} {x y:Nat->QI} {lo k n:Nat} (h:RatsO W b x lo n) (hk:k<n) {s1 s2:Bool} {A1 A2:Option Addr} {n1 c1 n2 c2:Nat} (hr:RatX (fun y=>y≠b) W s1 A1 n1 c1 s2 A2 n2 c2 (y k).1 (y k).2) (hy:∀ i,i<n->i≠k->y i=x i) :
 RatsO ((((W.setCell ⟨b,k*4,none⟩ (.bool s1)).setCell ⟨b,k*4+1,none⟩ (.slice A1 n1 c1)).setCell ⟨b,k*4+2,none⟩ (.bool s2)).setCell ⟨b,k*4+3,none⟩ (.slice A2 n2 c2)) b y lo n:=
 h.set hk hr fun i h1 h2 h3=>⟨h1,hy i h2 h3⟩
theorem infoRat:(Tryz.prog.info? 37).map (fun i=>(i.zero,i.size,i.bytes))=some (some (.agg nz2),4,64):=aK
def ratCells (n:Nat):Array Value:=madeCells (Value.agg nz2).cells (n*4)
theorem ratCells_size (n:Nat):(ratCells n).size=n*4:=by unfold ratCells madeCells; simp
theorem make_rats (n:Nat) (h:n<=100000) (w:World):(Instr.makeSlice 38 (.int .i64 (n:Nat)) (.int .i64 (n:Nat))).run Tryz.prog w = .ok (.slice (some ⟨w.heap.size,0,none⟩) n n) (w.alloc (.cells (ratCells n) 37)):=by
 obtain ⟨i,hi,hz,hs,hb⟩:=info_parts infoRat;have q:=run_make (P:=Tryz.prog) w 38 37 i _ aK hi hz .i64 .i64 n n aO (Int.le_refl _) (by rw [hb]; omega) aO;rw [hs] at q;simp only [Int.toNat_natCast] at q;exact q
def sumQ (R:List Int) (x:Nat->QI) (k last:Nat):Nat->QI
 | 0=>(zAt R last,1)
 | j+1=>subQ (sumQ R x k last j) (mulQ (zAt R (k+1+j),1) (x (k+1+j)))
structure BackQ (L:List (List Int)) (x:Nat->QI) (n last:Nat):Prop where
 eq:∀ k,k<n->x k=divQ (sumQ (rAt L k) x k last (n - 1 - k)) (zAt (rAt L k) k,1)
 lead:∀ k,k<n->zAt (rAt L k) k≠0
 elem:∀ k,k<n->Sm (zAt (rAt L k) last)/\∀ c,c<n->Sm (zAt (rAt L k) c)
 sum:∀ k,k<n->∀ j,j<=n - 1 - k->SmQ (sumQ (rAt L k) x k last j)
 part:∀ k,k<n->∀ j,j<n - 1 - k->SmQ (mulQ (zAt (rAt L k) (k+1+j),1) (x (k+1+j)))
 val:∀ k,k<n->SmQ (x k)
end Go.Proofs.YtflgngjocgiojaaGreat
