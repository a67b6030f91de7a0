import Derived.Test.YtflgngjocgiojaaGreatMatK
set_option linter.all false
namespace Go.Proofs.YtflgngjocgiojaaGreat
set_option maxRecDepth 100000
set_option maxHeartbeats 8000000
open Go.RowKit
attribute [local go_sem] Oper.semAt_some
def rankS (M:List (List Int)) (b:List Int):Nat:=(leadsB ⟨sysL M b M.length,1,0⟩ (cols M)).length
def solveE (M:List (List Int)) (b:List Int):Int:=
 if matCheck M≠0 then matCheck M
 else if cols M≠M.length\/b.length≠M.length then 4
 else if anyF (fun k=>largeI (iAt b k)) b.length=true then 3
 else if rankS M b<M.length then 8
 else 0
def FineS (M:List (List Int)) (b:List Int) (x:Nat->QI):Prop:=
 matCheck M=0->cols M=M.length->b.length=M.length->anyF (fun k=>largeI (iAt b k)) b.length=false ->
  FineL (sysL M b M.length) (cols M) (M.length+1)/\(¬ rankS M b<M.length->BackQ (runB ⟨sysL M b M.length,1,0⟩ (cols M)).L x M.length M.length)
theorem wide_sys1 {M:List (List Int)} {b:List Int} {n k:Nat} (h:∀ i,i<n->(rAt M i).length=k) (hb:b.length=n):Wide (sysL M b n) (k+1):=fun i hi=>by
 rw [sysL_len] at hi;rw [rAt_sysL M b hi];unfold sysR;rw [if_pos aO,List.length_append,h i hi];rfl
theorem RatX.ki {X:Nat->Prop} {W u:World} {s1 s2:Bool} {A1 A2:Option Addr} {n1 c1 n2 c2:Nat} {p q:Int} (h:RatX X W s1 A1 n1 c1 s2 A2 n2 c2 p q) (hk:KI W u):RatX X u s1 A1 n1 c1 s2 A2 n2 c2 p q:=
 ⟨fun b off e=>⟨Zl (h.1 b off e).1 hk.size,(h.1 b off e).2⟩,fun b off e=>⟨Zl (h.2.1 b off e).1 hk.size,(h.2.1 b off e).2⟩,h.2.2.1.ki hk,h.2.2.2.ki hk⟩
theorem ownT_put {W:World} {b:Nat} {cs:Array Value} {T:TypeId} {l:Nat} {o o':Obj} (h:OwnT W b cs T) (ho:W.heap[l]?=some o) (hc:o.isCells=false):OwnT (W.putObj l o') b cs T:=by
 have h1:W.heap[b]?=some (.cells cs T (0,0)):=h;have hne:b≠l:=fun e=>by
  subst e; rw [ho] at h1; cases h1; simp [Obj.isCells] at hc
 exact (World.putObj_heap_other aO).trans h
theorem RatsG.put_ {W:World} {b:Nat} {x:Nat->QI} {lo n l:Nat} {o o':Obj} (h:RatsG W b x lo n) (ho:W.heap[l]?=some o) (hc:o.isCells=false):RatsG (W.putObj l o') b x lo n:=by
 obtain ⟨cs,hq,hz,hcc⟩:=h;refine ⟨cs,ownT_put hq ho hc,hz,fun i h1 h2=>?_⟩;obtain ⟨s1,A1,n1,c1,s2,A2,n2,c2,e1,e2,e3,e4,hr⟩:=hcc i h1 h2;refine ⟨s1,A1,n1,c1,s2,A2,n2,c2,e1,e2,e3,e4,hr.ki ⟨by simp [World.putObj],fun b cs T r h3 _=>?_⟩⟩
 by_cases e:b=l
 ·subst e; rw [ho] at h3; cases h3; simp [Obj.isCells] at hc
 ·exact (World.putObj_heap_other aO).trans h3
theorem matrix_Solve {w:World} {A Ab:Option Addr} {n nb:Nat} {M:List (List Int)} {b:List Int} {x:Nat->QI} (c cb:Nat) (h:RowsAt w A n M) (hbI:IntsAt w Ab nb b) (hf:FineS M b x) :
 Calls Tryz.prog 27 #[.slice A n c,.slice Ab nb cb] w fun e w'=>(∃ v,e = .returned (.tuple #[v,.int .i64 (solveE M b)])/\((solveE M b≠0/\v = .slice none 0 0)\/(solveE M b=0/\∃ bk,v = .slice (some ⟨bk,0,none⟩) n n/\w.heap.size<=bk/\RatsG w' bk x 0 n)))/\Below w.heap.size w w':=by
 have H:=Zh h;have HBI:=Zh hbI;have hl:=h.len;have hlb:=hbI.len;have q:=matrix_check c h;obtain ⟨e,he⟩:=Zx (matCheck M);rw [he] at q;obtain ⟨se,hse⟩:=Zx (solveE M b);rw [hse];have HK:=Zh (Zi he hse);have Q:=Zh q;have HF:=Zh hf;have HL:=Zh (Zi hl hlb);clear h hbI q he hse hf hl hlb;refine (callsIn_wide (n:=5)).1 ?_;refine callsIn_of_wp_marks Tryz.func27 rfl trivial ?_ rfl;simp only [Tryz.ntmps27,List.size_toArray,List.length_cons,List.length_nil,Nat.reduceAdd,Nat.reduceSub,Array.replicate_succ,Array.replicate_zero,List.push_toArray,List.append_toArray,List.nil_append,List.cons_append];gi_wp2_with fail;refine ⟨trivial,(callsIn_wide.2 Q.out).mono ?_⟩;rintro e2 w1 ⟨rfl,hb1⟩;have hz1:=hb1.size;have HB1:=Zh hb1
 by_cases he0:e=0
 ·subst he0;have hok:=matCheck_ok HK.out.1;rw [HL.out.1] at hok;have HO:=Zh hok;have hn48:=hok.1;have hc8:=hok.2.1;have qc:=matrix_columns c (H.out.below hb1);obtain ⟨m,hm⟩:=Zx (cols M);rw [hm] at qc hc8;have HM:=Zh hm;have QC:=Zh qc;clear hok qc hm hb1;gi_wp2_with fail;refine ⟨trivial,(callsIn_wide.2 QC.out).mono ?_⟩;rintro e3 w2 ⟨rfl,hb2⟩;have HB2:=Zh (HB1.out.trans (hb2.mono hz1));have hz2:=hb2.size;clear hb2
  by_cases hmn:m=n
  ·subst hmn
   by_cases hbn:nb=m
   ·subst hbn;have QL:=Zh (contains_large (p:=fun k=>largeI (iAt b k)) cb (HBI.out.below HB2.out).row (fun _ _=>rfl) aO);obtain ⟨o,ho⟩:=Zx (anyF (fun k=>largeI (iAt b k)) nb);rw [ho] at QL;have HOo:=Zh ho;clear ho;gi_wp2_with fail;refine ⟨trivial,(callsIn_wide.2 QL.out).mono ?_⟩;rintro e4 w3 ⟨rfl,hb3⟩;have HB3:=Zh (HB2.out.trans (hb3.mono (Zm hz1 hz2)));clear hb3 QL QC Q;cases o
    ·have hfs:=HF.out HK.out.1 (by rw [HM.out,HL.out.1]) (by rw [HL.out.1,HL.out.2]) (by rw [HL.out.2]; exact HOo.out);rw [HL.out.1,HM.out] at hfs;have hse:solveE M b=if rankS M b<M.length then 8 else 0:=by
      unfold solveE;rw [if_neg (by rw [HK.out.1]; simp),if_neg (by rw [HM.out,HL.out.1,HL.out.2]; simp),if_neg (by rw [HL.out.2,HOo.out]; simp)]
     rw [HK.out.2,HL.out.1] at hse;obtain ⟨r,hr⟩:=Zx (rankS M b);rw [hr] at hse hfs;have hr2:(leadsB ⟨sysL M b nb,1,0⟩ nb).length=r:=by
      rw [<- hr]; unfold rankS; rw [HL.out.1,HM.out]
     have HS:=Zh (Zi hfs (Zi hse hr2));clear hfs hse hr hr2;have hz03:w.heap.size<=w3.heap.size:=HB3.out.size;gi_wp2_with fail;have qo:=matrix_of c cb (H.out.below HB3.out) (HBI.out.below HB3.out) aO (fun i hi=>by rw [HO.out.2.2.1 i hi,HM.out]; omega) aO;refine ⟨trivial,(callsIn_wide.2 qo).mono ?_⟩;clear qo;rintro e3 w4 ⟨⟨S,rfl,hS⟩,hb4⟩;rw [HM.out] at hS;have hB4:=HB3.out.trans (hb4.mono hz03);have hz4:=hB4.size;have hS4:=hS.below ((Zb w4.heap.size w4).alloc (Zr _) (.cells #[.int .i64 0] 3));have hB5:=hB4.alloc hz4 (.cells #[.int .i64 0] 3);have bN:=Boxed.new w4 3 (.int .i64 0);have HS4:=Zh hS4;clear hS hS4 hb4 hB4;gi_wp2_with fail;obtain ⟨Bn,hBn⟩:=Zx (w4.heap.size);rw [hBn] at bN ⊢;generalize (w4.alloc (.cells #[.int .i64 0] 3))=w5 at *;refine ⟨trivial,(callsIn_wide.2 (matrix_leads S w5)).mono ?_⟩;rintro e4 w6 ⟨rfl,hbx,hb6⟩;have HS6:=Zh (HS4.out.below hb6);have bN6:=boxB bN hb6;have hz5:=hB5.size;have hB6:=hB5.trans (hb6.mono hz5);have hz6:=hb6.size;have hBn5:Bn<w5.heap.size:=bN.lt;clear hb6 bN HS4;obtain ⟨g,hg1,hg2,hg3,hseq⟩:=leads_seq (5 - 1) aO (wd:=nb+1) hbx HS6.out (by rw [sysL_len]; omega) (wide_sys1 (fun i hi=>by rw [HO.out.2.2.1 i hi,HM.out]) HL.out.2) aO aO (fun h=>by
      have h1:=congrArg List.length h;rw [sysL_len] at h1;exact h1) HS.out.1.1
     gi_wp2;refine wpIn_range_itW aO (gf:=97) (lb:=#[.pointer (some ⟨w5.heap.size,0,none⟩)]) rfl (enters_of Tryz.func97 aK rfl)
      hseq hg2 KI.trans (KI.putObj (w:=w6)) (fun _=>rfl) sysAt_own
      (fun pre W=>Boxed W Bn 3 (.int .i64 (pre.length:Nat))/\Below w.heap.size w W)
      (fun _ _ _ _ ⟨h1,h2⟩ hg hr=>⟨boxed_own' () _ _ _ h1 hg hr,ownFrom_below (Zr _) aO () _ _ _ h2 hg hr⟩)
      (fun s X Y ⟨h1,h2⟩ hI=>⟨hI.boxed h1 (hg3 _ _ (box_own bN6)) aO,hI.below_ h2 aO aO⟩)
      ⟨bN6,hB6⟩
      (fun x=>{ tmps:=#[.slice A nb c,.slice Ab nb cb,undef,undef,.slice none 0 0,.int .i64 0,.int .i64 (nb:Nat),.int .i64 0,.pointer (some ⟨S,0,none⟩),.pointer (some ⟨Bn,0,none⟩),.slice A nb c,.int .i64 (nb:Nat),.slice A nb c,.int .i64 0,.bool false,.int .i64 0,.bool false,undef,.bool false,.slice A nb c,.int .i64 (nb:Nat),.int .i64 (nb:Nat),.bool false,.bool false,.slice Ab nb cb,.int .i64 (nb:Nat),.int .i64 (nb:Nat),.bool false,.bool false,.bool false,.slice Ab nb cb,.bool false,.slice A nb c,.slice Ab nb cb,.pointer (some ⟨S,0,none⟩),.pointer (some ⟨S,0,none⟩),.func (.func 97) #[] #[.pointer (some ⟨w5.heap.size,0,none⟩)],.int .i64 (x.1:Nat),.int .i64 (x.2:Nat),undef,undef,undef,undef,undef,undef,undef,undef,undef],defers:=[] })
      ?assign ?body ?done
     case assign =>
      intro l x W K hK;rw [foldl_two]
      (try simp only [LN])
      refine wpIn_skip ?_;exact hK
     case body =>
      rintro l pre x W hl ⟨h1,h2⟩ hlen;have c1:=(box_own h1).cell 0;have f1:=h1.frozen;simp only [List.size_toArray,List.getElem?_toArray,List.getElem?_cons_zero] at c1;gi_wp2;exact ⟨(KeepsOthers.setCell _ _ _).from _,KI.box h1 _,box_set h1 _,h2.setCell aT _⟩
     case done =>
      rintro D xs W hD rfl ⟨h1,h2⟩ hFin hK;rw [HS.out.2.2] at h1;have c1:=(box_own h1).cell 0;simp only [List.size_toArray,List.getElem?_toArray,List.getElem?_cons_zero] at c1;have HFin:=Zh hFin;have hDl:=(Zt.1 hK).1;clear hFin
      by_cases hrn:r<nb
      ·have hri:(r:Int)<(nb:Int):=aO
       obtain rfl:se=8:=by rw [HS.out.2.1,if_pos hrn]
       gi_wp2;refine ⟨aS,.inl ⟨_,_,rfl,run_takeDeferred hK,?_⟩⟩;refine ⟨_,by simp [results,Tryz.results27,go_sem]; exact rfl,?_⟩;exact ⟨⟨_,rfl,.inl ⟨aO,rfl⟩⟩,h2.trans (belowK_b (w:=w) (Zr _) _ D _ _ aO hK rfl rfl)⟩
      ·have hri:¬ (r:Int)<(nb:Int):=aO
       obtain rfl:se=0:=by rw [HS.out.2.1,if_neg hrn]
       have hlen:(runB ⟨sysL M b nb,1,0⟩ nb).L.length=nb:=by rw [runB_len]; exact sysL_len _ _ _
       have hB2:=h2.size;gi_wp2_with fail;have qb:=matrix_back (w:=W) (n:=nb) (last:=nb) (wd:=nb+1) (x:=x) HFin.out (runB_wide (wide_sys1 (fun i hi=>by rw [HO.out.2.2.1 i hi,HM.out]) HL.out.2) nb) (by rw [hlen]; exact Zr _) aO aO (by rw [hlen]; omega) aO (HS.out.1.2 hrn);refine ⟨trivial,(callsIn_wide.2 qb).mono ?_⟩;clear qb;rintro e7 w8 ⟨⟨bk,rfl,hbk,hxs⟩,hb8⟩;have hK8:=(hb8.block D hDl).trans hK;have h8:=h2.trans (hb8.mono hB2);have HXS:=Zh hxs;clear hxs hb8 c1;gi_wp2;refine ⟨aS,.inl ⟨_,_,rfl,run_takeDeferred hK8,?_⟩⟩;refine ⟨_,by simp [results,Tryz.results27,go_sem]; exact rfl,?_⟩;refine ⟨⟨_,rfl,by first | exact ⟨bk,rfl,aO,HXS.out.put_ hK8 rfl⟩ | exact .inr ⟨rfl,bk,rfl,aO,HXS.out.put_ hK8 rfl⟩⟩,h8.trans (belowK_b (w:=w) (Zr _) _ D _ _ aO hK8 rfl rfl)⟩
    ·obtain rfl:se=3:=by
      rw [<- HK.out.2]; unfold solveE;rw [if_neg (by rw [HK.out.1]; simp),if_neg (by rw [HM.out,HL.out.1,HL.out.2]; simp),if_pos (by rw [HL.out.2]; exact HOo.out)]
     gi_wp2;refine ⟨_,by simp [results,Tryz.results27,go_sem]; exact rfl,?_⟩;exact ⟨⟨_,rfl,.inl ⟨aO,rfl⟩⟩,HB3.out⟩
   ·have hbn2:((nb:Int) != (m:Int))=true:=bne_iff_ne.2 aO;obtain rfl:se=4:=by
     rw [<- HK.out.2]; unfold solveE;rw [if_neg (by rw [HK.out.1]; simp),if_pos (.inr (by rw [HL.out.1,HL.out.2]; exact hbn))]
    clear hbn;gi_wp2;refine ⟨_,by simp [results,Tryz.results27,go_sem]; exact rfl,?_⟩;exact ⟨⟨_,rfl,.inl ⟨aO,rfl⟩⟩,HB2.out⟩
  ·have hmn2:((m:Int) != (n:Int))=true:=bne_iff_ne.2 aO;obtain rfl:se=4:=by
    rw [<- HK.out.2]; unfold solveE;rw [if_neg (by rw [HK.out.1]; simp),if_pos (.inl (by rw [HM.out,HL.out.1]; exact hmn))]
   clear hmn;gi_wp2;refine ⟨_,by simp [results,Tryz.results27,go_sem]; exact rfl,?_⟩;exact ⟨⟨_,rfl,.inl ⟨aO,rfl⟩⟩,HB2.out⟩
 ·obtain rfl:se=e:=by rw [<- HK.out.2]; unfold solveE; rw [if_pos (by rw [HK.out.1]; exact he0),HK.out.1]
  have hne:(se != 0)=true:=bne_iff_ne.2 he0;have HE:=Zh he0;clear he0 hb1;gi_wp2;refine ⟨_,by simp [results,Tryz.results27,go_sem]; exact rfl,?_⟩;exact ⟨⟨_,rfl,.inl ⟨HE.out,rfl⟩⟩,HB1.out⟩
end Go.Proofs.YtflgngjocgiojaaGreat
namespace Go.Proofs.YtflgngjocgiojaaGreat
open Go.RowKit
set_option maxHeartbeats 8000000
set_option maxRecDepth 100000
def RatsA (w:World) (A:Option Addr) (n:Nat) (Q:Nat->QI):Prop:=0<n->∃ b off,A=some ⟨b,off,none⟩/\b<w.heap.size/\∀ i,i<n->∃ s1 A1 n1 c1 s2 A2 n2 c2,w.cell? ⟨b,off+i*4,none⟩=some (.bool s1)/\w.cell? ⟨b,off+i*4+1,none⟩=some (.slice A1 n1 c1)/\w.cell? ⟨b,off+i*4+2,none⟩=some (.bool s2)/\w.cell? ⟨b,off+i*4+3,none⟩=some (.slice A2 n2 c2) /\
 NumAt w (.agg #[.bool s1,.slice A1 n1 c1]) (Q i).1/\NumAt w (.agg #[.bool s2,.slice A2 n2 c2]) (Q i).2
theorem RatsA.below {w w':World} {A:Option Addr} {n:Nat} {Q:Nat->QI} (h:RatsA w A n Q) (hb:Below w.heap.size w w'):RatsA w' A n Q:=fun h0=>by
 obtain ⟨b,off,e,hlt,hc⟩:=h h0;refine ⟨b,off,e,Zl hlt hb.size,fun i hi=>?_⟩;obtain ⟨s1,A1,n1,c1,s2,A2,n2,c2,e1,e2,e3,e4,h1,h2⟩:=hc i hi;have hB:=hb.block b hlt;exact ⟨s1,A1,n1,c1,s2,A2,n2,c2,(Zc (w:=w) (a:=⟨b,off+i*4,none⟩) hB).trans e1,(Zc (w:=w) (a:=⟨b,off+i*4+1,none⟩) hB).trans e2,(Zc (w:=w) (a:=⟨b,off+i*4+2,none⟩) hB).trans e3,(Zc (w:=w) (a:=⟨b,off+i*4+3,none⟩) hB).trans e4,h1.below hb,h2.below hb⟩
def byW (Q:Nat->QI):Nat->Int
 | 0=>1
 | i+1=>byW Q i*((Q i).2 / ((Nat.gcd (byW Q i).natAbs (Q i).2.natAbs:Nat):Int))
def wholeZ (Q:Nat->QI) (n:Nat):Nat->List Int
 | 0=>[]
 | k+1=>wholeZ Q n k++[(Q k).1*(byW Q n / (Q k).2)]
theorem wholeZ_len (Q:Nat->QI) (n:Nat):∀ k,(wholeZ Q n k).length=k
 | 0=>rfl
 | k+1=>by simp [wholeZ,wholeZ_len Q n k]
structure WholeQ (Q:Nat->QI) (n:Nat):Prop where
 sm:∀ i,i<n->SmQ (Q i)
 by_:∀ i,i<=n->Sm (byW Q i)
def BoxN (W:World) (b:Nat) (z:Int):Prop:=∃ s A n c,Own W b #[.bool s,.slice A n c]/\(∀ x off,A=some ⟨x,off,none⟩->x<W.heap.size/\x≠b)/\NumAt W (.agg #[.bool s,.slice A n c]) z
theorem BoxN.below {W W':World} {b:Nat} {z:Int} (h:BoxN W b z) (hb:Below W.heap.size W W'):BoxN W' b z:=by
 obtain ⟨s,A,n,c,h1,h2,h3⟩:=h;exact ⟨s,A,n,c,h1.below hb,fun x off e=>⟨Zl (h2 x off e).1 hb.size,(h2 x off e).2⟩,h3.below hb⟩
theorem BoxN.store {W:World} {b:Nat} {s t:Bool} {A B:Option Addr} {n c m d:Nat} {z:Int} (ho:Own W b #[.bool t,.slice B m d]) (h2:∀ x off,A=some ⟨x,off,none⟩->x<W.heap.size/\x≠b) (h3:NumAt W (.agg #[.bool s,.slice A n c]) z) :
 BoxN ((W.setCell ⟨b,0,none⟩ (.bool s)).setCell ⟨b,1,none⟩ (.slice A n c)) b z:=
 ⟨s,A,n,c,((ho.set 0 _).set 1 _).eq rfl,fun x off e=>by
  have:=h2 x off e;simpa [World.setCell] using this,h3.same (by simp [World.setCell]) fun x off e=>(Below.heap_setCell _ _ _ x (h2 x off e).2).trans (Below.heap_setCell _ _ _ x (h2 x off e).2)⟩
theorem sm_div {a b:Int} (h:Sm a) (hb:b≠0):Sm (a / b):=by
 unfold Sm at *;have h1:(a / b).natAbs<=a.natAbs:=by
  exact Int.natAbs_ediv_le_natAbs a b
 omega
theorem sm_le {a b:Int} (h:Sm a) (hb:b.natAbs<=a.natAbs):Sm b:=by
 unfold Sm at *;omega
theorem matrix_whole {w:World} {A:Option Addr} {n:Nat} {Q:Nat->QI} (c:Nat) (h:RatsA w A n Q) (hn:n<=900) (hq:WholeQ Q n) :
 Calls Tryz.prog 60 #[.slice A n c] w fun e w'=>(∃ v,e = .returned v/\RowV (fun b=>w.heap.size<=b) v (wholeZ Q n n) w')/\Below w.heap.size w w':=by
 obtain ⟨i0,hi0,hz0,hz1,hz2⟩:=info_parts infoN;have H:=Zh h;have HQ:=Zh hq;have hni:(n:Int)<=900:=aO
 clear h hq;go_enter Tryz.func60,Tryz.ntmps60;go_wp2_with fail;refine Zd (of_val (w:=w) 1 aO aO) ?_;rintro e w1 ⟨⟨b1,rfl,g1,g2,g3⟩,hb1⟩;obtain ⟨A8,n8,c8,hs8⟩:=slN_form 1 b1;have N1:=g1.at_ (fits_small (z:=1) aO);simp only [numV] at N1 ⊢;rw [hs8] at N1 ⊢;have hz:=hb1.size;have hW:=hb1.alloc hz (.cells #[.bool (sgnN 1),.slice A8 n8 c8] 35);have hb2:Below w1.heap.size w1 (w1.alloc (.cells #[.bool (sgnN 1),.slice A8 n8 c8] 35)):=(Zb _ _).alloc (Zr _) _;have hbox:BoxN (w1.alloc (.cells #[.bool (sgnN 1),.slice A8 n8 c8] 35)) w1.heap.size (byW Q 0):=⟨_,_,_,_,Own.new rfl,fun x off e=>by
  subst e;have h9:=slN_addr hs8;subst h9;exact ⟨aT,aO⟩,N1.below hb2⟩
 have hsz:(w1.alloc (.cells #[.bool (sgnN 1),.slice A8 n8 c8] 35)).heap.size=w1.heap.size+1:=aS
 clear N1 g1 g2 g3 hs8 hb2 hb1;go_wp2;generalize (w1.alloc (.cells #[.bool (sgnN 1),.slice A8 n8 c8] 35))=W0 at *;obtain ⟨Bb,hBb⟩:=Zx (w1.heap.size);rw [hBb] at hz hsz hbox ⊢;clear hBb;have HBX:=Zh hbox;clear hbox;go_loopw [16] (fun i wr=>∃ k:Nat,k<=n/\i = .int .i64 k/\Below w.heap.size w wr/\Bb+1<=wr.heap.size/\BoxN wr Bb (byW Q k)) (fun i _=>n - (intOf i).toNat)
 case atStart=>exact ⟨0,aO,rfl,hW,aO,HBX.out⟩
 case round =>
  clear HBX hW hsz;obtain ⟨k,hk,rfl,hbel,hsz1,hbox⟩:=hrel;have hkb:=hbel.size;obtain ⟨sb,Ab,nb,cb,ob,hob,Nb⟩:=hbox;have HNb:=Zh (Zi Nb hob);clear Nb hob
  by_cases hlt:k<n
  ·have hlt2:(k:Int)<(n:Int):=aO
   obtain ⟨b,off,rfl,hbb,hcell⟩:=(H.out.below hbel) aO;obtain ⟨s1,A1,n1,c1,s2,A2,n2,c2,e1,e2,e3,e4,NA,ND⟩:=hcell k hlt;have HND:=Zh ND;have hsm:=HQ.out.sm k hlt;have hby2:=HQ.out.by_ (k+1) aO;have hbw:byW Q (k+1)=byW Q k*((Q k).2 / ((Nat.gcd (byW Q k).natAbs (Q k).2.natAbs:Nat):Int)):=rfl;obtain ⟨zb,hzb⟩:=Zx (byW Q k);obtain ⟨zd,hzd⟩:=Zx ((Q k).2);rw [hzb] at HNb hbw;rw [hzd] at HND hbw;have hd0:zd≠0:=by rw [<- hzd]; exact good_ne hsm.1
   have hsd:Sm zd:=by rw [<- hzd]; exact hsm.2.2
   obtain ⟨zg,hzg⟩:∃ z:Int,((Nat.gcd zb.natAbs zd.natAbs:Nat):Int)=z:=⟨_,rfl⟩;have hg0:zg≠0:=by
    rw [<- hzg];have:0<Nat.gcd zb.natAbs zd.natAbs:=Nat.gcd_pos_of_pos_right _ aO;omega
   have hsg:Sm zg:=sm_le hsd (by rw [<- hzg]; exact Nat.le_of_dvd aO (Nat.gcd_dvd_right _ _));rw [hzg] at hbw;obtain ⟨zq,hzq⟩:=Zx (zd / zg);rw [hzq] at hbw;have hsq:Sm zq:=by rw [<- hzq]; exact sm_div hsd hg0
   obtain ⟨zn,hzn⟩:=Zx (zb*zq);rw [hzn] at hbw;rw [hbw] at hby2;have HP:=Zh (Zi hzg (Zi hzq (Zi hzn (Zi hg0 (Zi hsg (Zi hsq (Zi hby2 (Zi hbw hsd))))))));clear hcell NA ND hsm hby2 hbw hzb hzd hd0 hsd hzg hg0 hsg hzq hsq hzn;have o5:Own (wr.alloc (.cells #[.bool s1,.slice A1 n1 c1,.bool s2,.slice A2 n2 c2] 37)) wr.heap.size #[.bool s1,.slice A1 n1 c1,.bool s2,.slice A2 n2 c2]:=Own.new rfl;have hba:Below wr.heap.size wr (wr.alloc (.cells #[.bool s1,.slice A1 n1 c1,.bool s2,.slice A2 n2 c2] 37)):=(Zb _ _).alloc (Zr _) _;have ob2:=ob.below hba;have ob2c:=ob2.cell;have o5c:=o5.cell;go_wp2_with fail;generalize (wr.alloc (.cells #[.bool s1,.slice A1 n1 c1,.bool s2,.slice A2 n2 c2] 37))=w2 at *;have q:=num_Gcd (HNb.out.1.below hba) (HND.out.below hba);rw [HP.out.1] at q;refine Zd q ?_;clear q;rintro e u3 ⟨⟨bg0,rfl,g1,g2,g3⟩,hb3⟩;have fg:fits zg=true:=HP.out.2.2.2.2.1.fits;obtain ⟨A9,n9,c9,hs9⟩:=slN_form zg bg0;have N9:=g3.at_ fg;simp only [numV] at N9 ⊢;rw [hs9,fg] at *;have hba3:=hba.trans (hb3.mono hba.size);have hz3:=hba3.size;have hk9:Below u3.heap.size u3 (u3.alloc (.cells #[.bool (sgnN zg),.slice A9 n9 c9] 35)):=(Zb _ _).alloc (Zr _) _;have og:Own (u3.alloc (.cells #[.bool (sgnN zg),.slice A9 n9 c9] 35)) u3.heap.size #[.bool (sgnN zg),.slice A9 n9 c9]:=Own.new rfl;have HNG:=Zh (N9.below hk9);have hba5:=hba3.trans (hk9.mono hz3);have ob5:=ob.below hba5;have o55:=(o5.below hb3).below hk9;have HNb5:=Zh (HNb.out.1.below hba5);have HND5:=Zh (HND.out.below hba5);clear g1 g2 g3 hs9 N9 hb3 hk9 ob2 ob2c o5c hba hba3;go_wp2;generalize (u3.alloc (.cells #[.bool (sgnN zg),.slice A9 n9 c9] 35))=w5 at *;have ob5l:=ob5.lt;have hTb:∀ b,b∈[Bb]->b<w5.heap.size:=fun b hm=>by
    have:=List.mem_singleton.1 hm;omega
   have hTn:∀ b∈[Bb],∃ cs,Own w5 b cs/\noU cs:=fun b hm=>by
    have h1:=List.mem_singleton.1 hm;subst h1;exact ⟨_,ob5,noU_two _ _ _ _⟩
   have hBr:wr.heap.size∉[Bb]:=aT
   have hBg:u3.heap.size∉[Bb]:=aT
   refine region_gen (T:=[Bb]) [.step 0 (.agg #[.bool sb,.slice Ab nb cb]),.make 4 [] (valB _ zq),.make 5 [4] (numB _ zn),.need 6 [5],.need 8 []] 9 1 40 (fun _ u=>Own u Bb #[.bool sb,.slice Ab nb cb]) (fun _ _ _ h k=>h.below k) ob5 aK aK (by rfl) ?_;unfold genWalk;refine ⟨_,pz1,?_⟩;refine one_of (by rfl) ⟨fun f=>⟨rfl,fun u hu hp=>?_⟩,?_⟩
   ·(try simp only [LN])
    (try simp only [VB2,numV])
    have oc:=hp.cell;go_simp
    first | exact Upd.refl _ _ | exact ⟨Upd.refl _ _,hp⟩ | exact ⟨rfl,Upd.refl _ _,hp⟩
   have q_d1:=fun v y=>(o55.later (v:=v) (T:=[Bb]) hBr y).cell
   have q_d2:=fun v y=>(og.later (v:=v) (T:=[Bb]) hBg y).cell
   unfold genWalk;refine ⟨_,pz3,?_⟩;refine one_of (by rfl) ⟨fun f=>⟨rfl,fun u hu _=>?_⟩,?_⟩
   ·refine make_call (f:=102) (args:=#[.agg #[.bool s2,.slice A2 n2 c2],.agg #[.bool (sgnN zg),.slice A9 n9 c9]]) gA2 ?_;have q:=matrix_quotient (w:=u) (NumAt.keepU HND5.out hu hTn) (NumAt.keepU HNG.out hu hTn) HP.out.2.2.2.1;rw [HP.out.2.1] at q;refine q.mono ?_;rintro e wx ⟨⟨b,rfl,q1,q2,q3⟩,hbx⟩;exact ⟨(b,0),rfl,q2,q3,hbx,fun hm=>absurd (hTb b hm) (by have:=hu.1; omega),q1⟩
   unfold genWalk;refine ⟨_,pz3,?_⟩;refine one_of (by rfl) ⟨fun f=>⟨rfl,fun u hu hm=>?_⟩,?_⟩
   ·refine make_call (f:=101) (args:=#[.agg #[.bool sb,.slice Ab nb cb],.agg #[.bool (sgnN zq),slN zq (f 4).1]]) gA2 ?_;have e1:NumO u (f 4).1 zq:=(show (valB [Bb] zq).R (f 4) u from hm 4 aS).2;have q:=num_Mul (w:=u) (NumAt.keepU HNb5.out hu hTn) (e1.at_ HP.out.2.2.2.2.2.1.fits);rw [HP.out.2.2.1] at q;refine q.mono ?_;rintro e wx ⟨⟨b,rfl,q1,q2,q3⟩,hbx⟩;exact ⟨(b,0),rfl,q1,q2,hbx,fun hm=>absurd (hTb b hm) (by have:=hu.1; omega),q3⟩
   unfold genWalk;refine ⟨_,pz3,?_⟩;unfold genWalk;refine ⟨_,pz3,?_⟩;unfold genWalk;refine ⟨_,pz3,?_⟩;intro f u' hup hph hmade hdist;obtain ⟨⟨hT1,oN⟩,loN,hiN⟩:=hmade 5 aO rfl;replace oN:NumO u' (f 5).1 zn:=oN;replace hT1:(f 5).1∉[Bb]:=hT1;clear hmade hdist;simp only [TK,Nat.reduceSub,Nat.reduceAdd]
   (try simp only [LN])
   (try simp only [VB2,numV])
   generalize (f 5).1=b9 at *;generalize (f 4).1=b8 at *;clear f;have q6:Own u' Bb #[.bool sb,.slice Ab nb cb]:=hph;have fn:fits zn=true:=HP.out.2.2.2.2.2.2.1.fits;obtain ⟨A7,n7,c7,hs7⟩:=slN_form zn b9;have N7:=oN.at_ fn;simp only [numV] at N7;rw [hs7] at N7 ⊢;rw [fn];have OB7:∀ x off,A7=some ⟨x,off,none⟩->x<u'.heap.size/\x≠Bb:=fun x off e=>by
    subst e;have h9:=slN_addr hs7;subst h9;exact ⟨hiN,by simpa using hT1⟩
   have hst:=BoxN.store (s:=sgnN zn) q6 OB7 N7;have hwb:Below w.heap.size w u':=Upd.below (hbel.trans (hba5.mono hkb)) hup aT;have HST:=Zh hst;have q6c:=q6.cell;have q6f:=q6.thaw;have hkT:=Upd.keeps (Keeps.refl _ _) hup;clear hs7 OB7 N7 hst oN hph hup;refine effc_mem (by rfl) (fun K hK=>?_);go_simp;refine hK _ _ ((hkT.set aS _).set aS _) (fun u6 hu6=>?_);clear hK K;have h6s:=hu6.size;simp [World.setCell] at h6s;have HB6:=Zh (HST.out.below hu6);have HW6:=Zh (((hwb.setCell aT _).setCell aT _).trans (hu6.mono (by simp [World.setCell]; exact hwb.size)));clear hu6 HST hwb q6 q6c q6f hkT;refine effc_nil ?_
   (try simp only [LN])
   go_wp2;go_roundw
   case rel=>exact ⟨k+1,aO,by go_num,HW6.out,aO,by rw [HP.out.2.2.2.2.2.2.2.1]; exact HB6.out⟩
   case measure=>simp [intOf]; omega
  ·have hk2:k=n:=aO
   subst hk2;clear hlt;generalize wr=wq at *;go_wp2;go_loopw [8,39] (fun v i wi=>∃ (j:Nat) (xs:List Value),j<=k/\i = .int .i64 j/\Below wq.heap.size wq wi/\wi.ownsRow wq.heap.size 35 2 v j xs/\RowC (fun b=>wq.heap.size<=b/\some b≠v.ownBlock) wi xs (wholeZ Q k j)) (fun _ i _=>k - (intOf i).toNat)
   case atStart=>exact ⟨0,[],aO,rfl,Zb _ _,⟨rfl,.inl ⟨rfl,rfl⟩⟩,trivial⟩
   case round =>
    obtain ⟨j,xs,hj,rfl,hbw,hown,hrow⟩:=hrel;have HO:=Zh hown;have HC:=Zh hrow;have OL:Hid (∀ b,u8.ownBlock=some b->b<wr.heap.size):=Zh (fun b hb=>ownBlock_lt hown hb);clear hown hrow;have hwz:=hbw.size;have hbw0:=hbel.trans (hbw.mono hkb)
    by_cases hlt:j<k
    ·have hlt2:(j:Int)<(k:Int):=aO
     obtain ⟨b,off,rfl,hbb,hcell⟩:=(H.out.below hbw0) aO;obtain ⟨s1,A1,n1,c1,s2,A2,n2,c2,e1,e2,e3,e4,NA,ND⟩:=hcell j hlt;have HNA:=Zh NA;have HND:=Zh ND;have hsm:=HQ.out.sm j hlt;have hby:=HQ.out.by_ k aO;have hwh:wholeZ Q k (j+1)=wholeZ Q k j++[(Q j).1*(byW Q k / (Q j).2)]:=rfl;obtain ⟨zb,hzb⟩:=Zx (byW Q k);obtain ⟨⟨zp,zd⟩,hzd⟩:=Zx (Q j);rw [hzb] at hby hwh;have HNb2:=HNb.out;rw [hzb] at HNb2;rw [hzd] at hsm hwh HNA HND;simp only at hsm hwh HNA HND;have hd0:zd≠0:=good_ne hsm.1;obtain ⟨zq,hzq⟩:=Zx (zb / zd);have hsq:Sm zq:=by rw [<- hzq]; exact sm_div hby hd0
     obtain ⟨zn,hzn⟩:=Zx (zp*zq);rw [hzq,hzn] at hwh;have fn:fits zn=true:=by rw [<- hzn]; exact Sm.mul hsm.2.1 hsq
     have HP:=Zh (Zi hzq (Zi hzn (Zi hd0 (Zi hsq (Zi fn hwh)))));have HNB:=Zh (HNb2.1.below hbw);clear hcell NA ND hsm hby hwh hzb hzd hd0 hzq hsq hzn fn HNb2;have o10:Own (wr.alloc (.cells #[.bool s1,.slice A1 n1 c1,.bool s2,.slice A2 n2 c2] 37)) wr.heap.size #[.bool s1,.slice A1 n1 c1,.bool s2,.slice A2 n2 c2]:=Own.new rfl;have hba:Below wr.heap.size wr (wr.alloc (.cells #[.bool s1,.slice A1 n1 c1,.bool s2,.slice A2 n2 c2] 37)):=(Zb _ _).alloc (Zr _) _;have ob2:=(ob.below hbw).below hba;have HNA2:=Zh (HNA.out.below hba);have HND2:=Zh (HND.out.below hba);have HNB2:=Zh (HNB.out.below hba);go_wp2;generalize (wr.alloc (.cells #[.bool s1,.slice A1 n1 c1,.bool s2,.slice A2 n2 c2] 37))=w2 at *;refine region_gen (T:=[]) [.make 5 [] (valB _ zq),.make 6 [5] (numB _ zn),.need 7 [6],.need 9 [],.make 10 [] (ownB [] nz1 (fun p=>.pointer (some ⟨p,0,none⟩)))] 11 0 40 (fun _ _=>True) (fun _ _ _ _ _=>trivial) trivial aK aK (by rfl) ?_;have q_d1:=fun v y=>(o10.later (v:=v) (T:=[]) aS y).cell
     have q_d2:=fun v y=>(ob2.later (v:=v) (T:=[]) aS y).cell
     unfold genWalk;refine ⟨_,pz1,?_⟩;refine one_of (by rfl) ⟨fun f=>⟨rfl,fun u hu _=>?_⟩,?_⟩
     ·refine make_call (f:=102) (args:=#[.agg #[.bool sb,.slice Ab nb cb],.agg #[.bool s2,.slice A2 n2 c2]]) gA2 ?_;have q:=matrix_quotient (w:=u) (NumAt.keeps HNB2.out hu) (NumAt.keeps HND2.out hu) HP.out.2.2.1;rw [HP.out.1] at q;refine q.mono ?_;rintro e wx ⟨⟨b,rfl,q1,q2,q3⟩,hbx⟩;exact ⟨(b,0),rfl,q2,q3,hbx,aS,q1⟩
     unfold genWalk;refine ⟨_,pz3,?_⟩;refine one_of (by rfl) ⟨fun f=>⟨rfl,fun u hu hm=>?_⟩,?_⟩
     ·refine make_call (f:=101) (args:=#[.agg #[.bool s1,.slice A1 n1 c1],.agg #[.bool (sgnN zq),slN zq (f 5).1]]) gA2 ?_;have e1:NumO u (f 5).1 zq:=(show (valB [] zq).R (f 5) u from hm 5 aS).2;have q:=num_Mul (w:=u) (NumAt.keeps HNA2.out hu) (e1.at_ HP.out.2.2.2.1.fits);rw [HP.out.2.1] at q;refine q.mono ?_;rintro e wx ⟨⟨b,rfl,q1,q2,q3⟩,hbx⟩;exact ⟨(b,0),rfl,q1,q2,hbx,aS,q3⟩
     unfold genWalk;refine ⟨_,pz3,?_⟩;unfold genWalk;refine ⟨_,pz3,?_⟩;unfold genWalk;refine ⟨_,pz3,?_⟩;refine one_of (by rfl) ⟨fun f=>⟨rfl,fun u hu _=>?_⟩,?_⟩
     ·refine make_own (e:=35) gA2 aS
     unfold genWalk;refine ⟨_,pz3,?_⟩;intro f u' hup hph hmade hdist;obtain ⟨⟨-,oN⟩,loN,hiN⟩:=hmade 6 aO rfl;obtain ⟨⟨-,qO⟩,loO,hiO⟩:=hmade 10 aO rfl;have e5:=hdist 6 10 aO aO rfl rfl aO;replace oN:NumO u' (f 6).1 zn:=oN;replace qO:Own u' (f 10).1 nz1:=qO;clear hmade hdist hph;simp only [TK,Nat.reduceSub,Nat.reduceAdd]
     (try simp only [LN])
     (try simp only [VB2,numV])
     generalize (f 6).1=b9 at *;generalize (f 10).1=b12 at *;generalize (f 5).1=b8 at *;clear f;obtain ⟨A7,n7,c7,hs7⟩:=slN_form zn b9;rw [hs7,HP.out.2.2.2.2.1];have HSL:=Zh hs7;clear hs7;have hwu:Below w2.heap.size w2 u':=Upd.below (Zb _ _) hup aS;have hkT:=Upd.keeps (Keeps.refl _ _) hup;have qOc:=qO.cell;have qOf:=qO.thaw;have ha2:=hba.size;clear hup;refine effc_mem (by rfl) (fun K hK=>?_);go_simp;refine hK _ _ ((hkT.new loO _).new loO _) (fun u3 hu3=>?_);clear hK K;have hs3:=hu3.size;simp [World.setCell] at hs3;have hwu1:=((hwu.setCell loO _).setCell loO _).trans (hu3.mono (by simp [World.setCell]; exact hwu.size));have r12:=((qO.set 0 (.bool (sgnN zn))).set 1 (.slice A7 n7 c7)).below hu3;have oN1:=NumO.below ((oN.far e5 _).far e5 _) hu3;have hk1:=((hkT.new loO _).new loO _).later hu3;clear qO qOc qOf oN hkT hu3 hwu;refine effc_mem (by rfl) (fun K hK=>?_);go_simp;refine hK _ _ hk1 (fun u4 hu4=>?_);clear hK K;replace r12:=r12.below hu4;replace oN1:=oN1.below hu4;have hwu2:=hwu1.trans (hu4.mono hwu1.size);have hs4:=hu4.size;clear hwu1 hk1 hu4;refine effc_nil ?_
     (try simp only [LN])
     have r12c:=r12.cell;have N1:=oN1.at_ HP.out.2.2.2.2.1;unfold numV at N1;rw [HSL.out] at N1;have HN:=Zh N1;have hw4:=hba.trans (hwu2.mono ha2);have h4z:=hw4.size;have OB:Hid (∀ b off,A7=some ⟨b,off,none⟩->wr.heap.size<=b/\b<u4.heap.size):=Zh (fun b off e=>by
      subst e;have h9:=slN_addr HSL.out;subst h9;exact ⟨aO,aO⟩)
     have O5:=Zh (ownsRow_stay HO.out hw4);have C5:=Zh (RowC.move (Y:=fun b=>wq.heap.size<=b/\some b≠u8.ownBlock/\b<u4.heap.size) h4z (fun b hb hX=>⟨hw4.block b hb,hX.1,hX.2,Zl hb h4z⟩) HC.out);have B5:=Zh (hbw.trans (hw4.mono hwz));clear N1 oN1 hwu2 hw4 o10 ob2 hba;go_wp2_with (at_builtin; refine wpList_append_lies _ rfl _ _ _ (by rfl) wq.heap.size 35 i0 zeroN 2 32 Tryz.underlying49 hi0 hz0 hz1 hz2 rfl aO _ j xs (by rfl) (O5.out.alloc _) ⟨u4.heap.size,0,none⟩ 1 1 [.bool (sgnN zn),.slice A7 n7 c7] (by rfl) rfl ?c1 ?c2 aO ?c3 ?c4 ?c5 (u4.heap.size+1) aS ?_)
     case c1=>exact World.news_of_block (heap_alloc_new u4 _)
     case c2=>intro u hu; simp at hu; rcases hu with rfl | rfl <;> rfl
     case c3=>unfold maxLen; omega
     case c4=>omega
     case c5=>simp; omega
     intro g cg w6 ho6 hg6 hat hlt6;have hob:∀ b,_=some b->wq.heap.size<=b:=fun b hb=>ownBlock_ge (O5.out) hb
     have B6:=Zh (Below.grown (B5.out.alloc aO (.cells #[.bool (sgnN zn),.slice A7 n7 c7] 35)) hg6 aT (fun b hb=>hob b hb));have hc6:RowC (fun b=>wq.heap.size<=b/\some b≠some g) w6 (xs++[.bool (sgnN zn),.slice A7 n7 c7]) (wholeZ Q k (j+1)):=by
      rw [HP.out.2.2.2.2.2];have hb5:Below u4.heap.size u4 (u4.alloc (.cells #[.bool (sgnN zn),.slice A7 n7 c7] 35)):=(Zb _ _).alloc (Zr _) _;refine RowC.grown hg6 (fun b hb hX=>⟨hX.2.1,hX.1,fun e=>by
       cases e;rcases hat with h | h
       ·exact hX.2.1 h.symm
       ·have:=hX.2.2; omega⟩) (X:=fun b=>wq.heap.size<=b/\some b≠u8.ownBlock/\b<u4.heap.size) (RowC.snoc ?_ (HN.out.below hb5) (C5.out.below hb5))
      exact ⟨_,_,_,rfl,fun b off e=>by
       have h9:=OB.out b off e;exact ⟨aT,aO,fun e=>by have:=OL.out _ e.symm; omega,h9.2⟩⟩
     have HC6:=Zh hc6;have HO6:=Zh ho6;clear hc6 ho6 hg6 hat hob r12 r12c;go_wp2;go_roundw
     case rel=>exact ⟨j+1,_,aO,by go_num,B6.out,HO6.out,HC6.out⟩
     case measure=>simp [intOf]; omega
    ·have hj2:j=k:=aO
     subst hj2;have q:=row_of (X:=fun b=>w.heap.size<=b) (wholeZ_len Q j j) HO.out (RowC.move (Zr _) (fun b _ hX=>⟨rfl,aO⟩) HC.out) (fun b h _=>aO);have HR:=Zh q;obtain ⟨Ao,co,rfl,-⟩:=q;have HW:=Zh hbw0;clear hbw0;go_wp2;go_ret;exact ⟨⟨_,rfl,HR.out⟩,HW.out⟩
end Go.Proofs.YtflgngjocgiojaaGreat
