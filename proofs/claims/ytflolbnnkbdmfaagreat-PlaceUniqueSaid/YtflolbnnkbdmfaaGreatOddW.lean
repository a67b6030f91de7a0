import Derived.Test.YtflolbnnkbdmfaaGreatRegP
set_option linter.all false
namespace Go.Proofs.YtflolbnnkbdmfaaGreat
open Go.RowKit
theorem run_append_none {P:Program} (w:World) (t ty e:TypeId) (i:TypeInfo) (ht:P.underlying t=some (.slice e)) (hi:P.info? e=some i) (b n cap:Nat) (a:Addr) (c:Nat) (hn:n<=cap) :
 (Builtin.append_ #[t,t] ty #[.slice (some ⟨b,0,none⟩) n cap,.slice (some a) 0 c]).run P w = .ok (.slice (some ⟨b,0,none⟩) n cap) w:=by
 have h:=run_append_room_cells (P:=P) w t ty e i ht hi b 0 n cap a 0 c [] aS aS aS aO aS aS;simpa [World.setCells] using h
theorem late_append_none {P:Program} {w:World} {o:Oper} {a:Act} {K:Value->World->Prop} (s x:Operand) (t:TypeId) (ho:o.op = .call { callee:= .builtin .append,args:=#[s,x],argTypes:=#[t,t] })
 (e:TypeId) (i:TypeInfo) (ht:P.underlying t=some (.slice e)) (hi:P.info? e=some i) (b n cap:Nat) (ad:Addr) (c:Nat) (hs:a.eval s = .slice (some ⟨b,0,none⟩) n cap) (hx:a.eval x = .slice (some ad) 0 c) (hn:n<=cap)
 (h:K (.slice (some ⟨b,0,none⟩) n cap) w):lateOp P o a w K:=by
 unfold lateOp execOp;simp only [ho,resolve,invoke,builtin,Sem.run_bind,Sem.run_pure,Result.andThen_ok,List.map_toArray,List.map_cons,List.map_nil,hs,hx,run_append_none w t _ e i ht hi b n cap ad c hn,lateUpon];exact h
theorem row_cap {w:World} {base:Nat} {e:TypeId} {size g n cap:Nat} {xs:List Value} (h:w.ownsRow base e size (.slice (some ⟨g,0,none⟩) n cap) n xs):n<=cap:=by
 rcases h.2 with ⟨h1,_⟩ | ⟨_,_,_,h1,_,_,h2,_⟩
 ·simp at h1
 ·cases h1; exact h2
theorem encLs_put0 {L:List Loc} {k:Nat} {v:Value} {l':Loc} (h1:k<L.length) (h:(encL (lAt L k)).set 0 v=encL l'):(encLs L).set (k*8) v=encLs (L.set k l'):=encLs_put (j:=0) h1 aO h
theorem LocsAt.newsN {w:World} {g n:Nat} {L:List Loc} (h:LocsAt w (some ⟨g,0,none⟩) n L):∀ j u,(encLs L)[j]?=some u->w.cell? ((⟨g,0,none⟩:Addr).add j)=some u:=fun j u hu=>by
 have hj:j<n*8:=by
  have hl:(encLs L).length=n*8:=by rw [encLs_len,h.len]
  rcases Nat.lt_or_ge j (n*8) with h1 | h1
  ·exact h1
  ·rw [List.getElem?_eq_none aO] at hu; cases hu
 obtain ⟨b,off,e,_,hr⟩:=h.row aO;cases e;have hi:j / 8<n:=aO
 have hj8:j=j / 8*8+j%8:=aO
 have hm:j%8<8:=aO
 rw [hj8,encLs_at (by rw [h.len]; exact hi) hm] at hu;obtain ⟨h0,h1,h2,h3,h4,h5,h6,h7⟩:=hr _ hi;simp only [Nat.zero_add] at h0 h1 h2 h3 h4 h5 h6 h7;rw [hj8,add_off];simp only [Nat.zero_add];rcases (show j%8=0\/j%8=1\/j%8=2\/j%8=3\/j%8=4\/j%8=5\/j%8=6\/j%8=7 by omega) with e | e | e | e | e | e | e | e <;> rw [e] at hu ⊢ <;> cases hu
 ·exact h0
 ·exact h1
 ·exact h2
 ·exact h3
 ·exact h4
 ·exact h5
 ·exact h6
 ·exact h7
theorem oddL_I {L:List Loc} {n:Nat} {q0 q1 q2:Int} (hL:L.length=n) (h0:1<=n) (h:∀ i,i<n->(lAt L i).I) (hq:I64 q2):∀ i,i<(oddL L q0 q1 q2).length->(lAt (oddL L q0 q1 q2) i).I:=by
 have hm0:modN q0 9<9:=by unfold modN; omega
 have hk0:modN q1 L.length<n:=by
  unfold modN;have h1:=Int.emod_nonneg q1 (show (n:Int)≠0 by omega);have h2:=Int.emod_lt_of_pos q1 (show (0:Int)<(n:Int) by omega);rw [hL];omega
 obtain ⟨m,hm⟩:=Zx (modN q0 9);obtain ⟨k,hk⟩:=Zx (modN q1 L.length);rw [hk] at hk0
 by_cases h6:m=6
 ·subst h6;rw [odd_six aO hm hk];obtain ⟨a,b⟩:=cut_I hL hk0 h;rw [a];exact b
 by_cases h7:m=7
 ·subst h7;rw [odd_seven aO hm hk,List.length_append,hL];exact more_I hL h (h k hk0)
 rw [odd_chg aO hm hk h6 h7,List.length_set,hL];exact set_I hL hk0 h (chg_I (h k hk0) (h _ (Nat.mod_lt _ aO)) (oddN_I hq))
theorem odd_end {w W:World} {base g c n m0:Nat} {L L':List Loc} {q0 q1 q2:Int} (hr:W.ownsRow base 69 8 (.slice (some ⟨g,0,none⟩) n c) n (encLs L')) (hq:oddL L q0 q1 q2=L') (hl:L'.length=n) (h1:m0<=n+1) (h2:n<=m0+1) (hB:w.heap.size<=base)
 (hI:∀ i,i<(oddL L q0 q1 q2).length->(lAt (oddL L q0 q1 q2) i).I) :
 ∃ m g' c',Ending.returned (.slice (some ⟨g,0,none⟩) n c) = .returned (.slice (some ⟨g',0,none⟩) m c')/\m<=c'/\c'<=9223372036854775807/\LocsAt W (some ⟨g',0,none⟩) m (oddL L q0 q1 q2)/\m0<=m+1/\m<=m0+1/\w.heap.size<=g'/\g'<W.heap.size:=by
 rw [hq,hl] at hI;rw [hq];obtain ⟨A,c',e,h3,h4,h5,h6⟩:=locs_of_row hr hl hI;simp only [Value.slice.injEq,true_and] at e;obtain ⟨rfl,rfl⟩:=e;exact ⟨n,g,c,rfl,h3,h4,h5,h1,h2,Zm hB (ownBlock_ge hr (g:=g) rfl),ownBlock_lt hr (b:=g) rfl⟩
theorem rem_next {k n:Nat} (h:k<n):((k:Int)+1).tmod (n:Int)=(((k+1)%n:Nat):Int):=by
 rw [Int.tmod_eq_emod_of_nonneg aO,Int.natCast_emod];rfl
set_option maxRecDepth 100000 in
set_option maxHeartbeats 4000000 in
theorem ref20_Odd {w:World} {g n:Nat} {L:List Loc} {q0 q1 q2:Int} (c:Nat) (h:LocsAt w (some ⟨g,0,none⟩) n L) (h0:1<=n) (hn:n<=100) (hq2:I64 q2) :
 Calls Tryz.prog 76 #[.slice (some ⟨g,0,none⟩) n c,.agg #[.int .i64 q0,.int .i64 q1,.int .i64 q2]] w fun e w'=>(∃ m g' c',e = .returned (.slice (some ⟨g',0,none⟩) m c')/\m<=c'/\c'<=9223372036854775807/\LocsAt w' (some ⟨g',0,none⟩) m (oddL L q0 q1 q2)/\n<=m+1/\m<=n+1/\w.heap.size<=g'/\g'<w'.heap.size)/\Below w.heap.size w w':=by
 obtain ⟨i0,hi0,hy0,hy1,hy2⟩:=info_parts infoLoc;have hL:=h.len;have hI:=h.ok;have HI:=Zh hI;have HP0:=Zh h;have hI64:=Zh hq2;clear h hI hq2;go_enter Tryz.func76,Tryz.ntmps76;go_upto_region 1 with fail
 have o3:Own (w.alloc (.cells #[.int .i64 q0,.int .i64 q1,.int .i64 q2] 23)) w.heap.size #[.int .i64 q0,.int .i64 q1,.int .i64 q2]:=Own.new rfl;have hw:Below w.heap.size w (w.alloc (.cells #[.int .i64 q0,.int .i64 q1,.int .i64 q2] 23)):=(Zb _ _).alloc (Zr _) _;have HP:=Zh (HP0.out.below hw);have hz:=hw.size;have hzW:=hw.size;have hsz:w.heap.size<(w.alloc (.cells #[.int .i64 q0,.int .i64 q1,.int .i64 q2] 23)).heap.size:=o3.lt;generalize (w.alloc (.cells #[.int .i64 q0,.int .i64 q1,.int .i64 q2] 23))=W1 at *;clear HP0;have hlit:(W1.alloc (.cells #[] 69)).ownsRow W1.heap.size 69 8 (.slice (some ⟨W1.heap.size,0,none⟩) 0 0) 0 []:=World.ownsRow_lit W1 #[] 0 (Zr _) (by unfold maxLen; omega) aS;have hlA:Below W1.heap.size W1 (W1.alloc (.cells #[] 69)):=(Zb _ _).alloc (Zr _) _;have hnw:=(HP.out.below hlA).newsN;go_wp2_with (at_builtin; refine wpList_append_lies _ rfl _ _ _ (by rfl) W1.heap.size 69 i0 (.agg #[.int .i64 0,.int .i64 0,.int .i64 0,.int .i64 0,.int .i64 0,.int .i64 0,.int .i64 0,.int .i64 0]) 8 64 Tryz.underlying27 hi0 hy0 hy1 hy2 rfl aO _ 0 [] (by rfl) hlit ⟨g,0,none⟩ n c (encLs L) (by rfl) ?c0 hnw ?c2 aO ?c3 ?c4 ?c5 (W1.heap.size+1) aS ?_)
 case c0=>rw [encLs_len,hL]
 case c2=>exact encLs_one L
 case c3=>unfold maxLen; omega
 case c4=>omega
 case c5=>simp
 intro gO cO W2 ho3 hg3 hat3 hlt3;have hB3:Below W1.heap.size W1 W2:=Below.grown hlA hg3 aS (fun b hb=>by simp [Value.ownBlock] at hb; omega)
 (try simp only [Nat.zero_add,List.nil_append] at ho3)
 (try simp only [Nat.zero_add])
 have hgO:=ownBlock_ge ho3 (g:=gO) rfl;have HR:=Zh ho3;replace o3:=o3.below hB3;replace hw:=hw.trans (hB3.mono hw.size);clear ho3 hg3 hat3 hlit hlA hnw hB3 HP;have o3c:=o3.cell;have o3f:=o3.thaw;replace hz:=hw.size;have hn0:((n:Int)==0)=false:=beq_false_of_ne aO;obtain ⟨k,hk,hkn⟩:∃ k:Nat,q1%(n:Int)=k/\k<n:=⟨(q1%(n:Int)).toNat,by have:=Int.emod_nonneg q1 (show (n:Int)≠0 by omega); omega,by have:=Int.emod_lt_of_pos q1 (show (0:Int)<(n:Int) by omega); have:=Int.emod_nonneg q1 (show (n:Int)≠0 by omega); omega⟩;have HK:=Zh (congrArg (Value.int IntKind.i64) hk);have HKM:RowKit.Hid (modN q1 L.length=k):=Zh (by unfold modN; rw [hL]; omega);clear hk;go_wp2_with fail;refine Zd (callv (ref1_Mod q1 (n:Int) aO aO _) HK.out) ?_;rintro e W3 ⟨rfl,rfl⟩;go_upto_region 5 with fail
 obtain ⟨j,hj,hj11⟩:∃ j:Nat,q2%11=(j:Int)/\j<11:=⟨(q2%11).toNat,aO,aO⟩;have HJ:=Zh (congrArg (Value.int IntKind.i64) hj);have hc11:=oddN_at (q:=q2) (cs:=#[.int .i64 q2,.int .i64 0,.int .i64 1,.int .i64 (-1),.int .i64 2,.int .i64 24,.int .i64 25,.int .i64 (-25),.int .i64 10000,.int .i64 10001,.int .i64 (-10001)]) rfl hj;have hjI:(j:Int)<11:=aO
 obtain ⟨nn,hnn⟩:=Zx (oddN q2);rw [hnn] at hc11;have HNN:=Zh hnn;have HC:=Zh hc11;clear hj hnn hc11;refine region_gen (T:=[]) [.make 2 [] (ownB [] #[.int .i64 q2,.int .i64 0,.int .i64 1,.int .i64 (-1),.int .i64 2,.int .i64 24,.int .i64 25,.int .i64 (-25),.int .i64 10000,.int .i64 10001,.int .i64 (-10001)] (fun p=>.slice (some ⟨p,0,none⟩) 11 11)),.need 6 [2]] 9 0 60 (fun _ _=>True) (fun _ _ _ _ _=>trivial) trivial aK aK (by rfl) ?_;unfold genWalk;apply Zs;apply Zi
 ·apply Piece.mk
  ·intro f v hv hr hne;simp only [List.take_succ_cons,List.take_zero,List.drop_succ_cons,List.drop_zero,Nat.reduceSub,Nat.reduceAdd];have d3:=fun y=>(o3.later (v:=v) (T:=[]) aS y).cell
   repeat (go_big_quiet_step ((go_at_call 59; exact lateS (callv (ref1_Mod q2 11 aO aO _) HJ.out))))
   refine wpQuiet_nil ?_;exact rfl
  ·intro f; kernel_rfl
  ·intro f f' hf; kernel_rfl
 simp only [List.take_succ_cons,List.take_zero,List.drop_succ_cons,List.drop_zero,Nat.reduceSub,Nat.reduceAdd,oneOp];refine ⟨fun f=>⟨rfl,fun u hu _=>?_⟩,?_⟩
 ·refine make_own (e:=3) (by (try simp only [LN]); (try simp only [newB_val,numB_val,ownB_val]); go_simp) aS
 unfold genWalk;apply Zs;apply Zi
 ·apply Piece.mk
  ·intro f v hv hr hne;simp only [List.take_succ_cons,List.take_zero,List.drop_succ_cons,List.drop_zero,Nat.reduceSub,Nat.reduceAdd]
   (try simp only [LN])
   (try simp only [newB_val,numB_val,ownB_val])
   have d3:=fun y=>(o3.later (v:=v) (T:=[]) aS y).cell
   repeat (go_big_quiet_step ((go_at_call 59; exact lateS (callv (ref1_Mod q2 11 aO aO _) HJ.out))))
   refine wpQuiet_nil ?_;exact rfl
  ·intro f; kernel_rfl
  ·intro f f' hf; simp
 unfold genWalk;apply Zs;apply Zi
 ·apply Piece.mk
  ·intro f v hv hr hne;simp only [List.take_succ_cons,List.take_zero,List.drop_succ_cons,List.drop_zero,Nat.reduceSub,Nat.reduceAdd]
   (try simp only [LN])
   (try simp only [newB_val,numB_val,ownB_val])
   have k1:=(show (ownB [] #[.int .i64 q2,.int .i64 0,.int .i64 1,.int .i64 (-1),.int .i64 2,.int .i64 24,.int .i64 25,.int .i64 (-25),.int .i64 10000,.int .i64 10001,.int .i64 (-10001)] (fun p=>.slice (some ⟨p,0,none⟩) 11 11)).R (f 2) v from hr 2 aS).2;have dM:=fun y:Later [] W2 v=>((k1.below y.g).cell j).trans HC.out
   repeat (go_big_quiet_step (fail))
   refine wpQuiet_nil ?_;exact rfl
  ·intro f; kernel_rfl
  ·intro f f' hf; first | (simp; done) | (simp [hf 2 aS])
 intro f u hup hph hmade hdist;clear hmade hdist hph;simp only [List.take_succ_cons,List.take_zero,List.drop_succ_cons,List.drop_zero,Nat.reduceSub,Nat.reduceAdd]
 (try simp only [LN])
 (try simp only [newB_val,numB_val,ownB_val])
 have hbu:Below W2.heap.size W2 u:=Upd.below (Zb _ _) hup (fun b hb=>by cases hb);refine effc_nil ?_
 (try simp only [LN])
 have HRu:=Zh (ownsRow_stay HR.out hbu);replace o3:=o3.below hbu;replace o3c:=o3.cell;replace o3f:=o3.thaw;replace hw:=hw.trans (hbu.mono hw.size);clear hup hbu HR HC hjI HJ;replace hz:=hw.size;obtain ⟨m,hm,hm9⟩:∃ m:Nat,q0%9=(m:Int)/\m<9:=⟨(q0%9).toNat,aO,aO⟩;have HMM:RowKit.Hid (modN q0 9=m):=Zh (by unfold modN; omega);obtain ⟨ll,hll⟩:=Zx (lAt L k);obtain ⟨⟨px,py,pz⟩,⟨nx,ny,nz⟩,lo,hi'⟩:=ll;have HLL:=Zh hll;clear hll;have e0:=(HRu.out.cellAt (k*8) aO).trans (encLs_at (L:=L) (k:=k) (j:=0) aO aO);have e1:=(HRu.out.cellAt (k*8+1) aO).trans (encLs_at (L:=L) (k:=k) (j:=1) aO aO);have e2:=(HRu.out.cellAt (k*8+2) aO).trans (encLs_at (L:=L) (k:=k) (j:=2) aO aO);have e3:=(HRu.out.cellAt (k*8+3) aO).trans (encLs_at (L:=L) (k:=k) (j:=3) aO aO);have e4:=(HRu.out.cellAt (k*8+4) aO).trans (encLs_at (L:=L) (k:=k) (j:=4) aO aO);have e5:=(HRu.out.cellAt (k*8+5) aO).trans (encLs_at (L:=L) (k:=k) (j:=5) aO aO);have e6:=(HRu.out.cellAt (k*8+6) aO).trans (encLs_at (L:=L) (k:=k) (j:=6) aO aO);have e7:=(HRu.out.cellAt (k*8+7) aO).trans (encLs_at (L:=L) (k:=k) (j:=7) aO aO);rw [HLL.out] at e0 e1 e2 e3 e4 e5 e6 e7;replace e0:u.cell? ⟨gO,k*8,none⟩=some (.int .i64 px):=e0;replace e1:u.cell? ⟨gO,k*8+1,none⟩=some (.int .i64 py):=e1;replace e2:u.cell? ⟨gO,k*8+2,none⟩=some (.int .i64 pz):=e2;replace e3:u.cell? ⟨gO,k*8+3,none⟩=some (.int .i64 nx):=e3;replace e4:u.cell? ⟨gO,k*8+4,none⟩=some (.int .i64 ny):=e4;replace e5:u.cell? ⟨gO,k*8+5,none⟩=some (.int .i64 nz):=e5;replace e6:u.cell? ⟨gO,k*8+6,none⟩=some (.int .i64 lo):=e6;replace e7:u.cell? ⟨gO,k*8+7,none⟩=some (.int .i64 hi'):=e7;have f0:=HRu.out.frozenAt (k*8);have f1:=HRu.out.frozenAt (k*8+1);have f2:=HRu.out.frozenAt (k*8+2);have f3:=HRu.out.frozenAt (k*8+3);have f4:=HRu.out.frozenAt (k*8+4);have f5:=HRu.out.frozenAt (k*8+5);have f6:=HRu.out.frozenAt (k*8+6);have f7:=HRu.out.frozenAt (k*8+7);have hltO:=ownBlock_lt HRu.out (b:=gO) rfl;have hkI:(k:Int)<(n:Int):=aO
 have hgw:w.heap.size<=gO:=aO
 have hm9':m=0\/m=1\/m=2\/m=3\/m=4\/m=5\/m=6\/m=7\/m=8:=aO
 clear hm9;go_wp2_with fail;refine Zd (callv (ref1_Mod q0 9 aO aO _) (congrArg (Value.int IntKind.i64) hm)) ?_;rintro e W4 ⟨rfl,rfl⟩;clear hm o3 o3c o3f hsz;rcases hm9' with rfl | rfl | rfl | rfl | rfl | rfl | rfl | rfl | rfl
 ·skip;go_wp2;go_ret;have hr:=(HRu.out.stored (k*8) (.int .i64 nn)).1;rw [encLs_put0 (l':=⟨⟨nn,py,pz⟩,⟨nx,ny,nz⟩,lo,hi'⟩) aO (by rw [HLL.out]; rfl)] at hr;have hq:oddL L q0 q1 q2=L.set k ⟨⟨nn,py,pz⟩,⟨nx,ny,nz⟩,lo,hi'⟩:=by rw [odd_chg aO HMM.out HKM.out aO aO,HLL.out,HNN.out]; rfl
  exact ⟨odd_end hr hq (by simp; exact hL) aO aO aO (oddL_I hL h0 HI.out hI64.out),(hw.setCell (p:=⟨gO,k*8,none⟩) hgw _)⟩
 ·skip;go_wp2;go_ret;have hr:=(HRu.out.stored (k*8+2) (.int .i64 nn)).1;rw [encLs_put (l':=⟨⟨px,py,nn⟩,⟨nx,ny,nz⟩,lo,hi'⟩) aO aO (by rw [HLL.out]; rfl)] at hr;have hq:oddL L q0 q1 q2=L.set k ⟨⟨px,py,nn⟩,⟨nx,ny,nz⟩,lo,hi'⟩:=by rw [odd_chg aO HMM.out HKM.out aO aO,HLL.out,HNN.out]; rfl
  exact ⟨odd_end hr hq (by simp; exact hL) aO aO aO (oddL_I hL h0 HI.out hI64.out),(hw.setCell (p:=⟨gO,k*8+2,none⟩) hgw _)⟩
 ·skip;go_wp2;go_ret;have hr:=(HRu.out.stored (k*8+4) (.int .i64 nn)).1;rw [encLs_put (l':=⟨⟨px,py,pz⟩,⟨nx,nn,nz⟩,lo,hi'⟩) aO aO (by rw [HLL.out]; rfl)] at hr;have hq:oddL L q0 q1 q2=L.set k ⟨⟨px,py,pz⟩,⟨nx,nn,nz⟩,lo,hi'⟩:=by rw [odd_chg aO HMM.out HKM.out aO aO,HLL.out,HNN.out]; rfl
  exact ⟨odd_end hr hq (by simp; exact hL) aO aO aO (oddL_I hL h0 HI.out hI64.out),(hw.setCell (p:=⟨gO,k*8+4,none⟩) hgw _)⟩
 ·skip;go_wp2;go_ret;have hr:=(((HRu.out.stored (k*8+3) (.int .i64 0)).1.stored (k*8+4) (.int .i64 0)).1.stored (k*8+5) (.int .i64 1)).1;rw [encLs_put (l':=⟨⟨px,py,pz⟩,⟨0,ny,nz⟩,lo,hi'⟩) aO aO (by rw [HLL.out]; rfl),encLs_put (l':=⟨⟨px,py,pz⟩,⟨0,0,nz⟩,lo,hi'⟩) (by first | omega | (simp; omega)) aO (by rw [lAt_set aO,if_pos rfl]; rfl),encLs_put (l':=⟨⟨px,py,pz⟩,⟨0,0,1⟩,lo,hi'⟩) (by first | omega | (simp; omega)) aO (by rw [lAt_set (by first | omega | (simp; omega)),if_pos rfl]; rfl),set_same,set_same] at hr;have hq:oddL L q0 q1 q2=L.set k ⟨⟨px,py,pz⟩,⟨0,0,1⟩,lo,hi'⟩:=by rw [odd_chg aO HMM.out HKM.out aO aO,HLL.out]; rfl
  exact ⟨odd_end hr hq (by simp; exact hL) aO aO aO (oddL_I hL h0 HI.out hI64.out),(((hw.setCell (p:=⟨gO,k*8+3,none⟩) hgw _).setCell (p:=⟨gO,k*8+4,none⟩) hgw _).setCell (p:=⟨gO,k*8+5,none⟩) hgw _)⟩
 ·skip;go_wp2;go_ret;have hr:=(HRu.out.stored (k*8+6) (.int .i64 nn)).1;rw [encLs_put (l':=⟨⟨px,py,pz⟩,⟨nx,ny,nz⟩,nn,hi'⟩) aO aO (by rw [HLL.out]; rfl)] at hr;have hq:oddL L q0 q1 q2=L.set k ⟨⟨px,py,pz⟩,⟨nx,ny,nz⟩,nn,hi'⟩:=by rw [odd_chg aO HMM.out HKM.out aO aO,HLL.out,HNN.out]; rfl
  exact ⟨odd_end hr hq (by simp; exact hL) aO aO aO (oddL_I hL h0 HI.out hI64.out),(hw.setCell (p:=⟨gO,k*8+6,none⟩) hgw _)⟩
 ·skip;go_wp2;go_ret;have hr:=(HRu.out.stored (k*8+7) (.int .i64 nn)).1;rw [encLs_put (l':=⟨⟨px,py,pz⟩,⟨nx,ny,nz⟩,lo,nn⟩) aO aO (by rw [HLL.out]; rfl)] at hr;have hq:oddL L q0 q1 q2=L.set k ⟨⟨px,py,pz⟩,⟨nx,ny,nz⟩,lo,nn⟩:=by rw [odd_chg aO HMM.out HKM.out aO aO,HLL.out,HNN.out]; rfl
  exact ⟨odd_end hr hq (by simp; exact hL) aO aO aO (oddL_I hL h0 HI.out hI64.out),(hw.setCell (p:=⟨gO,k*8+7,none⟩) hgw _)⟩
 ·skip;have hq:=odd_six (q0:=q0) (q1:=q1) (q2:=q2) (show L.length≠0 by omega) HMM.out HKM.out;have hrt:=row_take HRu.out (k:=k) aO;rw [<- encLs_take L k aO] at hrt;have hcap:=row_cap HRu.out;have HRT:=Zh hrt;have HQ:=Zh hq;clear hq hrt;have hk1:(k:Int)<=(n:Int):=aO
  have hk2:(k:Int)+1<=(n:Int):=aO
  go_upto_region 20 with fail
  by_cases hk3:k+1<n
  ·have hcs:¬ cO=k+1:=aO
   have HIF:=Zh hcs;clear hcs;refine region_late 7 [gO] aK aK (by rfl) ?_;apply Zs;refine ⟨fun v hv hne=>?_,fun u2 hu=>?_⟩
   ·simp only [List.take_succ_cons,List.take_zero]
    repeat (go_big_quiet_step (fail))
    refine wpQuiet_nil ?_;exact rfl
   simp only [List.drop_succ_cons,List.drop_zero];have hcs:=HIF.out
   (try simp only [if_neg hcs])
   clear hcs;have hrt:=ownsRow_stay HRT.out hu;have hru:=ownsRow_stay HRu.out hu;have hw2:=hw.trans (hu.mono hw.size);refine late_mem (fun K hK=>?_);refine late_append _ _ 27 rfl W1.heap.size 69 i0 (.agg #[.int .i64 0,.int .i64 0,.int .i64 0,.int .i64 0,.int .i64 0,.int .i64 0,.int .i64 0,.int .i64 0]) 8 64 Tryz.underlying27 hi0 hy0 hy1 hy2 rfl aO _ k (encLs (L.take k)) (by rfl) hrt ⟨gO,(k+1)*8,none⟩ (n - (k+1)) (cO - (k+1)) (encLs (L.drop (k+1))) (by rfl) (by rw [encLs_len,List.length_drop,hL]) ?_ (encLs_one _) aO (by unfold maxLen; omega) aO (by have:=hw2.size; have:=hu.size; omega) u2.heap.size rfl ?_
   ·intro j9 v9 h9;rw [encLs_drop L (k+1) aO,List.getElem?_drop] at h9;have hj9:(k+1)*8+j9<n*8:=by
     rcases Nat.lt_or_ge ((k+1)*8+j9) (n*8) with h1 | h1
     ·exact h1
     ·rw [List.getElem?_eq_none (by rw [encLs_len,hL]; exact h1)] at h9; cases h9
    rw [add_off];exact (hru.cellAt _ hj9).trans h9
   intro gE cE w6 ho6 hg6 hat6 hlt6;have hw6:=Below.grown hw2 hg6 (by have:=hw2.size; omega) (fun b hb=>by have:=ownBlock_ge hrt hb; omega);have hk6:=keeps_grown (Keeps.of_below (T:=[gO]) hu) hg6 (fun r e=>.inl (by cases e; simp));rw [<- encLs_add,<- HQ.out] at ho6;obtain ⟨m1,hm1⟩:=Zx (k+(n - (k+1)));rw [hm1] at ho6 ⊢;have hm2:m1+1=n:=aO
   have HO6:=Zh ho6;clear ho6 hg6 hat6 hlt6 hru hrt hm1 HIF;refine hK _ _ hk6 (fun u3 hu3=>?_);clear hK K;refine late_mem (fun K hK=>?_);go_simp;refine hK _ _ (hk6.later hu3) (fun u4 hu4=>?_);clear hK K;refine late_nil ?_
   (try simp only [LN])
   have HO7:=Zh (ownsRow_stay (ownsRow_stay HO6.out hu3) hu4);have hw7:=Below.hop (Below.hop hw6 hu3) hu4;clear hu3 hu4 hk6 HO6 hw6;go_wp2;go_ret;exact ⟨odd_end HO7.out rfl (by rw [HQ.out]; exact (cut_I hL hkn HI.out).1.trans aO) aO aO aO (oddL_I hL h0 HI.out hI64.out),hw7⟩
  ·have hkn1:n - (k+1)=0:=aO
   by_cases hcs:cO=k+1
   ·skip;have HIF:=Zh hcs;clear hcs;refine region_late 7 [gO] aK aK (by rfl) ?_;apply Zs;refine ⟨fun v hv hne=>?_,fun u2 hu=>?_⟩
    ·simp only [List.take_succ_cons,List.take_zero]
     repeat (go_big_quiet_step (fail))
     refine wpQuiet_nil ?_;exact rfl
    simp only [List.drop_succ_cons,List.drop_zero];have hcs:=HIF.out
    (try simp only [if_pos hcs])
    (try rw [hkn1])
    clear hcs;have hrt:=ownsRow_stay HRT.out hu;have hru:=ownsRow_stay HRu.out hu;have hw2:=hw.trans (hu.mono hw.size);refine late_mem (fun K hK=>?_);refine late_append_none _ _ 27 rfl 69 i0 Tryz.underlying27 hi0 gO k cO ⟨gO,0,none⟩ (cO - (k+1)) (by rfl) (by rfl) aO ?_;have hk6:=Keeps.of_below (T:=[gO]) hu;refine hK _ _ hk6 (fun u3 hu3=>?_);clear hK K;refine late_mem (fun K hK=>?_);go_simp;refine hK _ _ (hk6.later hu3) (fun u4 hu4=>?_);clear hK K;refine late_nil ?_
    (try simp only [LN])
    have HO7:=Zh (ownsRow_stay (ownsRow_stay hrt hu3) hu4);have hw7:=Below.hop (Below.hop hw2 hu3) hu4;have hq6:oddL L q0 q1 q2=L.take k:=by
     rw [HQ.out,List.drop_of_length_le aO,List.append_nil]
    have HQ6:=Zh hq6;clear hu3 hu4 hk6 hrt hru hq6;go_wp2;go_ret;exact ⟨odd_end HO7.out HQ6.out (by rw [List.length_take]; omega) aO aO aO (oddL_I hL h0 HI.out hI64.out),hw7⟩
   ·skip;have HIF:=Zh hcs;clear hcs;refine region_late 7 [gO] aK aK (by rfl) ?_;apply Zs;refine ⟨fun v hv hne=>?_,fun u2 hu=>?_⟩
    ·simp only [List.take_succ_cons,List.take_zero]
     repeat (go_big_quiet_step (fail))
     refine wpQuiet_nil ?_;exact rfl
    simp only [List.drop_succ_cons,List.drop_zero];have hcs:=HIF.out
    (try simp only [if_neg hcs])
    (try rw [hkn1])
    clear hcs;have hrt:=ownsRow_stay HRT.out hu;have hru:=ownsRow_stay HRu.out hu;have hw2:=hw.trans (hu.mono hw.size);refine late_mem (fun K hK=>?_);refine late_append_none _ _ 27 rfl 69 i0 Tryz.underlying27 hi0 gO k cO ⟨gO,(k+1)*8,none⟩ (cO - (k+1)) (by rfl) (by rfl) aO ?_;have hk6:=Keeps.of_below (T:=[gO]) hu;refine hK _ _ hk6 (fun u3 hu3=>?_);clear hK K;refine late_mem (fun K hK=>?_);go_simp;refine hK _ _ (hk6.later hu3) (fun u4 hu4=>?_);clear hK K;refine late_nil ?_
    (try simp only [LN])
    have HO7:=Zh (ownsRow_stay (ownsRow_stay hrt hu3) hu4);have hw7:=Below.hop (Below.hop hw2 hu3) hu4;have hq6:oddL L q0 q1 q2=L.take k:=by
     rw [HQ.out,List.drop_of_length_le aO,List.append_nil]
    have HQ6:=Zh hq6;clear hu3 hu4 hk6 hrt hru hq6;go_wp2;go_ret;exact ⟨odd_end HO7.out HQ6.out (by rw [List.length_take]; omega) aO aO aO (oddL_I hL h0 HI.out hI64.out),hw7⟩
 ·skip;have hal:Below u.heap.size u (u.alloc (.cells #[.int .i64 px,.int .i64 py,.int .i64 pz,.int .i64 nx,.int .i64 ny,.int .i64 nz,.int .i64 lo,.int .i64 hi'] 69)):=(Zb _ _).alloc (Zr _) _;have hro:=ownsRow_stay HRu.out hal;go_wp2_with (at_builtin; refine wpList_append_lies _ rfl _ _ _ (by rfl) W1.heap.size 69 i0 (.agg #[.int .i64 0,.int .i64 0,.int .i64 0,.int .i64 0,.int .i64 0,.int .i64 0,.int .i64 0,.int .i64 0]) 8 64 Tryz.underlying27 hi0 hy0 hy1 hy2 rfl aO _ n (encLs L) (by rfl) hro ⟨u.heap.size,0,none⟩ 1 1 (encL ⟨⟨px,py,pz⟩,⟨nx,ny,nz⟩,lo,hi'⟩) (by rfl) rfl ?c1 ?c2 aO ?c3 ?c4 ?c5 (u.heap.size+1) aS ?_)
  case c1=>exact World.news_of_block (heap_alloc_new u _)
  case c2=>intro y hy; simp [encL] at hy; rcases hy with rfl | rfl | rfl | rfl | rfl | rfl | rfl | rfl <;> rfl
  case c3=>unfold maxLen; omega
  case c4=>omega
  case c5=>simp; omega
  intro gE cE w6 ho6 hg6 hat6 hlt6;have hg7:=ownBlock_ge ho6 (g:=gE) rfl;have hw6:=Below.grown (hw.trans (hal.mono hw.size)) hg6 (by first | omega | (simp; omega)) (fun b hb=>by have:=ownBlock_ge hro hb; omega);rw [encLs_snoc] at ho6;have HO6:=Zh ho6;clear ho6 hg6 hat6 hlt6 hro hal;go_wp2;go_ret;have hq:oddL L q0 q1 q2=L++[⟨⟨px,py,pz⟩,⟨nx,ny,nz⟩,lo,hi'⟩]:=by rw [odd_seven aO HMM.out HKM.out,HLL.out]
  exact ⟨odd_end HO6.out hq (by simp; exact hL) aO aO aO (oddL_I hL h0 HI.out hI64.out),hw6⟩
 ·skip;obtain ⟨j2,hj2,hj2n⟩:∃ j2,(k+1)%L.length=j2/\j2<n:=⟨_,rfl,by rw [hL]; exact Nat.mod_lt _ aO⟩;obtain ⟨l2,hl2⟩:=Zx (lAt L j2);obtain ⟨⟨ax,ay,az⟩,⟨bx,by',bz⟩,lo2,hi2⟩:=l2;have HL2:=Zh hl2;clear hl2;have d0:u.cell? ⟨gO,j2*8,none⟩=some (.int .i64 ax):=by
   have hd:=(HRu.out.cellAt (j2*8) aO).trans (encLs_at (L:=L) (k:=j2) (j:=0) aO aO);rw [HL2.out] at hd;exact hd
  have d1:u.cell? ⟨gO,j2*8+1,none⟩=some (.int .i64 ay):=by
   have hd:=(HRu.out.cellAt (j2*8+1) aO).trans (encLs_at (L:=L) (k:=j2) (j:=1) aO aO);rw [HL2.out] at hd;exact hd
  have d2:u.cell? ⟨gO,j2*8+2,none⟩=some (.int .i64 az):=by
   have hd:=(HRu.out.cellAt (j2*8+2) aO).trans (encLs_at (L:=L) (k:=j2) (j:=2) aO aO);rw [HL2.out] at hd;exact hd
  have hrm:=rem_next hkn;rw [<- hL,hj2,hL] at hrm;have HJ2:=Zh hj2;clear hj2;have hj2I:(j2:Int)<(n:Int):=aO
  go_upto_region 25 with fail
  have hr:=(((HRu.out.stored (k*8) (.int .i64 ax)).1.stored (k*8+1) (.int .i64 ay)).1.stored (k*8+2) (.int .i64 az)).1;rw [encLs_put0 (l':=⟨⟨ax,py,pz⟩,⟨nx,ny,nz⟩,lo,hi'⟩) aO (by rw [HLL.out]; rfl),encLs_put (l':=⟨⟨ax,ay,pz⟩,⟨nx,ny,nz⟩,lo,hi'⟩) (by first | omega | (simp; omega)) aO (by rw [lAt_set aO,if_pos rfl]; rfl),encLs_put (l':=⟨⟨ax,ay,az⟩,⟨nx,ny,nz⟩,lo,hi'⟩) (by first | omega | (simp; omega)) aO (by rw [lAt_set (by first | omega | (simp; omega)),if_pos rfl]; rfl),set_same,set_same] at hr;have HR2:=Zh hr;have hw2:=(((hw.setCell (p:=⟨gO,k*8,none⟩) hgw (.int .i64 ax)).setCell (p:=⟨gO,k*8+1,none⟩) hgw (.int .i64 ay)).setCell (p:=⟨gO,k*8+2,none⟩) hgw (.int .i64 az));clear hr e0 f0 e1 f1 e2 f2 e3 f3 e4 f4 e5 f5 e6 f6 e7 f7 d0 d1 d2 HRu hw;generalize (((u.setCell ⟨gO,k*8,none⟩ (.int .i64 ax)).setCell ⟨gO,k*8+1,none⟩ (.int .i64 ay)).setCell ⟨gO,k*8+2,none⟩ (.int .i64 az))=u2 at *;have hz2:=hw2.size;have hltO2:=ownBlock_lt HR2.out (b:=gO) rfl;have d3:u2.cell? ⟨gO,j2*8+3,none⟩=some (.int .i64 bx):=by
   have hd:=(HR2.out.cellAt (j2*8+3) aO).trans (encLs_at (k:=j2) (j:=3) (by first | omega | (simp; omega)) aO);rw [lAt_set aO] at hd
   by_cases e:j2=k
   ·subst e;rw [if_pos rfl] at hd;have h9:=HL2.out.symm.trans HLL.out;simp only [Loc.mk.injEq,V3.mk.injEq] at h9;obtain ⟨_,⟨h91,h92,h93⟩,_⟩:=h9;subst h91 h92 h93;exact hd
   ·rw [if_neg e,HL2.out] at hd;exact hd
  have e3:u2.cell? ⟨gO,k*8+3,none⟩=some (.int .i64 nx):=by
   have hd:=(HR2.out.cellAt (k*8+3) aO).trans (encLs_at (k:=k) (j:=3) (by first | omega | (simp; omega)) aO);rw [lAt_set aO,if_pos rfl] at hd;exact hd
  have f3:=HR2.out.frozenAt (k*8+3);have d4:u2.cell? ⟨gO,j2*8+4,none⟩=some (.int .i64 by'):=by
   have hd:=(HR2.out.cellAt (j2*8+4) aO).trans (encLs_at (k:=j2) (j:=4) (by first | omega | (simp; omega)) aO);rw [lAt_set aO] at hd
   by_cases e:j2=k
   ·subst e;rw [if_pos rfl] at hd;have h9:=HL2.out.symm.trans HLL.out;simp only [Loc.mk.injEq,V3.mk.injEq] at h9;obtain ⟨_,⟨h91,h92,h93⟩,_⟩:=h9;subst h91 h92 h93;exact hd
   ·rw [if_neg e,HL2.out] at hd;exact hd
  have e4:u2.cell? ⟨gO,k*8+4,none⟩=some (.int .i64 ny):=by
   have hd:=(HR2.out.cellAt (k*8+4) aO).trans (encLs_at (k:=k) (j:=4) (by first | omega | (simp; omega)) aO);rw [lAt_set aO,if_pos rfl] at hd;exact hd
  have f4:=HR2.out.frozenAt (k*8+4);have d5:u2.cell? ⟨gO,j2*8+5,none⟩=some (.int .i64 bz):=by
   have hd:=(HR2.out.cellAt (j2*8+5) aO).trans (encLs_at (k:=j2) (j:=5) (by first | omega | (simp; omega)) aO);rw [lAt_set aO] at hd
   by_cases e:j2=k
   ·subst e;rw [if_pos rfl] at hd;have h9:=HL2.out.symm.trans HLL.out;simp only [Loc.mk.injEq,V3.mk.injEq] at h9;obtain ⟨_,⟨h91,h92,h93⟩,_⟩:=h9;subst h91 h92 h93;exact hd
   ·rw [if_neg e,HL2.out] at hd;exact hd
  have e5:u2.cell? ⟨gO,k*8+5,none⟩=some (.int .i64 nz):=by
   have hd:=(HR2.out.cellAt (k*8+5) aO).trans (encLs_at (k:=k) (j:=5) (by first | omega | (simp; omega)) aO);rw [lAt_set aO,if_pos rfl] at hd;exact hd
  have f5:=HR2.out.frozenAt (k*8+5);go_wp2;go_ret;have hr:=(((HR2.out.stored (k*8+3) (.int .i64 bx)).1.stored (k*8+4) (.int .i64 by')).1.stored (k*8+5) (.int .i64 bz)).1;rw [encLs_put (l':=⟨⟨ax,ay,az⟩,⟨bx,ny,nz⟩,lo,hi'⟩) (by first | omega | (simp; omega)) aO (by rw [lAt_set (by first | omega | (simp; omega)),if_pos rfl]; rfl),encLs_put (l':=⟨⟨ax,ay,az⟩,⟨bx,by',nz⟩,lo,hi'⟩) (by first | omega | (simp; omega)) aO (by rw [lAt_set (by first | omega | (simp; omega)),if_pos rfl]; rfl),encLs_put (l':=⟨⟨ax,ay,az⟩,⟨bx,by',bz⟩,lo,hi'⟩) (by first | omega | (simp; omega)) aO (by rw [lAt_set (by first | omega | (simp; omega)),if_pos rfl]; rfl),set_same,set_same,set_same] at hr;have hq:oddL L q0 q1 q2=L.set k ⟨⟨ax,ay,az⟩,⟨bx,by',bz⟩,lo,hi'⟩:=by rw [odd_chg aO HMM.out HKM.out aO aO,HJ2.out,HLL.out,HL2.out]; rfl
  exact ⟨odd_end hr hq (by simp; exact hL) aO aO aO (oddL_I hL h0 HI.out hI64.out),(((hw2.setCell (p:=⟨gO,k*8+3,none⟩) hgw _).setCell (p:=⟨gO,k*8+4,none⟩) hgw _).setCell (p:=⟨gO,k*8+5,none⟩) hgw _)⟩
end Go.Proofs.YtflolbnnkbdmfaaGreat
