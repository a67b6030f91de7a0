import Derived.Test.YtflolbnnkbdmfaaGreatPlcQ
import Derived.Test.YtflolbnnkbdmfaaGreatPlcK
set_option linter.all false
namespace Go.Proofs.YtflolbnnkbdmfaaGreat
open Go.RowKit
set_option maxHeartbeats 8000000
set_option maxRecDepth 100000
def motR (o:Int) (x:Nat->QI) (w:World) (e:Ending) (w':World):Prop:=(∃ (s0 t0:Bool) (A0 E0:Option Addr) (n0 c0 m0 d0:Nat) (s1 t1:Bool) (A1 E1:Option Addr) (n1 c1 m1 d1:Nat) (s2 t2:Bool) (A2 E2:Option Addr) (n2 c2 m2 d2:Nat) (s3 t3:Bool) (A3 E3:Option Addr) (n3 c3 m3 d3:Nat) (s4 t4:Bool) (A4 E4:Option Addr) (n4 c4 m4 d4:Nat) (s5 t5:Bool) (A5 E5:Option Addr) (n5 c5 m5 d5:Nat),e = .returned (.tuple #[.agg #[.bool s0,.slice A0 n0 c0,.bool t0,.slice E0 m0 d0,.bool s1,.slice A1 n1 c1,.bool t1,.slice E1 m1 d1,.bool s2,.slice A2 n2 c2,.bool t2,.slice E2 m2 d2,.bool s3,.slice A3 n3 c3,.bool t3,.slice E3 m3 d3,.bool s4,.slice A4 n4 c4,.bool t4,.slice E4 m4 d4,.bool s5,.slice A5 n5 c5,.bool t5,.slice E5 m5 d5],.int .i64 o])/\(o=0->RatAt w' (.agg #[.bool s0,.slice A0 n0 c0,.bool t0,.slice E0 m0 d0]) (x 0).1 (x 0).2/\RatAt w' (.agg #[.bool s1,.slice A1 n1 c1,.bool t1,.slice E1 m1 d1]) (x 1).1 (x 1).2/\RatAt w' (.agg #[.bool s2,.slice A2 n2 c2,.bool t2,.slice E2 m2 d2]) (x 2).1 (x 2).2/\RatAt w' (.agg #[.bool s3,.slice A3 n3 c3,.bool t3,.slice E3 m3 d3]) (x 3).1 (x 3).2/\RatAt w' (.agg #[.bool s4,.slice A4 n4 c4,.bool t4,.slice E4 m4 d4]) (x 4).1 (x 4).2/\RatAt w' (.agg #[.bool s5,.slice A5 n5 c5,.bool t5,.slice E5 m5 d5]) (x 5).1 (x 5).2))/\Below w.heap.size w w'
theorem results_row_tmp {P:Program} {fn:Func} {p u:Tmp} {ty:TypeId} (h:fn.results=#[.cell p ty,.tmp u]) (tmps:Array Value) (w:World) (g:Nat) (t:TypeId) (cs:Array Value) (fr:Nat×Nat) (d:TypeDesc) (x:Value)
 (hp:tmps.getD p undef = .pointer (some ⟨g,0,none⟩)) (hx:tmps.getD u undef=x) (hg:w.heap[g]?=some (.cells cs t fr)) (hu:P.underlying ty=some d) (hd:(match d with | .struct _ | .array _ _=>true | _=>false)=true) (hi:(P.info? ty).map (·.size)=some cs.size) :
 (results fn tmps).run P w = .ok (.tuple #[.agg cs,x]) w:=by
 rw [results_cell_tmp h,hp,hx];simp [asAddr,run_loadVar_row w g t ty cs fr d hg hu hd hi,Result.andThen]
theorem noU_24:noU nz12:=fun i d h=>by
 match i with
 | 0=>cases h
 | 1=>cases h
 | 2=>cases h
 | 3=>cases h
 | 4=>cases h
 | 5=>cases h
 | 6=>cases h
 | 7=>cases h
 | 8=>cases h
 | 9=>cases h
 | 10=>cases h
 | 11=>cases h
 | 12=>cases h
 | 13=>cases h
 | 14=>cases h
 | 15=>cases h
 | 16=>cases h
 | 17=>cases h
 | 18=>cases h
 | 19=>cases h
 | 20=>cases h
 | 21=>cases h
 | 22=>cases h
 | 23=>cases h
 | i+24=>simp at h
theorem rats_six {W:World} {b:Nat} {x:Nat->QI} (h:RatsG W b x 0 6):∃ (s0 t0:Bool) (A0 E0:Option Addr) (n0 c0 m0 d0:Nat) (s1 t1:Bool) (A1 E1:Option Addr) (n1 c1 m1 d1:Nat) (s2 t2:Bool) (A2 E2:Option Addr) (n2 c2 m2 d2:Nat) (s3 t3:Bool) (A3 E3:Option Addr) (n3 c3 m3 d3:Nat) (s4 t4:Bool) (A4 E4:Option Addr) (n4 c4 m4 d4:Nat) (s5 t5:Bool) (A5 E5:Option Addr) (n5 c5 m5 d5:Nat),Own W b #[.bool s0,.slice A0 n0 c0,.bool t0,.slice E0 m0 d0,.bool s1,.slice A1 n1 c1,.bool t1,.slice E1 m1 d1,.bool s2,.slice A2 n2 c2,.bool t2,.slice E2 m2 d2,.bool s3,.slice A3 n3 c3,.bool t3,.slice E3 m3 d3,.bool s4,.slice A4 n4 c4,.bool t4,.slice E4 m4 d4,.bool s5,.slice A5 n5 c5,.bool t5,.slice E5 m5 d5]/\RatX (fun y=>b<y) W s0 A0 n0 c0 t0 E0 m0 d0 (x 0).1 (x 0).2/\RatX (fun y=>b<y) W s1 A1 n1 c1 t1 E1 m1 d1 (x 1).1 (x 1).2/\RatX (fun y=>b<y) W s2 A2 n2 c2 t2 E2 m2 d2 (x 2).1 (x 2).2/\RatX (fun y=>b<y) W s3 A3 n3 c3 t3 E3 m3 d3 (x 3).1 (x 3).2/\RatX (fun y=>b<y) W s4 A4 n4 c4 t4 E4 m4 d4 (x 4).1 (x 4).2/\RatX (fun y=>b<y) W s5 A5 n5 c5 t5 E5 m5 d5 (x 5).1 (x 5).2:=by
 obtain ⟨cs,ho,hz,hc⟩:=h;obtain ⟨s0,A0,n0,c0,t0,E0,m0,d0,e00,e01,e02,e03,r0⟩:=hc 0 aO aO;obtain ⟨s1,A1,n1,c1,t1,E1,m1,d1,e10,e11,e12,e13,r1⟩:=hc 1 aO aO;obtain ⟨s2,A2,n2,c2,t2,E2,m2,d2,e20,e21,e22,e23,r2⟩:=hc 2 aO aO;obtain ⟨s3,A3,n3,c3,t3,E3,m3,d3,e30,e31,e32,e33,r3⟩:=hc 3 aO aO;obtain ⟨s4,A4,n4,c4,t4,E4,m4,d4,e40,e41,e42,e43,r4⟩:=hc 4 aO aO;obtain ⟨s5,A5,n5,c5,t5,E5,m5,d5,e50,e51,e52,e53,r5⟩:=hc 5 aO aO;have e:cs=#[.bool s0,.slice A0 n0 c0,.bool t0,.slice E0 m0 d0,.bool s1,.slice A1 n1 c1,.bool t1,.slice E1 m1 d1,.bool s2,.slice A2 n2 c2,.bool t2,.slice E2 m2 d2,.bool s3,.slice A3 n3 c3,.bool t3,.slice E3 m3 d3,.bool s4,.slice A4 n4 c4,.bool t4,.slice E4 m4 d4,.bool s5,.slice A5 n5 c5,.bool t5,.slice E5 m5 d5]:=by
  apply Array.ext_getElem?;intro j
  match j with
  | 0=>exact e00
  | 1=>exact e01
  | 2=>exact e02
  | 3=>exact e03
  | 4=>exact e10
  | 5=>exact e11
  | 6=>exact e12
  | 7=>exact e13
  | 8=>exact e20
  | 9=>exact e21
  | 10=>exact e22
  | 11=>exact e23
  | 12=>exact e30
  | 13=>exact e31
  | 14=>exact e32
  | 15=>exact e33
  | 16=>exact e40
  | 17=>exact e41
  | 18=>exact e42
  | 19=>exact e43
  | 20=>exact e50
  | 21=>exact e51
  | 22=>exact e52
  | 23=>exact e53
  | j+24=>rw [Array.getElem?_eq_none aO,Array.getElem?_eq_none aS]
 subst e;exact ⟨s0,t0,A0,E0,n0,c0,m0,d0,s1,t1,A1,E1,n1,c1,m1,d1,s2,t2,A2,E2,n2,c2,m2,d2,s3,t3,A3,E3,n3,c3,m3,d3,s4,t4,A4,E4,n4,c4,m4,d4,s5,t5,A5,E5,n5,c5,m5,d5,ho.own,r0,r1,r2,r3,r4,r5⟩
theorem plc_Motion {w:World} {A Ab:Option Addr} {n nb:Nat} {L:List Loc} {b:List Int} {x:Nat->QI} (c cb:Nat) (h:LocsAt w A n L) (hn:n<=1000) (hbI:IntsAt w Ab nb b) (hf:motC L b=0->FineS (locM L) b x) :
 Calls Tryz.prog 25 #[.slice A n c,.slice Ab nb cb] w (motR (motC L b) x w):=by
 obtain ⟨o,ho⟩:=Zx (motC L b);obtain ⟨e1,he1⟩:=Zx (locC L);rw [ho];have HO:=Zh ho;have HE:=Zh he1;have H:=Zh h;have HB:=Zh hbI;have HFS:=Zh hf;have HL:=Zh h.len;have HLB:=Zh hbI.len;clear ho he1 h hbI hf;have hW:Below w.heap.size w (w.alloc (.cells nz12 50)):=aBel;have oM:Own (w.alloc (.cells nz12 50)) w.heap.size nz12:=aOwn;go_enter Tryz.func25,Tryz.ntmps25;go_upto_region 1 with fail
 generalize (w.alloc (.cells nz12 50))=W at *;obtain ⟨B0,hB0⟩:=Zx (w.heap.size);rw [hB0] at oM ⊢;have HB0:=Zh hB0;clear hB0;have q1:=plc_Check c (H.out.below hW) hn;rw [HE.out] at q1;have Q1:=Zh q1;clear q1;go_wp2_with fail;refine Zd Q1.out ?_;rintro e w1 ⟨rfl,hb⟩;have hw1:=hW.trans (hb.mono hW.size);have oN:=oM.below hb;clear hb Q1 hW oM
 by_cases he:e1=0
 ·subst he;have h66:=(locC_zero HE.out).1;obtain rfl:n=6:=by rw [<- HL.out]; exact h66
  clear h66
  by_cases h6:nb=6
  ·subst h6;go_wp2;go_loopw [23] (fun i wr=>∃ k:Nat,k<=6/\i = .int .i64 k/\Below w.heap.size w wr/\Own wr B0 nz12/\anyF (outB L b) k=false) (fun i _=>6 - (intOf i).toNat)
   case atStart=>exact ⟨0,aO,rfl,hw1,oN,rfl⟩
   case round =>
    clear hw1 oN;obtain ⟨k,hk,rfl,hw,oN,hA⟩:=hrel;have HA:=Zh hA;have hws:=hw.size;have hNl:=oN.lt;clear hA
    by_cases hk6:k<6
    ·have hki:(k:Int)<6:=aO
     obtain ⟨bl,off,rfl,hlt,hcs⟩:=H.out.row aO;obtain ⟨bb,offb,rfl,hltb,hcb⟩:=HB.out.row aO;obtain ⟨l,hl⟩:=Zx (lAt L k);obtain ⟨v,hv⟩:=Zx (iAt b k);have hcell:=hcs k hk6;have hcv:=hcb k hk6;rw [hl] at hcell;rw [hv] at hcv;have hbk:=hw.block bl hlt;have hbv:=hw.block bb hltb;obtain ⟨h0,h1,h2,h3,h4,h5,h6,h7⟩:=hcell;have e0:=(Zc (w:=w) (a:=⟨bl,off+k*8,none⟩) hbk).trans h0;have e1:=(Zc (w:=w) (a:=⟨bl,off+k*8+1,none⟩) hbk).trans h1;have e2:=(Zc (w:=w) (a:=⟨bl,off+k*8+2,none⟩) hbk).trans h2;have e3:=(Zc (w:=w) (a:=⟨bl,off+k*8+3,none⟩) hbk).trans h3;have e4:=(Zc (w:=w) (a:=⟨bl,off+k*8+4,none⟩) hbk).trans h4;have e5:=(Zc (w:=w) (a:=⟨bl,off+k*8+5,none⟩) hbk).trans h5;have e6:=(Zc (w:=w) (a:=⟨bl,off+k*8+6,none⟩) hbk).trans h6;have e7:=(Zc (w:=w) (a:=⟨bl,off+k*8+7,none⟩) hbk).trans h7;have ev:=(Zc (w:=w) (a:=⟨bb,offb+k,none⟩) hbv).trans hcv;have HLV:=Zh (Zi hl hv);clear hcs hcb h0 h1 h2 h3 h4 h5 h6 h7 hl hv hbk hbv hcv;obtain ⟨⟨px,py,pz⟩,⟨nx,ny,nz⟩,lo,hi⟩:=l;have hob:outB L b k=(decide (v<lo) || decide (hi<v)):=by unfold outB; rw [HLV.out.1,HLV.out.2]
     have HOB:=Zh hob;clear hob
     by_cases hvl:v<lo
     ·have hC:o=3:=by
       rw [<- HO.out]; unfold motC; rw [if_pos HE.out,if_pos HLB.out,if_pos];exact anyF_of hk6 (by rw [HOB.out,decide_eq_true hvl]; rfl)
      have HC:=Zh hC;have HNZ:=Zh (show ¬ o=0 by omega);clear hC;have hAw:Below wr.heap.size wr (wr.alloc (.cells #[.int .i64 px,.int .i64 py,.int .i64 pz,.int .i64 nx,.int .i64 ny,.int .i64 nz,.int .i64 lo,.int .i64 hi] 69)):=aBel;have hwA:=hw.trans (hAw.mono hw.size);have oNA:=oN.below hAw;have oL:Own (wr.alloc (.cells #[.int .i64 px,.int .i64 py,.int .i64 pz,.int .i64 nx,.int .i64 ny,.int .i64 nz,.int .i64 lo,.int .i64 hi] 69)) wr.heap.size #[.int .i64 px,.int .i64 py,.int .i64 pz,.int .i64 nx,.int .i64 ny,.int .i64 nz,.int .i64 lo,.int .i64 hi]:=Own.new rfl;have evA:=((Zc (w:=wr) (a:=⟨bb,offb+k,none⟩) (hAw.block bb (Zl hltb hws)))).trans ev;go_upto_region 9 with fail
      clear hAw e0 e1 e2 e3 e4 e5 e6 e7 ev oN hw;generalize (wr.alloc (.cells #[.int .i64 px,.int .i64 py,.int .i64 pz,.int .i64 nx,.int .i64 ny,.int .i64 nz,.int .i64 lo,.int .i64 hi] 69))=W5 at *;obtain ⟨B5,hB5⟩:=Zx (wr.heap.size);rw [hB5] at oL ⊢;clear hB5;refine region_late 16 [] aK aK (by rfl) ?_;apply Zs;refine ⟨fun v hv hne=>?_,fun u hu=>?_⟩
      ·simp only [TK];have dL:=fun y=>(oL.later (v:=v) (T:=[]) aS y).cell
       have dv:=later_cell (T:=[]) (v:=v) (Zl hltb hwA.size) aS evA;exact qz
      simp only [TK];have hw9:=hwA.trans (hu.mono hwA.size);have oN9:=oNA.below hu;clear hu hwA oNA oL evA;refine late_nil ?_
      (try simp only [LN])
      go_upto_region 10 with fail
      refine region_flat 0 aK ?_;apply Zs;refine ⟨fun v hv hne=>?_,fun u hu=>?_⟩
      ·simp only [List.take_zero];refine wpQuiet_nil ?_;exact rfl
      simp only [List.drop_zero];have p9:=oN9.below hu;have hu9:=hw9.trans (hu.mono hw9.size);have hbb:=HB0.out;clear hu;refine fl ?_;refine flat_mem (by rfl) (fun K hK=>?_)
      (try simp only [LN])
      refine late_store 50 _ _ rfl B0 nz12 nz12 rfl rfl p9 rfl aK aK (fun wf hwf q3=>?_);refine hK _ _ ?_;clear hK K;have hF:Below w.heap.size w wf:=by rw [hwf]; exact below_setAll aO _ _ _ hu9
      clear hwf p9 hu9;refine fl ?_;refine flat_nil ?_
      (try simp only [LN])
      go_wp2;obtain ⟨tt,htt⟩:=q3;refine bodyPost_ret (results_row_tmp Tryz.results25 _ wf B0 tt nz12 (0,0) _ (.int .i64 3) rfl rfl htt Tryz.underlying50 rfl aK) rfl ?_;exact ⟨⟨false,false,none,none,0,0,0,0,false,false,none,none,0,0,0,0,false,false,none,none,0,0,0,0,false,false,none,none,0,0,0,0,false,false,none,none,0,0,0,0,false,false,none,none,0,0,0,0,by rw [show o=3 from HC.out],fun h=>absurd h HNZ.out⟩,hF⟩
     ·by_cases hvh:hi<v
      ·have hC:o=3:=by
        rw [<- HO.out]; unfold motC; rw [if_pos HE.out,if_pos HLB.out,if_pos];exact anyF_of hk6 (by rw [HOB.out,decide_eq_true hvh,Bool.or_true])
       have HC:=Zh hC;have HNZ:=Zh (show ¬ o=0 by omega);clear hC;have hAw:Below wr.heap.size wr (wr.alloc (.cells #[.int .i64 px,.int .i64 py,.int .i64 pz,.int .i64 nx,.int .i64 ny,.int .i64 nz,.int .i64 lo,.int .i64 hi] 69)):=aBel;have hwA:=hw.trans (hAw.mono hw.size);have oNA:=oN.below hAw;have oL:Own (wr.alloc (.cells #[.int .i64 px,.int .i64 py,.int .i64 pz,.int .i64 nx,.int .i64 ny,.int .i64 nz,.int .i64 lo,.int .i64 hi] 69)) wr.heap.size #[.int .i64 px,.int .i64 py,.int .i64 pz,.int .i64 nx,.int .i64 ny,.int .i64 nz,.int .i64 lo,.int .i64 hi]:=Own.new rfl;have evA:=((Zc (w:=wr) (a:=⟨bb,offb+k,none⟩) (hAw.block bb (Zl hltb hws)))).trans ev;go_upto_region 9 with fail
       clear hAw e0 e1 e2 e3 e4 e5 e6 e7 ev oN hw;generalize (wr.alloc (.cells #[.int .i64 px,.int .i64 py,.int .i64 pz,.int .i64 nx,.int .i64 ny,.int .i64 nz,.int .i64 lo,.int .i64 hi] 69))=W5 at *;obtain ⟨B5,hB5⟩:=Zx (wr.heap.size);rw [hB5] at oL ⊢;clear hB5;refine region_late 16 [] aK aK (by rfl) ?_;apply Zs;refine ⟨fun v hv hne=>?_,fun u hu=>?_⟩
       ·simp only [TK];have dL:=fun y=>(oL.later (v:=v) (T:=[]) aS y).cell
        have dv:=later_cell (T:=[]) (v:=v) (Zl hltb hwA.size) aS evA;exact qz
       simp only [TK];have hw9:=hwA.trans (hu.mono hwA.size);have oN9:=oNA.below hu;clear hu hwA oNA oL evA;refine late_nil ?_
       (try simp only [LN])
       go_upto_region 10 with fail
       refine region_flat 0 aK ?_;apply Zs;refine ⟨fun v hv hne=>?_,fun u hu=>?_⟩
       ·simp only [List.take_zero];refine wpQuiet_nil ?_;exact rfl
       simp only [List.drop_zero];have p9:=oN9.below hu;have hu9:=hw9.trans (hu.mono hw9.size);have hbb:=HB0.out;clear hu;refine fl ?_;refine flat_mem (by rfl) (fun K hK=>?_)
       (try simp only [LN])
       refine late_store 50 _ _ rfl B0 nz12 nz12 rfl rfl p9 rfl aK aK (fun wf hwf q3=>?_);refine hK _ _ ?_;clear hK K;have hF:Below w.heap.size w wf:=by rw [hwf]; exact below_setAll aO _ _ _ hu9
       clear hwf p9 hu9;refine fl ?_;refine flat_nil ?_
       (try simp only [LN])
       go_wp2;obtain ⟨tt,htt⟩:=q3;refine bodyPost_ret (results_row_tmp Tryz.results25 _ wf B0 tt nz12 (0,0) _ (.int .i64 3) rfl rfl htt Tryz.underlying50 rfl aK) rfl ?_;exact ⟨⟨false,false,none,none,0,0,0,0,false,false,none,none,0,0,0,0,false,false,none,none,0,0,0,0,false,false,none,none,0,0,0,0,false,false,none,none,0,0,0,0,false,false,none,none,0,0,0,0,by rw [show o=3 from HC.out],fun h=>absurd h HNZ.out⟩,hF⟩
      ·have hfl:outB L b k=false:=by rw [HOB.out,decide_eq_false hvl,decide_eq_false hvh]; rfl
       have HFL:=Zh hfl;clear hfl;have hAw:Below wr.heap.size wr (wr.alloc (.cells #[.int .i64 px,.int .i64 py,.int .i64 pz,.int .i64 nx,.int .i64 ny,.int .i64 nz,.int .i64 lo,.int .i64 hi] 69)):=aBel;have hwA:=hw.trans (hAw.mono hw.size);have oNA:=oN.below hAw;have oL:Own (wr.alloc (.cells #[.int .i64 px,.int .i64 py,.int .i64 pz,.int .i64 nx,.int .i64 ny,.int .i64 nz,.int .i64 lo,.int .i64 hi] 69)) wr.heap.size #[.int .i64 px,.int .i64 py,.int .i64 pz,.int .i64 nx,.int .i64 ny,.int .i64 nz,.int .i64 lo,.int .i64 hi]:=Own.new rfl;have evA:=((Zc (w:=wr) (a:=⟨bb,offb+k,none⟩) (hAw.block bb (Zl hltb hws)))).trans ev;go_upto_region 9 with fail
       clear hAw e0 e1 e2 e3 e4 e5 e6 e7 ev oN hw;generalize (wr.alloc (.cells #[.int .i64 px,.int .i64 py,.int .i64 pz,.int .i64 nx,.int .i64 ny,.int .i64 nz,.int .i64 lo,.int .i64 hi] 69))=W5 at *;obtain ⟨B5,hB5⟩:=Zx (wr.heap.size);rw [hB5] at oL ⊢;clear hB5;refine region_late 16 [] aK aK (by rfl) ?_;apply Zs;refine ⟨fun v hv hne=>?_,fun u hu=>?_⟩
       ·simp only [TK];have dL:=fun y=>(oL.later (v:=v) (T:=[]) aS y).cell
        have dv:=later_cell (T:=[]) (v:=v) (Zl hltb hwA.size) aS evA;exact qz
       simp only [TK];have hw9:=hwA.trans (hu.mono hwA.size);have oN9:=oNA.below hu;clear hu hwA oNA oL evA;refine late_nil ?_
       (try simp only [LN])
       go_wp2;go_roundw
       case rel=>exact ⟨k+1,aO,by go_num,hw9,oN9,by rw [anyF,HA.out,HFL.out]; rfl⟩
       case measure=>simp [intOf]; omega
    ·obtain rfl:k=6:=aO
     have hC:o=0:=by
      rw [<- HO.out]; unfold motC; rw [if_pos HE.out,if_pos HLB.out,if_neg (by rw [HA.out]; decide)]
     subst hC;have hsol:=mot_solve HO.out;go_wp2_with fail;refine Zd (plc_rows c (H.out.below hw) aO) ?_;rintro e w2 ⟨⟨v,rfl,hv⟩,hb2⟩;have hw2:=hw.trans (hb2.mono hw.size);have o2:=oN.below hb2;obtain ⟨g,c9,rfl,_,_,hR⟩:=hv.rows (n:=6) (by rw [locM_len]; exact HL.out) aO;have q2:=matrix_Solve c9 cb hR (HB.out.below hw2) (HFS.out HO.out);rw [hsol] at q2;have Q2:=Zh q2;clear hb2 hw hv hR q2 hsol oN;go_wp2_with fail;refine Zd Q2.out ?_;rintro e w3 ⟨⟨v,rfl,hv⟩,hb3⟩;have hw3:=hw2.trans (hb3.mono hw2.size);have o3:=o2.below hb3;have hNl2:=o2.lt;clear hb3 hw2 Q2 o2;rcases hv with ⟨h1,_⟩ | ⟨_,bk,rfl,hbk,hRO⟩
     ·exact absurd rfl h1
     obtain ⟨s0,t0,A0,E0,n0,c0,m0,d0,s1,t1,A1,E1,n1,c1,m1,d1,s2,t2,A2,E2,n2,c2,m2,d2,s3,t3,A3,E3,n3,c3,m3,d3,s4,t4,A4,E4,n4,c4,m4,d4,s5,t5,A5,E5,n5,c5,m5,d5,oR,r0,r1,r2,r3,r4,r5⟩:=rats_six hRO;have hne:B0≠bk:=aO
     have hat1:∀ w,(Instr.arrayAt 48 (.slice (some ⟨bk,0,none⟩) 3 6)).run Tryz.prog w = .ok (.pointer (some ⟨bk,0,none⟩)) w:=fun w=>run_arrayAt w 48 _ 3 _ 3 6 Tryz.underlying48 aO
     have hat2:∀ w,(Instr.arrayAt 48 (.slice (some ⟨bk,12,none⟩) 3 3)).run Tryz.prog w = .ok (.pointer (some ⟨bk,12,none⟩)) w:=fun w=>run_arrayAt w 48 _ 3 _ 3 3 Tryz.underlying48 aO
     have HRR:=Zh (Zi r0 (Zi r1 (Zi r2 (Zi r3 (Zi r4 r5)))));clear hRO r0 r1 r2 r3 r4 r5;go_upto_region 15 with fail
     refine region_late 9 [B0] aK aK (by rfl) ?_;apply Zs;refine ⟨fun v hv hne=>?_,fun u hu=>?_⟩
     ·simp only [TK];have dR:=fun y=>(oR.later (v:=v) (T:=[B0]) aT y).cell
      exact qz
     simp only [TK];have p9:=o3.below hu;have hu9:=hw3.trans (hu.mono hw3.size);have hbb:=HB0.out;refine late_mem (fun K hK=>?_)
     (try simp only [LN])
     refine late_store 50 _ _ rfl B0 #[.bool s0,.slice A0 n0 c0,.bool t0,.slice E0 m0 d0,.bool s1,.slice A1 n1 c1,.bool t1,.slice E1 m1 d1,.bool s2,.slice A2 n2 c2,.bool t2,.slice E2 m2 d2,.bool s3,.slice A3 n3 c3,.bool t3,.slice E3 m3 d3,.bool s4,.slice A4 n4 c4,.bool t4,.slice E4 m4 d4,.bool s5,.slice A5 n5 c5,.bool t5,.slice E5 m5 d5] nz12 rfl rfl p9 rfl aK aK (fun wf hwf q3=>?_);have hF:Below w.heap.size w wf:=by rw [hwf]; exact below_setAll aO _ _ _ hu9
     have hkF:Keeps [B0] w3 wf:=by rw [hwf]; exact keeps_setAll aS _ _ _ (Keeps.of_below hu)
     refine hK _ _ hkF (fun u2 hu2=>?_);clear hK K hwf p9 hu9;refine late_mem (fun K hK=>?_);go_simp;refine hK _ _ (hkF.later hu2) (fun u3 hu3=>?_);clear hK K;have hk3:=(hkF.later hu2).later hu3;have q5:=(q3.below hu2).below hu3;have hF2:=hF.trans (hu2.mono hF.size);have hF5:=hF2.trans (hu3.mono hF2.size);have MV:∀ v p q,RatAt w3 v p q->RatAt u3 v p q:=fun v p q h=>ratAt_keepU h hk3 (fun b hb=>by simp at hb; subst hb; exact ⟨_,o3,noU_24⟩)
     have T0:=Zh (MV _ _ _ HRR.out.1.at_);have T1:=Zh (MV _ _ _ HRR.out.2.1.at_);have T2:=Zh (MV _ _ _ HRR.out.2.2.1.at_);have T3:=Zh (MV _ _ _ HRR.out.2.2.2.1.at_);have T4:=Zh (MV _ _ _ HRR.out.2.2.2.2.1.at_);have T5:=Zh (MV _ _ _ HRR.out.2.2.2.2.2.at_);clear MV HRR hk3 hF2 hF hkF hu hu2 hu3 o3 oR q3;refine late_nil ?_
     (try simp only [LN])
     go_wp2;obtain ⟨tt,htt⟩:=q5;refine bodyPost_ret (results_row_tmp Tryz.results25 _ u3 B0 tt #[.bool s0,.slice A0 n0 c0,.bool t0,.slice E0 m0 d0,.bool s1,.slice A1 n1 c1,.bool t1,.slice E1 m1 d1,.bool s2,.slice A2 n2 c2,.bool t2,.slice E2 m2 d2,.bool s3,.slice A3 n3 c3,.bool t3,.slice E3 m3 d3,.bool s4,.slice A4 n4 c4,.bool t4,.slice E4 m4 d4,.bool s5,.slice A5 n5 c5,.bool t5,.slice E5 m5 d5] (0,0) _ (.int .i64 0) rfl rfl htt Tryz.underlying50 rfl aK) rfl ?_;exact ⟨⟨s0,t0,A0,E0,n0,c0,m0,d0,s1,t1,A1,E1,n1,c1,m1,d1,s2,t2,A2,E2,n2,c2,m2,d2,s3,t3,A3,E3,n3,c3,m3,d3,s4,t4,A4,E4,n4,c4,m4,d4,s5,t5,A5,E5,n5,c5,m5,d5,rfl,fun _=>⟨T0.out,T1.out,T2.out,T3.out,T4.out,T5.out⟩⟩,hF5⟩
  ·have h6i:((nb:Int)==6)=false:=aT
   have hC:o=4:=by
    rw [<- HO.out]; unfold motC; rw [if_pos HE.out,if_neg (by rw [HLB.out]; exact h6)]
   have HC:=Zh hC;have HNZ:=Zh (show ¬ o=0 by omega);clear hC;go_upto_region 5 with fail
   refine region_flat 0 aK ?_;apply Zs;refine ⟨fun v hv hne=>?_,fun u hu=>?_⟩
   ·simp only [List.take_zero];refine wpQuiet_nil ?_;exact rfl
   simp only [List.drop_zero];have p9:=oN.below hu;have hu9:=hw1.trans (hu.mono hw1.size);have hbb:=HB0.out;clear hu;refine fl ?_;refine flat_mem (by rfl) (fun K hK=>?_)
   (try simp only [LN])
   refine late_store 50 _ _ rfl B0 nz12 nz12 rfl rfl p9 rfl aK aK (fun wf hwf q3=>?_);refine hK _ _ ?_;clear hK K;have hF:Below w.heap.size w wf:=by rw [hwf]; exact below_setAll aO _ _ _ hu9
   clear hwf p9 hu9;refine fl ?_;refine flat_nil ?_
   (try simp only [LN])
   go_wp2;obtain ⟨tt,htt⟩:=q3;refine bodyPost_ret (results_row_tmp Tryz.results25 _ wf B0 tt nz12 (0,0) _ (.int .i64 4) rfl rfl htt Tryz.underlying50 rfl aK) rfl ?_;exact ⟨⟨false,false,none,none,0,0,0,0,false,false,none,none,0,0,0,0,false,false,none,none,0,0,0,0,false,false,none,none,0,0,0,0,false,false,none,none,0,0,0,0,false,false,none,none,0,0,0,0,by rw [show o=4 from HC.out],fun h=>absurd h HNZ.out⟩,hF⟩
 ·have he2:(e1==0)=false:=by simpa using he
  have hC:o=e1:=by
   rw [<- HO.out]; unfold motC; rw [HE.out,if_neg he]
  have HC:=Zh hC;have HNZ:=Zh (show ¬ o=0 by omega);clear hC;go_upto_region 3 with fail
  refine region_flat 0 aK ?_;apply Zs;refine ⟨fun v hv hne=>?_,fun u hu=>?_⟩
  ·simp only [List.take_zero];refine wpQuiet_nil ?_;exact rfl
  simp only [List.drop_zero];have p9:=oN.below hu;have hu9:=hw1.trans (hu.mono hw1.size);have hbb:=HB0.out;clear hu;refine fl ?_;refine fl ?_;refine flat_mem (by rfl) (fun K hK=>?_)
  (try simp only [LN])
  refine late_store 50 _ _ rfl B0 nz12 nz12 rfl rfl p9 rfl aK aK (fun wf hwf q3=>?_);refine hK _ _ ?_;clear hK K;have hF:Below w.heap.size w wf:=by rw [hwf]; exact below_setAll aO _ _ _ hu9
  clear hwf p9 hu9;refine fl ?_;refine flat_nil ?_
  (try simp only [LN])
  go_wp2;obtain ⟨tt,htt⟩:=q3;refine bodyPost_ret (results_row_tmp Tryz.results25 _ wf B0 tt nz12 (0,0) _ (.int .i64 e1) rfl rfl htt Tryz.underlying50 rfl aK) rfl ?_;exact ⟨⟨false,false,none,none,0,0,0,0,false,false,none,none,0,0,0,0,false,false,none,none,0,0,0,0,false,false,none,none,0,0,0,0,false,false,none,none,0,0,0,0,false,false,none,none,0,0,0,0,by rw [show o=e1 from HC.out],fun h=>absurd h HNZ.out⟩,hF⟩
theorem law20_vec (x y z:Int) (w:World) :
 Calls Tryz.prog 34 #[.int .i64 x,.int .i64 y,.int .i64 z] w fun e w'=>e = .returned (vV x y z)/\Below w.heap.size w w':=by
 go_enter Tryz.func34,Tryz.ntmps34;go_wp2;refine retC (b:=w.heap.size) (v:=vV x y z) (by repeat' (first | (with_reducible assumption) | ((with_reducible apply Own.new); (focus (first | rfl | omega | (simp; done) | (simp; omega)))) | (with_reducible apply Own.set) | (with_reducible apply Own.alloc) | (with_reducible apply Own.drew) | ((with_reducible apply Own.far); case hp=>(focus (first | rfl | omega | (simp; done) | (simp; omega)))))) (fun w' hw'=>by simp [results,Tryz.results34,go_sem,hw',vV]) rfl ⟨rfl,aBel⟩
def nearV (v:V3):V3:=⟨v.x%17 - 8,v.y%17 - 8,v.z%17 - 8⟩
theorem near_in (v:V3):(-8<=(nearV v).x/\(nearV v).x<=8)/\(-8<=(nearV v).y/\(nearV v).y<=8) /\ -8<=(nearV v).z/\(nearV v).z<=8:=by
 unfold nearV;simp only [];omega
theorem law20_near (x y z:Int) (w:World) :
 Calls Tryz.prog 28 #[vV x y z] w fun e w'=>e = .returned (vV (x%17 - 8) (y%17 - 8) (z%17 - 8))/\Below w.heap.size w w':=by
 obtain ⟨p,hp⟩:=Zx (x%17);obtain ⟨q,hq⟩:=Zx (y%17);obtain ⟨r,hr⟩:=Zx (z%17);have hp1:0<=p/\p<17:=aO
 have hq1:0<=q/\q<17:=aO
 have hr1:0<=r/\r<17:=aO
 obtain ⟨a,ha⟩:=Zx (p - 8);obtain ⟨b,hb⟩:=Zx (q - 8);obtain ⟨c,hc⟩:=Zx (r - 8);have hM:=fun (v:Int) (W:World)=>ref1_Mod v 17 aO aO W
 have hMx:=fun W=>hM x W
 have hMy:=fun W=>hM y W
 have hMz:=fun W=>hM z W
 rw [hp] at hMx ⊢;rw [hq] at hMy ⊢;rw [hr] at hMz ⊢;rw [ha,hb,hc];have HX:=Zh hMx;have HY:=Zh hMy;have HZ:=Zh hMz;clear hp hq hr hM hMx hMy hMz;have hW:Below w.heap.size w ((w.alloc (.cells #[.int .i64 x,.int .i64 y,.int .i64 z] 44)).alloc (.cells nv3 44)):=aBel;have o1:Own ((w.alloc (.cells #[.int .i64 x,.int .i64 y,.int .i64 z] 44)).alloc (.cells nv3 44)) w.heap.size #[.int .i64 x,.int .i64 y,.int .i64 z]:=aOwn;have o2:Own ((w.alloc (.cells #[.int .i64 x,.int .i64 y,.int .i64 z] 44)).alloc (.cells nv3 44)) (w.heap.size+1) nv3:=aOwn;go_enter Tryz.func28,Tryz.ntmps28;go_wp2;generalize ((w.alloc (.cells #[.int .i64 x,.int .i64 y,.int .i64 z] 44)).alloc (.cells nv3 44))=W at *;obtain ⟨B0,hB0⟩:=Zx (w.heap.size);rw [hB0] at o1 o2 ⊢;have HB0:=Zh hB0;clear hB0;refine region_late 13 [B0+1] aK aK (by rfl) ?_;apply Zs;refine ⟨fun v hv hne=>?_,fun u hu=>?_⟩
 ·simp only [TK];have d1:=fun t=>(o1.later (v:=v) (T:=[B0+1]) aS t).cell
  repeat (go_big_quiet_step ((first | (go_at_call 59; with_reducible exact lateS (HX.out _)) | (go_at_call 59; with_reducible exact lateS (HY.out _)) | (go_at_call 59; with_reducible exact lateS (HZ.out _)) | (go_at_call 34; with_reducible exact lateB (law20_vec _ _ _ _)))))
  refine wpQuiet_nil ?_;exact rfl
 simp only [TK];have p2:=o2.below hu;have hwu:=hW.trans (hu.mono hW.size);have hbb:=HB0.out;have p2c:=p2.cell;have p2f:=p2.thaw;refine late_mem (fun K hK=>?_);go_simp;refine hK _ _ ((((Keeps.of_below (T:=[B0+1]) hu).set aS _).set aS _).set aS _) (fun u2 hu2=>?_);clear hK K;have hF:Below w.heap.size w u2:=(((hwu.setCell aT _).setCell aT _).setCell aT _).trans (hu2.mono (by simp [World.setCell]; exact hwu.size));have q2:Own u2 (B0+1) #[.int .i64 a,.int .i64 b,.int .i64 c]:=(((p2.set 0 _).set 1 _).set 2 _).below hu2;clear hu hu2 p2 p2c p2f hwu o1 o2;refine late_nil ?_
 (try simp only [LN])
 go_wp2;exact retC (b:=B0+1) (v:=vV a b c) q2 (fun w' hw'=>by simp [results,Tryz.results28,go_sem,hw',vV]) rfl ⟨rfl,hF⟩
theorem ex_take {k:Nat} (hk:k<6):exL.take (k+1)=exL.take k++[lAt exL k]:=by
 rcases (show k=0\/k=1\/k=2\/k=3\/k=4\/k=5 by omega) with rfl | rfl | rfl | rfl | rfl | rfl <;> rfl
theorem law20_example (w:World):Calls Tryz.prog 73 #[] w fun e w'=>(∃ g c,e = .returned (.slice (some ⟨g,0,none⟩) 6 c)/\w'.ownsRow w.heap.size 69 8 (.slice (some ⟨g,0,none⟩) 6 c) 6 (encLs exL))/\Below w.heap.size w w':=by
 obtain ⟨i0,hi0,hy0,hy1,hy2⟩:=info_parts infoLoc;have hw:=Zb w.heap.size w;go_enter Tryz.func73,Tryz.ntmps73;go_wp2_with (go_at_call 34; refine Zd (law20_vec _ _ _ _) ?_; rintro e wx ⟨rfl,hbx⟩; replace hw:=hw.trans (hbx.mono hw.size); clear hbx);have hT0:Own (wx.alloc (.cells #[.int .i64 0,.int .i64 0,.int .i64 0,.int .i64 0,.int .i64 0,.int .i64 1,.int .i64 4,.int .i64 0,.int .i64 0,.int .i64 0,.int .i64 0,.int .i64 1,.int .i64 0,.int .i64 4,.int .i64 0,.int .i64 0,.int .i64 0,.int .i64 1,.int .i64 0,.int .i64 0,.int .i64 0,.int .i64 0,.int .i64 1,.int .i64 0,.int .i64 4,.int .i64 0,.int .i64 0,.int .i64 0,.int .i64 1,.int .i64 0,.int .i64 0,.int .i64 0,.int .i64 0,.int .i64 1,.int .i64 0,.int .i64 0] 60)) wx.heap.size #[.int .i64 0,.int .i64 0,.int .i64 0,.int .i64 0,.int .i64 0,.int .i64 1,.int .i64 4,.int .i64 0,.int .i64 0,.int .i64 0,.int .i64 0,.int .i64 1,.int .i64 0,.int .i64 4,.int .i64 0,.int .i64 0,.int .i64 0,.int .i64 1,.int .i64 0,.int .i64 0,.int .i64 0,.int .i64 0,.int .i64 1,.int .i64 0,.int .i64 4,.int .i64 0,.int .i64 0,.int .i64 0,.int .i64 1,.int .i64 0,.int .i64 0,.int .i64 0,.int .i64 0,.int .i64 1,.int .i64 0,.int .i64 0]:=Own.new rfl;have hw2:Below w.heap.size w (wx.alloc (.cells #[.int .i64 0,.int .i64 0,.int .i64 0,.int .i64 0,.int .i64 0,.int .i64 1,.int .i64 4,.int .i64 0,.int .i64 0,.int .i64 0,.int .i64 0,.int .i64 1,.int .i64 0,.int .i64 4,.int .i64 0,.int .i64 0,.int .i64 0,.int .i64 1,.int .i64 0,.int .i64 0,.int .i64 0,.int .i64 0,.int .i64 1,.int .i64 0,.int .i64 4,.int .i64 0,.int .i64 0,.int .i64 0,.int .i64 1,.int .i64 0,.int .i64 0,.int .i64 0,.int .i64 0,.int .i64 1,.int .i64 0,.int .i64 0] 60)):=hw.alloc hw.size _;have hzT:wx.heap.size+1<=(wx.alloc (.cells #[.int .i64 0,.int .i64 0,.int .i64 0,.int .i64 0,.int .i64 0,.int .i64 1,.int .i64 4,.int .i64 0,.int .i64 0,.int .i64 0,.int .i64 0,.int .i64 1,.int .i64 0,.int .i64 4,.int .i64 0,.int .i64 0,.int .i64 0,.int .i64 1,.int .i64 0,.int .i64 0,.int .i64 0,.int .i64 0,.int .i64 1,.int .i64 0,.int .i64 4,.int .i64 0,.int .i64 0,.int .i64 0,.int .i64 1,.int .i64 0,.int .i64 0,.int .i64 0,.int .i64 0,.int .i64 1,.int .i64 0,.int .i64 0] 60)).heap.size:=aS
 have hwx:=hw.size;clear hw;generalize (wx.alloc (.cells #[.int .i64 0,.int .i64 0,.int .i64 0,.int .i64 0,.int .i64 0,.int .i64 1,.int .i64 4,.int .i64 0,.int .i64 0,.int .i64 0,.int .i64 0,.int .i64 1,.int .i64 0,.int .i64 4,.int .i64 0,.int .i64 0,.int .i64 0,.int .i64 1,.int .i64 0,.int .i64 0,.int .i64 0,.int .i64 0,.int .i64 1,.int .i64 0,.int .i64 4,.int .i64 0,.int .i64 0,.int .i64 0,.int .i64 1,.int .i64 0,.int .i64 0,.int .i64 0,.int .i64 0,.int .i64 1,.int .i64 0,.int .i64 0] 60))=WT at *;obtain ⟨bT,hbT⟩:=Zx (wx.heap.size);rw [hbT] at hT0 hzT hwx ⊢;clear hbT;go_loopw [1,24] (fun v i wr=>∃ k:Nat,k<=6/\i = .int .i64 k/\Below w.heap.size w wr/\bT+1<=wr.heap.size/\Own wr bT #[.int .i64 0,.int .i64 0,.int .i64 0,.int .i64 0,.int .i64 0,.int .i64 1,.int .i64 4,.int .i64 0,.int .i64 0,.int .i64 0,.int .i64 0,.int .i64 1,.int .i64 0,.int .i64 4,.int .i64 0,.int .i64 0,.int .i64 0,.int .i64 1,.int .i64 0,.int .i64 0,.int .i64 0,.int .i64 0,.int .i64 1,.int .i64 0,.int .i64 4,.int .i64 0,.int .i64 0,.int .i64 0,.int .i64 1,.int .i64 0,.int .i64 0,.int .i64 0,.int .i64 0,.int .i64 1,.int .i64 0,.int .i64 0]/\wr.ownsRow (bT+1) 69 8 v k (encLs (exL.take k))) (fun _ i _=>6 - (intOf i).toNat)
 case atStart=>exact ⟨0,aO,rfl,hw2,hzT,hT0,⟨rfl,.inl ⟨rfl,rfl⟩⟩⟩
 case round =>
  clear hw2 hT0 hzT;obtain ⟨k,hk,rfl,hw,hz,hT,hrow⟩:=hrel;have HO:=Zh hrow;have hws:=hw.size;clear hrow
  by_cases hk6:k<6
  ·have hki:(k:Int)<6:=aO
   obtain ⟨px,py,pz,nx,ny,nz,hlk,t0,t1,t2,t3,t4,t5⟩:∃ px py pz nx ny nz:Int,lAt exL k=⟨⟨px,py,pz⟩,⟨nx,ny,nz⟩,-100,100⟩/\wr.cell? ⟨bT,k*6,none⟩=some (.int .i64 px)/\wr.cell? ⟨bT,k*6+1,none⟩=some (.int .i64 py)/\wr.cell? ⟨bT,k*6+2,none⟩=some (.int .i64 pz)/\wr.cell? ⟨bT,k*6+3,none⟩=some (.int .i64 nx)/\wr.cell? ⟨bT,k*6+4,none⟩=some (.int .i64 ny)/\wr.cell? ⟨bT,k*6+5,none⟩=some (.int .i64 nz):=by
    rcases (show k=0\/k=1\/k=2\/k=3\/k=4\/k=5 by omega) with rfl | rfl | rfl | rfl | rfl | rfl
    ·exact ⟨0,0,0,0,0,1,rfl,hT.cell 0,hT.cell 1,hT.cell 2,hT.cell 3,hT.cell 4,hT.cell 5⟩
    ·exact ⟨4,0,0,0,0,1,rfl,hT.cell 6,hT.cell 7,hT.cell 8,hT.cell 9,hT.cell 10,hT.cell 11⟩
    ·exact ⟨0,4,0,0,0,1,rfl,hT.cell 12,hT.cell 13,hT.cell 14,hT.cell 15,hT.cell 16,hT.cell 17⟩
    ·exact ⟨0,0,0,0,1,0,rfl,hT.cell 18,hT.cell 19,hT.cell 20,hT.cell 21,hT.cell 22,hT.cell 23⟩
    ·exact ⟨4,0,0,0,1,0,rfl,hT.cell 24,hT.cell 25,hT.cell 26,hT.cell 27,hT.cell 28,hT.cell 29⟩
    ·exact ⟨0,0,0,1,0,0,rfl,hT.cell 30,hT.cell 31,hT.cell 32,hT.cell 33,hT.cell 34,hT.cell 35⟩
   have HLK:=Zh hlk;have HT:=Zh hT;have ob:=fun b hb=>Zi (ownBlock_ge HO.out (g:=b) hb) (ownBlock_lt HO.out (b:=b) hb)
   have HOB:=Zh ob;clear hlk hT ob;have oA:Own (wr.alloc (.cells #[.int .i64 px,.int .i64 py,.int .i64 pz,.int .i64 nx,.int .i64 ny,.int .i64 nz] 60)) wr.heap.size #[.int .i64 px,.int .i64 py,.int .i64 pz,.int .i64 nx,.int .i64 ny,.int .i64 nz]:=Own.new rfl;have oAc:=oA.cell;go_wp2_with (at_builtin; refine wpList_append_lies _ rfl _ _ _ (by rfl) (bT+1) 69 i0 (.agg nv8) 8 64 Tryz.underlying27 hi0 hy0 hy1 hy2 rfl aO _ k (encLs (exL.take k)) (by rfl) ((HO.out.alloc _).alloc _) ⟨wr.heap.size+1,0,none⟩ 1 1 (encL ⟨⟨px,py,pz⟩,⟨nx,ny,nz⟩,-100,100⟩) (by rfl) rfl ?c1 ?c2 aO ?c3 ?c4 ?c5 (wr.heap.size+1+1) aS ?_)
   case c1 =>
    exact fun _ _ h=>h
   case c2=>intro y hy; simp [encL] at hy; rcases hy with rfl | rfl | rfl | rfl | rfl | rfl | rfl | rfl <;> rfl
   case c3=>unfold maxLen; omega
   case c4=>omega
   case c5=>omega
   intro g2 c9 u3 ho3 hg3 hat3 hlt3;have hal:Below wr.heap.size wr ((wr.alloc (.cells #[.int .i64 px,.int .i64 py,.int .i64 pz,.int .i64 nx,.int .i64 ny,.int .i64 nz] 60)).alloc (.cells #[.int .i64 px,.int .i64 py,.int .i64 pz,.int .i64 nx,.int .i64 ny,.int .i64 nz,.int .i64 (-100),.int .i64 100] 69)):=aBel;have hs3:=hg3.size;rw [World.size_alloc,World.size_alloc] at hs3;have hw3:=Below.grown (hw.trans (hal.mono hw.size)) hg3 aT (fun b hb=>by have:=(HOB.out b hb).1; omega);have hT3:Own u3 bT #[.int .i64 0,.int .i64 0,.int .i64 0,.int .i64 0,.int .i64 0,.int .i64 1,.int .i64 4,.int .i64 0,.int .i64 0,.int .i64 0,.int .i64 0,.int .i64 1,.int .i64 0,.int .i64 4,.int .i64 0,.int .i64 0,.int .i64 0,.int .i64 1,.int .i64 0,.int .i64 0,.int .i64 0,.int .i64 0,.int .i64 1,.int .i64 0,.int .i64 4,.int .i64 0,.int .i64 0,.int .i64 0,.int .i64 1,.int .i64 0,.int .i64 0,.int .i64 0,.int .i64 0,.int .i64 1,.int .i64 0,.int .i64 0]:=(HT.out.below hal).of_block (hg3.block bT (HT.out.below hal).lt (fun e=>by have:=(HOB.out bT e.symm).1; omega));rw [encLs_snoc,<- HLK.out,<- ex_take hk6] at ho3;have HO3:=Zh ho3;clear ho3 hg3 hat3 hlt3 hal oA oAc;go_wp2;go_roundw
   case rel=>exact ⟨k+1,aO,by go_num,hw3,aO,hT3,HO3.out⟩
   case measure=>simp [intOf]; omega
  ·obtain rfl:k=6:=aO
   have hr:=HO.out;have hr2:wr.ownsRow w.heap.size 69 8 _ 6 (encLs exL):=ownsRow_base hr aO;obtain ⟨g,cp,rfl⟩:∃ g c,_=Value.slice (some ⟨g,0,none⟩) 6 c:=by
    rcases hr2.2 with ⟨_,h0⟩ | ⟨g,cap,_,e,_⟩
    ·omega
    ·exact ⟨g,cap,e⟩
   have HR:=Zh hr2;clear HO hr hr2 hT;go_wp2;go_ret;exact ⟨⟨g,cp,rfl,HR.out⟩,hw⟩
end Go.Proofs.YtflolbnnkbdmfaaGreat
