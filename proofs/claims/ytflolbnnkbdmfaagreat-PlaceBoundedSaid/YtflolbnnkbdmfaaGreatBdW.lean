import Derived.Test.YtflolbnnkbdmfaaGreatBdM
set_option linter.all false
namespace Go.Proofs.YtflolbnnkbdmfaaGreat
open Go.RowKit
set_option maxHeartbeats 8000000
set_option maxRecDepth 100000
theorem endL_take {P:List Loc} {e:Int} {k:Nat} (hk:k<6):(endL P e).take (k+1)=(endL P e).take k++[endI P e k]:=by
 unfold endL;rw [List.take_succ_eq_append_getElem (by simpa using hk),List.getElem_map,List.getElem_range]
theorem end_step {P:List Loc} {e:Int} {k:Nat} {y:Int} (h:endI P e k=y) (F:Nat->Int):(fun i=>if i=k then y else if i<k then endI P e i else F i)=fun i=>if i<k+1 then endI P e i else F i:=by
 funext i
 by_cases e1:i=k
 ·subst e1; rw [if_pos rfl,if_pos aO,h]
 ·rw [if_neg e1]
  by_cases e2:i<k
  ·rw [if_pos e2,if_pos aO]
  ·rw [if_neg e2,if_neg aO]
theorem Upd.hopB {T:List Nat} {a b c:World} (h:Upd T a b) (k:Below a.heap.size b c):Upd T a c:=
 ⟨k.os.trans h.os,k.tape.trans h.tape,k.output.trans h.output,Zm h.size k.size,fun x hx hT=>(k.block x hx).trans (h.block x hx hT)⟩
theorem law20_bounded {w:World} {A A2:Option Addr} {n n2:Nat} {l l2:List Int} (cap cap2:Nat) (hl:SliceI w A n l) (hl2:SliceI w A2 n2 l2) (ax ay az bx by' bz vx vy vz e0:Int) (he:0<=e0/\e0<=255) :
 Calls Tryz.prog 6 #[.slice A n cap,.agg #[.int .i64 ax,.int .i64 ay,.int .i64 az,.int .i64 bx,.int .i64 by',.int .i64 bz],.slice A2 n2 cap2,.agg #[.int .i64 vx,.int .i64 vy,.int .i64 vz],.int .u8 e0] w fun e w'=>e = .returned (.bool true)/\Below w.heap.size w w':=by
 obtain ⟨⟨lx,ly,lz⟩,hlo⟩:=Zx (cornLo ⟨ax,ay,az⟩ ⟨bx,by',bz⟩);obtain ⟨⟨rx,ry,rz⟩,hhi⟩:=Zx (cornHi ⟨ax,ay,az⟩ ⟨bx,by',bz⟩);have hC:=fun W=>law20_corners ax ay az bx by' bz W
 have hin:=corn_in ⟨ax,ay,az⟩ ⟨bx,by',bz⟩;rw [hlo,hhi] at hC hin;have HC:=Zh hC;clear hC;obtain ⟨⟨cx,cy,cz⟩,hcl⟩:=Zx (clampV ⟨lx,ly,lz⟩ ⟨rx,ry,rz⟩ ⟨vx,vy,vz⟩);have hcb:=clamp_in ⟨ax,ay,az⟩ ⟨bx,by',bz⟩ ⟨vx,vy,vz⟩;have hcv:=clamp_vIn ⟨ax,ay,az⟩ ⟨bx,by',bz⟩ ⟨vx,vy,vz⟩;rw [hlo,hhi,hcl] at hcb hcv;have HBX:=Zh (Zi hin (Zi hcb hcv));have hN:=fun W=>law20_near vx vy vz W
 obtain ⟨nx,hnx⟩:=Zx (vx%17 - 8);obtain ⟨ny,hny⟩:=Zx (vy%17 - 8);obtain ⟨nz,hnz⟩:=Zx (vz%17 - 8);rw [hnx,hny,hnz] at hN;replace hN:∀ W:World,Calls Tryz.prog 28 #[vV vx vy vz] W fun e w'=>e = .returned (.agg #[.int .i64 nx,.int .i64 ny,.int .i64 nz])/\Below W.heap.size W w':=hN
 have HN:=Zh hN;simp only [clampV,nearV,hnx,hny,hnz,V3.mk.injEq] at hcl;obtain ⟨hcx,hcy,hcz⟩:=hcl;clear hN hnx hny hnz hin hcb hcv hlo hhi;have HS:=Zh hl;have HS2:=Zh hl2;clear hl hl2;obtain ⟨P,hPm⟩:=Zx (madeL l);have hPC:locC P=0:=by rw [<- hPm]; exact made_C l
 have HP:=Zh hPm;have HPC:=Zh hPC;clear hPm hPC;obtain ⟨i0,hi0,hy0,hy1,hy2⟩:=info_parts infoLoc;obtain ⟨iI,hiI,hI0,hI1,hI2⟩:=info_parts infoI;go_enter Tryz.func6,Tryz.ntmps6;go_wp2_with fail;refine Zd (law20_sanity _) ?_;rintro e w1 ⟨rfl,hbx⟩;have o6:Own w1 (w.heap.size) #[.int .i64 ax,.int .i64 ay,.int .i64 az,.int .i64 bx,.int .i64 by',.int .i64 bz]:=Own.below aOwn hbx;have o6c:=o6.cell;have o6f:=o6.thaw;have o6z:=o6.lt;have o8:Own w1 (w.heap.size+1) #[.int .i64 vx,.int .i64 vy,.int .i64 vz]:=Own.below aOwn hbx;have o8c:=o8.cell;have o8f:=o8.thaw;have o8z:=o8.lt;have hw:Below w.heap.size w w1:=Below.hop aBel hbx;have hz:=hw.size;clear hbx;go_wp2_with fail;refine Zd (ref20_Made A n cap l _ (HS.out.below hw)) ?_;rintro e w2 ⟨⟨g,c,rfl,hgc,hcm,hPA,hg1,hg2⟩,hbx⟩;rw [HP.out] at hPA;have hgb:w.heap.size+1<g:=aO
 replace o6:Own w2 (w.heap.size) #[.int .i64 ax,.int .i64 ay,.int .i64 az,.int .i64 bx,.int .i64 by',.int .i64 bz]:=Own.below aOwn hbx;replace o6c:=o6.cell;replace o6f:=o6.thaw;replace o6z:=o6.lt;replace o8:Own w2 (w.heap.size+1) #[.int .i64 vx,.int .i64 vy,.int .i64 vz]:=Own.below aOwn hbx;replace o8c:=o8.cell;replace o8f:=o8.thaw;replace o8z:=o8.lt;replace hw:Below w.heap.size w w2:=Below.hop aBel hbx;replace hz:=hw.size;clear hbx;have HPA:=Zh hPA;clear hPA HS;go_wp2_with fail;refine Zd (HC.out _) ?_;rintro e w3 ⟨rfl,hbx⟩;replace o6:Own w3 (w.heap.size) #[.int .i64 ax,.int .i64 ay,.int .i64 az,.int .i64 bx,.int .i64 by',.int .i64 bz]:=Own.below aOwn hbx;replace o6c:=o6.cell;replace o6f:=o6.thaw;replace o6z:=o6.lt;replace o8:Own w3 (w.heap.size+1) #[.int .i64 vx,.int .i64 vy,.int .i64 vz]:=Own.below aOwn hbx;replace o8c:=o8.cell;replace o8f:=o8.thaw;replace o8z:=o8.lt;replace hw:Below w.heap.size w w3:=Below.hop aBel hbx;replace hz:=hw.size;replace HPA:=Zh (HPA.out.below hbx);clear hbx;have h3w:w.heap.size+1<w3.heap.size:=o8z;go_upto_region 4 with fail
 have hA':Below w3.heap.size w3 ((w3.alloc (.cells #[.int .i64 lx,.int .i64 ly,.int .i64 lz] 44)).alloc (.cells #[.int .i64 rx,.int .i64 ry,.int .i64 rz] 44)):=aBel;replace HPA:=Zh (HPA.out.below hA');replace o6:Own ((w3.alloc (.cells #[.int .i64 lx,.int .i64 ly,.int .i64 lz] 44)).alloc (.cells #[.int .i64 rx,.int .i64 ry,.int .i64 rz] 44)) (w.heap.size) #[.int .i64 ax,.int .i64 ay,.int .i64 az,.int .i64 bx,.int .i64 by',.int .i64 bz]:=o6.below hA';clear o6c o6f o6z;replace o8:Own ((w3.alloc (.cells #[.int .i64 lx,.int .i64 ly,.int .i64 lz] 44)).alloc (.cells #[.int .i64 rx,.int .i64 ry,.int .i64 rz] 44)) (w.heap.size+1) #[.int .i64 vx,.int .i64 vy,.int .i64 vz]:=o8.below hA';clear o8c o8f o8z;have o13:Own ((w3.alloc (.cells #[.int .i64 lx,.int .i64 ly,.int .i64 lz] 44)).alloc (.cells #[.int .i64 rx,.int .i64 ry,.int .i64 rz] 44)) (w3.heap.size) #[.int .i64 lx,.int .i64 ly,.int .i64 lz]:=aOwn;have o14:Own ((w3.alloc (.cells #[.int .i64 lx,.int .i64 ly,.int .i64 lz] 44)).alloc (.cells #[.int .i64 rx,.int .i64 ry,.int .i64 rz] 44)) (w3.heap.size+1) #[.int .i64 rx,.int .i64 ry,.int .i64 rz]:=aOwn;replace hw:Below w.heap.size w ((w3.alloc (.cells #[.int .i64 lx,.int .i64 ly,.int .i64 lz] 44)).alloc (.cells #[.int .i64 rx,.int .i64 ry,.int .i64 rz] 44)):=hw.trans (hA'.mono hw.size);have hsz':((w3.alloc (.cells #[.int .i64 lx,.int .i64 ly,.int .i64 lz] 44)).alloc (.cells #[.int .i64 rx,.int .i64 ry,.int .i64 rz] 44)).heap.size=w3.heap.size+2:=by simp [World.size_alloc]
 clear hA';generalize (w3.alloc (.cells #[.int .i64 lx,.int .i64 ly,.int .i64 lz] 44)).alloc (.cells #[.int .i64 rx,.int .i64 ry,.int .i64 rz] 44)=W4 at *;have o6c:=o6.cell;have o6f:=o6.thaw;have o6z:=o6.lt;have o8c:=o8.cell;have o8f:=o8.thaw;have o8z:=o8.lt;have o13c:=o13.cell;have o13f:=o13.thaw;have o13z:=o13.lt;have o14c:=o14.cell;have o14f:=o14.thaw;have o14z:=o14.lt;replace hz:=hw.size;obtain ⟨d3,hd3⟩:=Zx (w3.heap.size);rw [hd3] at o13 o14 o13c o14c o13f o14f o13z o14z hsz' ⊢;rw [hd3] at h3w;clear hd3;clear o6c o6f o6z o6;have hfl0:∀ W,(Instr.field 44 (.agg #[.int .i64 nx,.int .i64 ny,.int .i64 nz]) 0).run Tryz.prog W = .ok (.int .i64 nx) W:=fun W=>aK
 have hfl1:∀ W,(Instr.field 44 (.agg #[.int .i64 nx,.int .i64 ny,.int .i64 nz]) 1).run Tryz.prog W = .ok (.int .i64 ny) W:=fun W=>aK
 have hfl2:∀ W,(Instr.field 44 (.agg #[.int .i64 nx,.int .i64 ny,.int .i64 nz]) 2).run Tryz.prog W = .ok (.int .i64 nz) W:=fun W=>aK
 refine region_sink 28 [] aK aK (by rfl) ?_;apply Zs;refine ⟨fun v hv hne=>?_,fun u hu=>?_⟩
 ·simp only [List.take_succ_cons,List.take_zero];have do8:=fun x=>(o8.later (v:=v) (T:=[]) aS x).cell
  have do13:=fun x=>(o13.later (v:=v) (T:=[]) aS x).cell
  have do14:=fun x=>(o14.later (v:=v) (T:=[]) aS x).cell
  repeat (go_big_quiet_step ((first | (go_at_call 28; with_reducible exact lateB (HN.out _)) | (go_at_call 34; with_reducible exact lateB (law20_vec _ _ _ _)))))
  refine wpQuiet_nil ?_;exact rfl
 simp only [List.drop_succ_cons,List.drop_zero];have p8:=o8.below hu;have p8c:=p8.cell;have p8f:=p8.thaw;refine sink_all aK (fun K hK=>?_);go_simp;refine hK _ _ ?_;clear hK K;refine sink_nil ?_
 (try simp only [LN])
 clear p8 p8c p8f;have hU:Upd [w.heap.size+1] W4 (((u.setCell ⟨w.heap.size+1,0,none⟩ (.int .i64 cx)).setCell ⟨w.heap.size+1,1,none⟩ (.int .i64 cy)).setCell ⟨w.heap.size+1,2,none⟩ (.int .i64 cz)):=((((Upd.of_below (T:=[w.heap.size+1]) hu).set aS _).set aS _).set aS _);have hN9:Own (((u.setCell ⟨w.heap.size+1,0,none⟩ (.int .i64 cx)).setCell ⟨w.heap.size+1,1,none⟩ (.int .i64 cy)).setCell ⟨w.heap.size+1,2,none⟩ (.int .i64 cz)) (w.heap.size+1) #[.int .i64 cx,.int .i64 cy,.int .i64 cz]:=(((o8.below hu).set 0 _).set 1 _).set 2 _;clear hu;generalize (((u.setCell ⟨w.heap.size+1,0,none⟩ (.int .i64 cx)).setCell ⟨w.heap.size+1,1,none⟩ (.int .i64 cy)).setCell ⟨w.heap.size+1,2,none⟩ (.int .i64 cz))=W5 at *;replace o8:Own W5 (w.heap.size+1) #[.int .i64 cx,.int .i64 cy,.int .i64 cz]:=hN9;clear o8c o8f o8z;replace o13:=o13.upd hU (by first | (simp; done) | (simp; omega));clear o13c o13f o13z;replace o14:=o14.upd hU (by first | (simp; done) | (simp; omega));clear o14c o14f o14z;replace HPA:=Zh (HPA.out.upd hU (fun b off e=>by cases e; first | (simp; done) | (simp; omega)));replace hw:=Upd.below hw hU (fun b hb=>by simp at hb; omega);have hsz':=hU.size;clear hU;clear hN9;have o8c:=o8.cell;have o8f:=o8.thaw;have o8z:=o8.lt;have o13c:=o13.cell;have o13f:=o13.thaw;have o13z:=o13.lt;have o14c:=o14.cell;have o14f:=o14.thaw;have o14z:=o14.lt;replace hz:=hw.size;clear HN hcx hcy hcz hfl0 hfl1 hfl2;go_upto_region 5 with fail
 obtain ⟨xs,Ns,D,hUZ⟩:=units_all HPC.out;have HUZ:=Zh hUZ;clear hUZ;have hPl:=HPA.out.len;obtain ⟨a0,ha0⟩:=Zx (bestQ xs P 0 (cornersL ⟨lx,ly,lz⟩ ⟨rx,ry,rz⟩));have hp0:=HUZ.out.nonneg P (cornersL ⟨lx,ly,lz⟩ ⟨rx,ry,rz⟩) 0;rw [ha0] at hp0;obtain ⟨a1,ha1⟩:=Zx (bestQ xs P 1 (cornersL ⟨lx,ly,lz⟩ ⟨rx,ry,rz⟩));have hp1:=HUZ.out.nonneg P (cornersL ⟨lx,ly,lz⟩ ⟨rx,ry,rz⟩) 1;rw [ha1] at hp1;obtain ⟨a2,ha2⟩:=Zx (bestQ xs P 2 (cornersL ⟨lx,ly,lz⟩ ⟨rx,ry,rz⟩));have hp2:=HUZ.out.nonneg P (cornersL ⟨lx,ly,lz⟩ ⟨rx,ry,rz⟩) 2;rw [ha2] at hp2;have HAQ:=Zh (Zi ha0 (Zi ha1 ha2));have HAP:=Zh (Zi hp0 (Zi hp1 hp2));clear ha0 ha1 ha2 hp0 hp1 hp2;go_wp2_with fail;refine Zd (callv (plc_Bound (xs:=xs) _ HPA.out HPC.out HBX.out.1.1 HBX.out.1.2.1 HBX.out.1.2.2 HUZ.out.fine (fun v hv=>HUZ.out.corner HPC.out hv)) (by rw [HAQ.out.1,HAQ.out.2.1,HAQ.out.2.2])) ?_;rintro e y1 ⟨rfl,hbx⟩;replace o8:Own y1 (w.heap.size+1) #[.int .i64 cx,.int .i64 cy,.int .i64 cz]:=Own.below aOwn hbx;replace o8c:=o8.cell;replace o8f:=o8.thaw;replace o8z:=o8.lt;replace o13:Own y1 (d3) #[.int .i64 lx,.int .i64 ly,.int .i64 lz]:=Own.below aOwn hbx;replace o13c:=o13.cell;replace o13f:=o13.thaw;replace o13z:=o13.lt;replace o14:Own y1 (d3+1) #[.int .i64 rx,.int .i64 ry,.int .i64 rz]:=Own.below aOwn hbx;replace o14c:=o14.cell;replace o14f:=o14.thaw;replace o14z:=o14.lt;replace hw:Below w.heap.size w y1:=Below.hop aBel hbx;replace hz:=hw.size;replace HPA:=Zh (HPA.out.below hbx);clear hbx;go_upto_region 6 with fail
 have hA':Below y1.heap.size y1 (y1.alloc (.cells #[.int .i64 a0,.int .i64 a1,.int .i64 a2] 44)):=aBel;replace HPA:=Zh (HPA.out.below hA');replace o8:Own (y1.alloc (.cells #[.int .i64 a0,.int .i64 a1,.int .i64 a2] 44)) (w.heap.size+1) #[.int .i64 cx,.int .i64 cy,.int .i64 cz]:=o8.below hA';clear o8c o8f o8z;replace o13:Own (y1.alloc (.cells #[.int .i64 a0,.int .i64 a1,.int .i64 a2] 44)) (d3) #[.int .i64 lx,.int .i64 ly,.int .i64 lz]:=o13.below hA';clear o13c o13f o13z;replace o14:Own (y1.alloc (.cells #[.int .i64 a0,.int .i64 a1,.int .i64 a2] 44)) (d3+1) #[.int .i64 rx,.int .i64 ry,.int .i64 rz]:=o14.below hA';clear o14c o14f o14z;have qa:Own (y1.alloc (.cells #[.int .i64 a0,.int .i64 a1,.int .i64 a2] 44)) (y1.heap.size) #[.int .i64 a0,.int .i64 a1,.int .i64 a2]:=Own.new rfl;replace hw:Below w.heap.size w (y1.alloc (.cells #[.int .i64 a0,.int .i64 a1,.int .i64 a2] 44)):=hw.trans (hA'.mono hw.size);have hsz':(y1.alloc (.cells #[.int .i64 a0,.int .i64 a1,.int .i64 a2] 44)).heap.size=y1.heap.size+1:=by simp [World.size_alloc]
 clear hA';generalize y1.alloc (.cells #[.int .i64 a0,.int .i64 a1,.int .i64 a2] 44)=Y1 at *;have o8c:=o8.cell;have o8f:=o8.thaw;have o8z:=o8.lt;have o13c:=o13.cell;have o13f:=o13.thaw;have o13z:=o13.lt;have o14c:=o14.cell;have o14f:=o14.thaw;have o14z:=o14.lt;have qac:=qa.cell;have qaf:=qa.thaw;have qaz:=qa.lt;replace hz:=hw.size;obtain ⟨ka,hka⟩:=Zx (y1.heap.size);rw [hka] at qa qac qaf qaz hsz' ⊢;clear hka;obtain ⟨m1,hm1⟩:=Zx ((if a1<a0 then a1 else a0));obtain ⟨m2,hm2⟩:=Zx ((if a2<m1 then a2 else m1));have hm0:0<=m2:=by
  obtain ⟨q0,q1,q2⟩:=HAP.out;rw [<- hm2,<- hm1]
  (repeat' split) <;> omega
 have hm3:¬ (m2<0):=aO
 go_upto_region 9 with fail
 clear hm1 hm2 hm0 hm3;have hgz:=HPA.out.lt aO;clear hsz';have zo81:w.heap.size+1<Y1.heap.size:=o8z;have zo131:d3<Y1.heap.size:=o13z;have zo141:d3+1<Y1.heap.size:=o14z;have zqa1:ka<Y1.heap.size:=qaz;have hlit:(Y1.alloc (.cells #[] 69)).ownsRow Y1.heap.size 69 8 (.slice (some ⟨Y1.heap.size,0,none⟩) 0 0) 0 []:=World.ownsRow_lit Y1 #[] 0 (Zr _) (by unfold maxLen; omega) aS;have hlA:Below Y1.heap.size Y1 (Y1.alloc (.cells #[] 69)):=(Zb _ _).alloc (Zr _) _;have hnw:=(HPA.out.below hlA).news;go_wp2_with (at_builtin; refine wpList_append_lies _ rfl _ _ _ (by rfl) Y1.heap.size 69 i0 (.agg nv8) 8 64 Tryz.underlying27 hi0 hy0 hy1 hy2 rfl aO _ 0 [] (by rfl) hlit ⟨g,0,none⟩ 6 c (encLs P) (by rfl) ?c0 hnw ?c2 aO ?c3 ?c4 ?c5 (Y1.heap.size+1) aS ?_)
 case c0=>rw [encLs_len,HPA.out.len]
 case c2=>exact encLs_one P
 case c3=>unfold maxLen; omega
 case c4=>omega
 case c5=>simp
 intro gN cgN Y2 ho3 hg3 hat3 hlt3;have hB3:Below Y1.heap.size Y1 Y2:=Below.grown hlA hg3 aS (fun b hb=>by simp [Value.ownBlock] at hb; omega)
 (try simp only [Nat.zero_add,List.nil_append] at ho3)
 (try simp only [Nat.zero_add])
 have hgNl:=ownBlock_ge ho3 (g:=gN) rfl;have HRN:=Zh ho3;clear ho3 hg3 hat3 hlit hlA hnw;replace o8:Own Y2 (w.heap.size+1) #[.int .i64 cx,.int .i64 cy,.int .i64 cz]:=Own.below aOwn hB3;replace o8c:=o8.cell;replace o8f:=o8.thaw;replace o8z:=o8.lt;replace o13:Own Y2 (d3) #[.int .i64 lx,.int .i64 ly,.int .i64 lz]:=Own.below aOwn hB3;replace o13c:=o13.cell;replace o13f:=o13.thaw;replace o13z:=o13.lt;replace o14:Own Y2 (d3+1) #[.int .i64 rx,.int .i64 ry,.int .i64 rz]:=Own.below aOwn hB3;replace o14c:=o14.cell;replace o14f:=o14.thaw;replace o14z:=o14.lt;replace qa:Own Y2 (ka) #[.int .i64 a0,.int .i64 a1,.int .i64 a2]:=Own.below aOwn hB3;replace qac:=qa.cell;replace qaf:=qa.thaw;replace qaz:=qa.lt;replace hw:Below w.heap.size w Y2:=Below.hop aBel hB3;replace hz:=hw.size;replace HPA:=Zh (HPA.out.below hB3);clear hB3;have hgN0:g<gN:=aO
 have eP:encLs P=encLs (chL P (fun i=>(lAt P i).lo) (fun i=>(lAt P i).hi)):=by rw [chL_self HPA.out.len]
 rw [eP] at HRN;clear eP;have hgN:=ownBlock_lt HRN.out (b:=gN) rfl;have hYs:=hw.size;go_wp2;go_loopw [17,103] (fun v i wr=>∃ k:Nat,k<=6/\i = .int .i64 k/\Upd [gN] Y2 wr/\wr.ownsRow Y1.heap.size 69 8 (.slice (some ⟨gN,0,none⟩) 6 cgN) 6 (encLs (chL P (fun i=>if i<k then endI P e0 i else (lAt P i).lo) (fun i=>if i<k then endI P e0 i else (lAt P i).hi)))/\wr.ownsRow Y2.heap.size 3 1 v k (encI ((endL P e0).take k))) (fun _ i _=>6 - (intOf i).toNat)
 case atStart=>exact ⟨0,aO,rfl,Upd.refl _ _,by simp only [Nat.not_lt_zero,if_false]; exact HRN.out,⟨rfl,.inl ⟨rfl,rfl⟩⟩⟩
 case round =>
  obtain ⟨k,hk,rfl,hU,hrow,hend⟩:=hrel;have HROW:=Zh hrow;have HEND:=Zh hend;clear hrow hend
  by_cases hk6:k<6
  ·have hki:(k:Int)<6:=aO
   obtain ⟨bb,off,ee,hlt,hcs⟩:=HPA.out.row aO;cases ee;have hbk:=hU.block g hlt aT;obtain ⟨ll,hll⟩:=Zx (lAt P k);have hc:=hcs k hk6;have hI:=lAt_ok HPC.out hk6;rw [hll] at hc hI;obtain ⟨h0,h1,h2,h3,h4,h5,h6,h7⟩:=hc;have e0':=(Zc (w:=Y2) (a:=⟨g,0+k*8,none⟩) hbk).trans h0;have e1':=(Zc (w:=Y2) (a:=⟨g,0+k*8+1,none⟩) hbk).trans h1;have e2':=(Zc (w:=Y2) (a:=⟨g,0+k*8+2,none⟩) hbk).trans h2;have e3':=(Zc (w:=Y2) (a:=⟨g,0+k*8+3,none⟩) hbk).trans h3;have e4':=(Zc (w:=Y2) (a:=⟨g,0+k*8+4,none⟩) hbk).trans h4;have e5':=(Zc (w:=Y2) (a:=⟨g,0+k*8+5,none⟩) hbk).trans h5;have e6':=(Zc (w:=Y2) (a:=⟨g,0+k*8+6,none⟩) hbk).trans h6;have e7':=(Zc (w:=Y2) (a:=⟨g,0+k*8+7,none⟩) hbk).trans h7;simp only [Nat.zero_add] at e0' e1' e2' e3' e4' e5' e6' e7';have HLL:=Zh (Zi hll hI);clear hcs h0 h1 h2 h3 h4 h5 h6 h7 hll hI hbk;obtain ⟨⟨px,py,pz⟩,⟨mx,my,mz⟩,lo,hi'⟩:=ll;simp only at e0' e1' e2' e3' e4' e5' e6' e7';go_upto_region 14 with fail
   cases hbit:(bits BinOp.and IntKind.u8 (e0 / 2^k) 1==1)
   ·go_upto_region 16 with fail
    have hWA:Below wr.heap.size wr (wr.alloc (.cells #[.int .i64 px,.int .i64 py,.int .i64 pz,.int .i64 mx,.int .i64 my,.int .i64 mz,.int .i64 lo,.int .i64 hi'] 69)):=(Zb _ _).alloc (Zr _) _;have o20:Own (wr.alloc (.cells #[.int .i64 px,.int .i64 py,.int .i64 pz,.int .i64 mx,.int .i64 my,.int .i64 mz,.int .i64 lo,.int .i64 hi'] 69)) wr.heap.size #[.int .i64 px,.int .i64 py,.int .i64 pz,.int .i64 mx,.int .i64 my,.int .i64 mz,.int .i64 lo,.int .i64 hi']:=Own.new rfl;have hU9:=hU.hop hWA;have HR9:=Zh (ownsRow_stay HROW.out hWA);have HE9:=Zh (ownsRow_stay HEND.out hWA);generalize (wr.alloc (.cells #[.int .i64 px,.int .i64 py,.int .i64 pz,.int .i64 mx,.int .i64 my,.int .i64 mz,.int .i64 lo,.int .i64 hi'] 69))=W9 at *;clear hWA e0' e1' e2' e3' e4' e5' e6' e7';have hyk:(endL P e0).take (k+1)=(endL P e0).take k++[lo]:=by rw [endL_take hk6]; unfold endI; rw [hbit,HLL.out.1]; rfl
    have HYK:=Zh hyk;clear hyk;have hU9s:=hU9.size;go_wp2_with (at_builtin; refine wpList_append_lies _ rfl _ _ _ (by rfl) Y2.heap.size 3 iI (.int .i64 0) 1 8 Tryz.underlying22 hiI hI0 hI1 hI2 rfl aO _ k (encI ((endL P e0).take k)) (by rfl) (HE9.out.alloc _) ⟨W9.heap.size,0,none⟩ 1 1 [.int .i64 lo] (by rfl) rfl ?c1 ?c2 aO ?c3 ?c4 ?c5 (W9.heap.size+1) aS ?_)
    case c1=>exact World.news_of_block (heap_alloc_new W9 _)
    case c2=>intro u hu; simp at hu; subst hu; rfl
    case c3=>unfold maxLen; omega
    case c4=>omega
    case c5=>simp; omega
    intro gE cgE w6 ho6 hg6 hat hlt6;have hal:Below W9.heap.size W9 (W9.alloc (.cells #[.int .i64 lo] 3)):=(Zb _ _).alloc (Zr _) _;have hob:∀ b,u17.ownBlock=some b->Y2.heap.size<=b:=fun b hb=>ownBlock_ge HE9.out hb
    have hUg:=upd_grown (T:=u17.ownBlock.toList) hg6 (fun b e=>by rw [e]; simp);have hR6:=rows_upd (ownsRow_stay HR9.out hal) hUg (fun b e hm=>by
     cases e;have:=hob gN (by simpa using hm);omega)
    have hU6:=(hU9.hop hal).hopB (Below.grown (Zb _ _) hg6 aT hob);rw [encI_snoc,<- HYK.out] at ho6;have HE6:=Zh ho6;have HR6:=Zh hR6;have e6:=(HR6.out.cellAt (k*8+6) aO).trans (encLs_at_lo P _ _ hk6).1;have e7:=(HR6.out.cellAt (k*8+7) aO).trans (encLs_at_lo P _ _ hk6).2;have f6:=HR6.out.frozenAt (k*8+6);have f7:=HR6.out.frozenAt (k*8+7);have hltN:=ownBlock_lt HR6.out (b:=gN) rfl;have hey:endI P e0 k=lo:=by unfold endI; rw [hbit,HLL.out.1]; rfl
    have HEY:=Zh hey;clear hal hob hUg hR6 ho6 hg6 hat hlt6 hey HR9 HE9 hU9 hU9s;go_wp2;go_roundw
    case rel =>
     refine ⟨k+1,aO,by go_num,(hU6.set aS _).set aS _,?_,?_⟩
     ·have hr:=((HR6.out.stored (k*8+6) (.int .i64 lo)).1.stored (k*8+7) (.int .i64 lo)).1;rw [encLs_lo P _ _ hk6,encLs_hi P _ _ hk6,end_step HEY.out,end_step HEY.out] at hr;exact hr
     ·exact rows_upd HE6.out (((Upd.refl [gN] w6).set aS _).set aS _) (fun b e=>by
       have:=ownBlock_ge HE6.out e;simp;omega)
    case measure=>simp [intOf]; omega
   ·go_upto_region 16 with fail
    have hWA:Below wr.heap.size wr (wr.alloc (.cells #[.int .i64 px,.int .i64 py,.int .i64 pz,.int .i64 mx,.int .i64 my,.int .i64 mz,.int .i64 lo,.int .i64 hi'] 69)):=(Zb _ _).alloc (Zr _) _;have o20:Own (wr.alloc (.cells #[.int .i64 px,.int .i64 py,.int .i64 pz,.int .i64 mx,.int .i64 my,.int .i64 mz,.int .i64 lo,.int .i64 hi'] 69)) wr.heap.size #[.int .i64 px,.int .i64 py,.int .i64 pz,.int .i64 mx,.int .i64 my,.int .i64 mz,.int .i64 lo,.int .i64 hi']:=Own.new rfl;have hU9:=hU.hop hWA;have HR9:=Zh (ownsRow_stay HROW.out hWA);have HE9:=Zh (ownsRow_stay HEND.out hWA);generalize (wr.alloc (.cells #[.int .i64 px,.int .i64 py,.int .i64 pz,.int .i64 mx,.int .i64 my,.int .i64 mz,.int .i64 lo,.int .i64 hi'] 69))=W9 at *;clear hWA e0' e1' e2' e3' e4' e5' e6' e7';have hyk:(endL P e0).take (k+1)=(endL P e0).take k++[hi']:=by rw [endL_take hk6]; unfold endI; rw [hbit,HLL.out.1]; rfl
    have HYK:=Zh hyk;clear hyk;have hU9s:=hU9.size;go_wp2_with (at_builtin; refine wpList_append_lies _ rfl _ _ _ (by rfl) Y2.heap.size 3 iI (.int .i64 0) 1 8 Tryz.underlying22 hiI hI0 hI1 hI2 rfl aO _ k (encI ((endL P e0).take k)) (by rfl) (HE9.out.alloc _) ⟨W9.heap.size,0,none⟩ 1 1 [.int .i64 hi'] (by rfl) rfl ?c1 ?c2 aO ?c3 ?c4 ?c5 (W9.heap.size+1) aS ?_)
    case c1=>exact World.news_of_block (heap_alloc_new W9 _)
    case c2=>intro u hu; simp at hu; subst hu; rfl
    case c3=>unfold maxLen; omega
    case c4=>omega
    case c5=>simp; omega
    intro gE cgE w6 ho6 hg6 hat hlt6;have hal:Below W9.heap.size W9 (W9.alloc (.cells #[.int .i64 hi'] 3)):=(Zb _ _).alloc (Zr _) _;have hob:∀ b,u17.ownBlock=some b->Y2.heap.size<=b:=fun b hb=>ownBlock_ge HE9.out hb
    have hUg:=upd_grown (T:=u17.ownBlock.toList) hg6 (fun b e=>by rw [e]; simp);have hR6:=rows_upd (ownsRow_stay HR9.out hal) hUg (fun b e hm=>by
     cases e;have:=hob gN (by simpa using hm);omega)
    have hU6:=(hU9.hop hal).hopB (Below.grown (Zb _ _) hg6 aT hob);rw [encI_snoc,<- HYK.out] at ho6;have HE6:=Zh ho6;have HR6:=Zh hR6;have e6:=(HR6.out.cellAt (k*8+6) aO).trans (encLs_at_lo P _ _ hk6).1;have e7:=(HR6.out.cellAt (k*8+7) aO).trans (encLs_at_lo P _ _ hk6).2;have f6:=HR6.out.frozenAt (k*8+6);have f7:=HR6.out.frozenAt (k*8+7);have hltN:=ownBlock_lt HR6.out (b:=gN) rfl;have hey:endI P e0 k=hi':=by unfold endI; rw [hbit,HLL.out.1]; rfl
    have HEY:=Zh hey;clear hal hob hUg hR6 ho6 hg6 hat hlt6 hey HR9 HE9 hU9 hU9s;go_wp2;go_roundw
    case rel =>
     refine ⟨k+1,aO,by go_num,(hU6.set aS _).set aS _,?_,?_⟩
     ·have hr:=((HR6.out.stored (k*8+6) (.int .i64 hi')).1.stored (k*8+7) (.int .i64 hi')).1;rw [encLs_lo P _ _ hk6,encLs_hi P _ _ hk6,end_step HEY.out,end_step HEY.out] at hr;exact hr
     ·exact rows_upd HE6.out (((Upd.refl [gN] w6).set aS _).set aS _) (fun b e=>by
       have:=ownBlock_ge HE6.out e;simp;omega)
    case measure=>simp [intOf]; omega
  ·obtain rfl:k=6:=aO
   have hLI:=fun i (hi:i<6)=>(endI_in (e:=e0) HPC.out hi).2
   have hLN:=chL_locs HROW.out HPC.out (fun i hi=>by have:=hLI i hi; simp only [if_pos hi]; omega);have hCN:locC (chL P (fun i=>if i<6 then endI P e0 i else (lAt P i).lo) (fun i=>if i<6 then endI P e0 i else (lAt P i).hi))=0:=chL_C HPC.out (fun i hi=>by have:=hLI i hi; simp only [if_pos hi]; omega);have hNat:=fun i (hi:i<6)=>ends_at P e0 (fun i=>(lAt P i).lo) (fun i=>(lAt P i).hi) hi
   have hNM:=chL_M HPA.out.len (fun i=>if i<6 then endI P e0 i else (lAt P i).lo) (fun i=>if i<6 then endI P e0 i else (lAt P i).hi);obtain ⟨N,hN⟩:=Zx (chL P (fun i=>if i<6 then endI P e0 i else (lAt P i).lo) (fun i=>if i<6 then endI P e0 i else (lAt P i).hi));rw [hN] at hLN hCN hNat hNM;have hE:=HEND.out;rw [endL_six] at hE;obtain ⟨Ae,cE,rfl,hE1,hE2,hEI,-⟩:=ints_of_row hE (endL_len P e0) (endL_I e0 HPC.out);have HLN:=Zh hLN;have HCN:=Zh (Zi hCN (Zi hNat hNM));have HEI:=Zh hEI;have hUN:UnitZ (locM N) xs Ns D:=by rw [hNM]; exact HUZ.out
   have HUN:=Zh hUN;have GV:=Zh (good_val HUZ.out HPC.out l2);have GE:=Zh (good_end HUZ.out HPC.out e0);have GN:=Zh (good_ch GE.out hCN hNM hNat);clear hLI hLN hCN hNat hNM hN hE hEI hUN HROW HEND HRN;replace o8:=o8.upd hU (by first | (simp; done) | (simp; omega));clear o8c o8f o8z;replace o13:=o13.upd hU (by first | (simp; done) | (simp; omega));clear o13c o13f o13z;replace o14:=o14.upd hU (by first | (simp; done) | (simp; omega));clear o14c o14f o14z;replace qa:=qa.upd hU (by first | (simp; done) | (simp; omega));clear qac qaf qaz;replace HPA:=Zh (HPA.out.upd hU (fun b off e=>by cases e; first | (simp; done) | (simp; omega)));replace hw:=Upd.below hw hU (fun b hb=>by simp at hb; omega);have hsz':=hU.size;clear hU;have o8c:=o8.cell;have o8f:=o8.thaw;have o8z:=o8.lt;have o13c:=o13.cell;have o13f:=o13.thaw;have o13z:=o13.lt;have o14c:=o14.cell;have o14f:=o14.thaw;have o14z:=o14.lt;have qac:=qa.cell;have qaf:=qa.thaw;have qaz:=qa.lt;replace hz:=hw.size;obtain ⟨t0,ht0⟩:=Zx (bestQ xs N 0 (cornersL ⟨cx,cy,cz⟩ ⟨cx,cy,cz⟩));have hl0:=tight_le HUZ.out (L:=P) (L':=N) HBX.out.2.1 (fun q hq=>by have h1:=HCN.out.2.1 q hq; have h2:=GE.out.rng q hq; omega) 0;rw [ht0,HAQ.out.1] at hl0;have hb0:=best_bd HUN.out HCN.out.1 HBX.out.2.2 HBX.out.2.2 ⟨Int.le_refl _,Int.le_refl _,Int.le_refl _⟩ 0;rw [ht0] at hb0;have hc0:=best_bd HUZ.out HPC.out HBX.out.1.1 HBX.out.1.2.1 HBX.out.1.2.2 0;rw [HAQ.out.1] at hc0;obtain ⟨t1,ht1⟩:=Zx (bestQ xs N 1 (cornersL ⟨cx,cy,cz⟩ ⟨cx,cy,cz⟩));have hl1:=tight_le HUZ.out (L:=P) (L':=N) HBX.out.2.1 (fun q hq=>by have h1:=HCN.out.2.1 q hq; have h2:=GE.out.rng q hq; omega) 1;rw [ht1,HAQ.out.2.1] at hl1;have hb1:=best_bd HUN.out HCN.out.1 HBX.out.2.2 HBX.out.2.2 ⟨Int.le_refl _,Int.le_refl _,Int.le_refl _⟩ 1;rw [ht1] at hb1;have hc1:=best_bd HUZ.out HPC.out HBX.out.1.1 HBX.out.1.2.1 HBX.out.1.2.2 1;rw [HAQ.out.2.1] at hc1;obtain ⟨t2,ht2⟩:=Zx (bestQ xs N 2 (cornersL ⟨cx,cy,cz⟩ ⟨cx,cy,cz⟩));have hl2:=tight_le HUZ.out (L:=P) (L':=N) HBX.out.2.1 (fun q hq=>by have h1:=HCN.out.2.1 q hq; have h2:=GE.out.rng q hq; omega) 2;rw [ht2,HAQ.out.2.2] at hl2;have hb2:=best_bd HUN.out HCN.out.1 HBX.out.2.2 HBX.out.2.2 ⟨Int.le_refl _,Int.le_refl _,Int.le_refl _⟩ 2;rw [ht2] at hb2;have hc2:=best_bd HUZ.out HPC.out HBX.out.1.1 HBX.out.1.2.1 HBX.out.1.2.2 2;rw [HAQ.out.2.2] at hc2;have HTQ:=Zh (Zi ht0 (Zi ht1 ht2));have HTL:=Zh (Zi hl0 (Zi hl1 hl2));have HTB:=Zh (Zi hb0 (Zi hb1 hb2));have HAB:=Zh (Zi hc0 (Zi hc1 hc2));clear ht0 hl0 hb0 hc0 ht1 hl1 hb1 hc1 ht2 hl2 hb2 hc2;go_upto_region 19 with fail
   go_wp2_with fail;refine Zd (callv (plc_Bound (xs:=xs) _ HLN.out HCN.out.1 HBX.out.2.2 HBX.out.2.2 ⟨Int.le_refl _,Int.le_refl _,Int.le_refl _⟩ HUN.out.fine (fun v hv=>HUN.out.corner HCN.out.1 hv)) (by rw [HTQ.out.1,HTQ.out.2.1,HTQ.out.2.2])) ?_;rintro e y3 ⟨rfl,hbx⟩;replace o8:Own y3 (w.heap.size+1) #[.int .i64 cx,.int .i64 cy,.int .i64 cz]:=o8.below hbx;replace o8c:=o8.cell;replace o8f:=o8.thaw;replace o8z:=o8.lt;replace o13:Own y3 (d3) #[.int .i64 lx,.int .i64 ly,.int .i64 lz]:=o13.below hbx;replace o13c:=o13.cell;replace o13f:=o13.thaw;replace o13z:=o13.lt;replace o14:Own y3 (d3+1) #[.int .i64 rx,.int .i64 ry,.int .i64 rz]:=o14.below hbx;replace o14c:=o14.cell;replace o14f:=o14.thaw;replace o14z:=o14.lt;replace qa:Own y3 (ka) #[.int .i64 a0,.int .i64 a1,.int .i64 a2]:=qa.below hbx;replace qac:=qa.cell;replace qaf:=qa.thaw;replace qaz:=qa.lt;replace hw:Below w.heap.size w y3:=Below.hop hw hbx;replace hz:=hw.size;replace HPA:=Zh (HPA.out.below hbx);replace HLN:=Zh (HLN.out.below hbx);replace HEI:=Zh (HEI.out.below hbx);clear hbx;go_upto_region 20 with fail
   have hA':Below y3.heap.size y3 (y3.alloc (.cells #[.int .i64 t0,.int .i64 t1,.int .i64 t2] 44)):=aBel;replace HPA:=Zh (HPA.out.below hA');replace HLN:=Zh (HLN.out.below hA');replace HEI:=Zh (HEI.out.below hA');replace o8:Own (y3.alloc (.cells #[.int .i64 t0,.int .i64 t1,.int .i64 t2] 44)) (w.heap.size+1) #[.int .i64 cx,.int .i64 cy,.int .i64 cz]:=o8.below hA';clear o8c o8f o8z;replace o13:Own (y3.alloc (.cells #[.int .i64 t0,.int .i64 t1,.int .i64 t2] 44)) (d3) #[.int .i64 lx,.int .i64 ly,.int .i64 lz]:=o13.below hA';clear o13c o13f o13z;replace o14:Own (y3.alloc (.cells #[.int .i64 t0,.int .i64 t1,.int .i64 t2] 44)) (d3+1) #[.int .i64 rx,.int .i64 ry,.int .i64 rz]:=o14.below hA';clear o14c o14f o14z;replace qa:Own (y3.alloc (.cells #[.int .i64 t0,.int .i64 t1,.int .i64 t2] 44)) (ka) #[.int .i64 a0,.int .i64 a1,.int .i64 a2]:=qa.below hA';clear qac qaf qaz;have qt:Own (y3.alloc (.cells #[.int .i64 t0,.int .i64 t1,.int .i64 t2] 44)) (y3.heap.size) #[.int .i64 t0,.int .i64 t1,.int .i64 t2]:=Own.new rfl;replace hw:Below w.heap.size w (y3.alloc (.cells #[.int .i64 t0,.int .i64 t1,.int .i64 t2] 44)):=hw.trans (hA'.mono hw.size);have hsz':(y3.alloc (.cells #[.int .i64 t0,.int .i64 t1,.int .i64 t2] 44)).heap.size=y3.heap.size+1:=by simp [World.size_alloc]
   clear hA';generalize y3.alloc (.cells #[.int .i64 t0,.int .i64 t1,.int .i64 t2] 44)=Y3 at *;have o8c:=o8.cell;have o8f:=o8.thaw;have o8z:=o8.lt;have o13c:=o13.cell;have o13f:=o13.thaw;have o13z:=o13.lt;have o14c:=o14.cell;have o14f:=o14.thaw;have o14z:=o14.lt;have qac:=qa.cell;have qaf:=qa.thaw;have qaz:=qa.lt;have qtc:=qt.cell;have qtf:=qt.thaw;have qtz:=qt.lt;replace hz:=hw.size;obtain ⟨kt,hkt⟩:=Zx (y3.heap.size);rw [hkt] at qt qtc qtf qtz hsz' ⊢;clear hkt;generalize ((6:Nat):Int)=K6;go_wp2_with fail;refine Zd (ref20_Values c cap2 HPA.out HPC.out (HS2.out.below hw)) ?_;rintro e y4 ⟨⟨gv,cv,rfl,hv1,hv2,hIV,hv3,hv4⟩,hbx⟩;have HIV:=Zh hIV;clear hIV HS2;replace o8:Own y4 (w.heap.size+1) #[.int .i64 cx,.int .i64 cy,.int .i64 cz]:=o8.below hbx;replace o8c:=o8.cell;replace o8f:=o8.thaw;replace o8z:=o8.lt;replace o13:Own y4 (d3) #[.int .i64 lx,.int .i64 ly,.int .i64 lz]:=o13.below hbx;replace o13c:=o13.cell;replace o13f:=o13.thaw;replace o13z:=o13.lt;replace o14:Own y4 (d3+1) #[.int .i64 rx,.int .i64 ry,.int .i64 rz]:=o14.below hbx;replace o14c:=o14.cell;replace o14f:=o14.thaw;replace o14z:=o14.lt;replace qa:Own y4 (ka) #[.int .i64 a0,.int .i64 a1,.int .i64 a2]:=qa.below hbx;replace qac:=qa.cell;replace qaf:=qa.thaw;replace qaz:=qa.lt;replace qt:Own y4 (kt) #[.int .i64 t0,.int .i64 t1,.int .i64 t2]:=qt.below hbx;replace qtc:=qt.cell;replace qtf:=qt.thaw;replace qtz:=qt.lt;replace hw:Below w.heap.size w y4:=Below.hop hw hbx;replace hz:=hw.size;replace HPA:=Zh (HPA.out.below hbx);replace HLN:=Zh (HLN.out.below hbx);replace HEI:=Zh (HEI.out.below hbx);clear hbx;go_upto_region 21 with fail
   have hA':Below y4.heap.size y4 (y4.alloc (.cells #[.slice (some ⟨gv,0,none⟩) 6 cv,.slice Ae 6 cE] 22)):=aBel;replace HPA:=Zh (HPA.out.below hA');replace HLN:=Zh (HLN.out.below hA');replace HEI:=Zh (HEI.out.below hA');replace HIV:=Zh (HIV.out.below hA');replace o8:Own (y4.alloc (.cells #[.slice (some ⟨gv,0,none⟩) 6 cv,.slice Ae 6 cE] 22)) (w.heap.size+1) #[.int .i64 cx,.int .i64 cy,.int .i64 cz]:=o8.below hA';clear o8c o8f o8z;replace o13:Own (y4.alloc (.cells #[.slice (some ⟨gv,0,none⟩) 6 cv,.slice Ae 6 cE] 22)) (d3) #[.int .i64 lx,.int .i64 ly,.int .i64 lz]:=o13.below hA';clear o13c o13f o13z;replace o14:Own (y4.alloc (.cells #[.slice (some ⟨gv,0,none⟩) 6 cv,.slice Ae 6 cE] 22)) (d3+1) #[.int .i64 rx,.int .i64 ry,.int .i64 rz]:=o14.below hA';clear o14c o14f o14z;replace qa:Own (y4.alloc (.cells #[.slice (some ⟨gv,0,none⟩) 6 cv,.slice Ae 6 cE] 22)) (ka) #[.int .i64 a0,.int .i64 a1,.int .i64 a2]:=qa.below hA';clear qac qaf qaz;replace qt:Own (y4.alloc (.cells #[.slice (some ⟨gv,0,none⟩) 6 cv,.slice Ae 6 cE] 22)) (kt) #[.int .i64 t0,.int .i64 t1,.int .i64 t2]:=qt.below hA';clear qtc qtf qtz;have oV:Own (y4.alloc (.cells #[.slice (some ⟨gv,0,none⟩) 6 cv,.slice Ae 6 cE] 22)) (y4.heap.size) #[.slice (some ⟨gv,0,none⟩) 6 cv,.slice Ae 6 cE]:=Own.new rfl;replace hw:Below w.heap.size w (y4.alloc (.cells #[.slice (some ⟨gv,0,none⟩) 6 cv,.slice Ae 6 cE] 22)):=hw.trans (hA'.mono hw.size);have hsz':(y4.alloc (.cells #[.slice (some ⟨gv,0,none⟩) 6 cv,.slice Ae 6 cE] 22)).heap.size=y4.heap.size+1:=by simp [World.size_alloc]
   clear hA';generalize y4.alloc (.cells #[.slice (some ⟨gv,0,none⟩) 6 cv,.slice Ae 6 cE] 22)=Y4 at *;have o8c:=o8.cell;have o8f:=o8.thaw;have o8z:=o8.lt;have o13c:=o13.cell;have o13f:=o13.thaw;have o13z:=o13.lt;have o14c:=o14.cell;have o14f:=o14.thaw;have o14z:=o14.lt;have qac:=qa.cell;have qaf:=qa.thaw;have qaz:=qa.lt;have qtc:=qt.cell;have qtf:=qt.thaw;have qtz:=qt.lt;have oVc:=oV.cell;have oVf:=oV.thaw;have oVz:=oV.lt;replace hz:=hw.size;obtain ⟨bV,hkbV⟩:=Zx (y4.heap.size);rw [hkbV] at oV oVc oVf oVz hsz' ⊢;clear hkbV;clear hsz' hv3 hv4;go_wp2;go_loopw [145] (fun i wr=>∃ q:Nat,q<=2/\i = .int .i64 q/\Below Y4.heap.size Y4 wr) (fun i _=>2 - (intOf i).toNat)
   case atStart=>exact ⟨0,aO,rfl,Zb _ _⟩
   case round =>
    obtain ⟨q,hq,rfl,hb8⟩:=hrel;have hz8:=hb8.size;have hbx:=hb8;replace o8:Own wr (w.heap.size+1) #[.int .i64 cx,.int .i64 cy,.int .i64 cz]:=o8.below hbx;replace o8c:=o8.cell;replace o8f:=o8.thaw;replace o8z:=o8.lt;replace o13:Own wr (d3) #[.int .i64 lx,.int .i64 ly,.int .i64 lz]:=o13.below hbx;replace o13c:=o13.cell;replace o13f:=o13.thaw;replace o13z:=o13.lt;replace o14:Own wr (d3+1) #[.int .i64 rx,.int .i64 ry,.int .i64 rz]:=o14.below hbx;replace o14c:=o14.cell;replace o14f:=o14.thaw;replace o14z:=o14.lt;replace qa:Own wr (ka) #[.int .i64 a0,.int .i64 a1,.int .i64 a2]:=qa.below hbx;replace qac:=qa.cell;replace qaf:=qa.thaw;replace qaz:=qa.lt;replace qt:Own wr (kt) #[.int .i64 t0,.int .i64 t1,.int .i64 t2]:=qt.below hbx;replace qtc:=qt.cell;replace qtf:=qt.thaw;replace qtz:=qt.lt;replace oV:Own wr (bV) #[.slice (some ⟨gv,0,none⟩) 6 cv,.slice Ae 6 cE]:=oV.below hbx;replace oVc:=oV.cell;replace oVf:=oV.thaw;replace oVz:=oV.lt;replace hw:Below w.heap.size w wr:=Below.hop hw hbx;replace hz:=hw.size;replace HPA:=Zh (HPA.out.below hbx);replace HLN:=Zh (HLN.out.below hbx);replace HEI:=Zh (HEI.out.below hbx);replace HIV:=Zh (HIV.out.below hbx);clear hbx
    by_cases hq2:q<2
    ·have hqi:(q:Int)<2:=aO
     obtain ⟨Aq,cq,ws,e25,hIQ,hGQ⟩:∃ Aq cq ws,wr.cell? ⟨bV,q,none⟩=some (.slice Aq 6 cq)/\IntsAt wr Aq 6 ws/\GoodV P Ns D ws:=by
      rcases (show q=0\/q=1 by omega) with rfl | rfl
      ·exact ⟨_,_,_,oV.cell 0,HIV.out,GV.out⟩
      ·exact ⟨_,_,_,oV.cell 1,HEI.out,GE.out⟩
     obtain ⟨x,hxf,hxm⟩:=hGQ.x;have HX:=Zh (Zi hxf (Zi hGQ.mot hxm));have HGQ:=Zh hGQ;have HIQ:=Zh hIQ;clear hIQ hGQ hxf hxm;clear oVc;go_upto_region 23 with fail
     refine region_flat 0 aK ?_;apply Zs;refine ⟨fun v hv hne=>?_,fun u hu=>?_⟩
     ·simp only [List.take_zero];refine wpQuiet_nil ?_;exact rfl
     simp only [List.drop_zero];clear e25;replace o8:Own u (w.heap.size+1) #[.int .i64 cx,.int .i64 cy,.int .i64 cz]:=o8.below hu;replace o8c:=o8.cell;replace o8f:=o8.thaw;replace o8z:=o8.lt;replace o13:Own u (d3) #[.int .i64 lx,.int .i64 ly,.int .i64 lz]:=o13.below hu;replace o13c:=o13.cell;replace o13f:=o13.thaw;replace o13z:=o13.lt;replace o14:Own u (d3+1) #[.int .i64 rx,.int .i64 ry,.int .i64 rz]:=o14.below hu;replace o14c:=o14.cell;replace o14f:=o14.thaw;replace o14z:=o14.lt;replace qa:Own u (ka) #[.int .i64 a0,.int .i64 a1,.int .i64 a2]:=qa.below hu;replace qac:=qa.cell;replace qaf:=qa.thaw;replace qaz:=qa.lt;replace qt:Own u (kt) #[.int .i64 t0,.int .i64 t1,.int .i64 t2]:=qt.below hu;replace qtc:=qt.cell;replace qtf:=qt.thaw;replace qtz:=qt.lt;replace oV:Own u (bV) #[.slice (some ⟨gv,0,none⟩) 6 cv,.slice Ae 6 cE]:=oV.below hu;replace oVc:=oV.cell;replace oVf:=oV.thaw;replace oVz:=oV.lt;replace hw:Below w.heap.size w u:=Below.hop hw hu;replace hz:=hw.size;replace HPA:=Zh (HPA.out.below hu);replace HLN:=Zh (HLN.out.below hu);replace HEI:=Zh (HEI.out.below hu);replace HIV:=Zh (HIV.out.below hu);replace HIQ:=Zh (HIQ.out.below hu);replace hb8:=hb8.trans (hu.mono hb8.size);clear hu;refine fl ?_;refine fl ?_;refine flat_mem (by rfl) (fun K hK=>?_)
     (try simp only [LN])
     go_simp;refine Zd (plc_Motion (L:=P) (b:=ws) (x:=x) c cq HPA.out aO HIQ.out (fun _=>HX.out.1)) ?_;rintro e m7 ⟨⟨s0w,t0w,A0w,E0w,n0w,c0w,m0w,d0w,s1w,t1w,A1w,E1w,n1w,c1w,m1w,d1w,s2w,t2w,A2w,E2w,n2w,c2w,m2w,d2w,s3w,t3w,A3w,E3w,n3w,c3w,m3w,d3w,s4w,t4w,A4w,E4w,n4w,c4w,m4w,d4w,s5w,t5w,A5w,E5w,n5w,c5w,m5w,d5w,rfl,hqm⟩,hbx⟩;obtain ⟨r0,r1,r2,r3,r4,r5⟩:=hqm HX.out.2.1;rw [HX.out.2.1];refine ⟨_,rfl,?_⟩;refine hK _ _ ?_;clear hK K hqm;have HR0:=Zh r0;have HR1:=Zh r1;have HR2:=Zh r2;have HR3:=Zh r3;have HR4:=Zh r4;have HR5:=Zh r5;clear r0 r1 r2 r3 r4 r5;replace o8:Own m7 (w.heap.size+1) #[.int .i64 cx,.int .i64 cy,.int .i64 cz]:=o8.below hbx;replace o8c:=o8.cell;replace o8f:=o8.thaw;replace o8z:=o8.lt;replace o13:Own m7 (d3) #[.int .i64 lx,.int .i64 ly,.int .i64 lz]:=o13.below hbx;replace o13c:=o13.cell;replace o13f:=o13.thaw;replace o13z:=o13.lt;replace o14:Own m7 (d3+1) #[.int .i64 rx,.int .i64 ry,.int .i64 rz]:=o14.below hbx;replace o14c:=o14.cell;replace o14f:=o14.thaw;replace o14z:=o14.lt;replace qa:Own m7 (ka) #[.int .i64 a0,.int .i64 a1,.int .i64 a2]:=qa.below hbx;replace qac:=qa.cell;replace qaf:=qa.thaw;replace qaz:=qa.lt;replace qt:Own m7 (kt) #[.int .i64 t0,.int .i64 t1,.int .i64 t2]:=qt.below hbx;replace qtc:=qt.cell;replace qtf:=qt.thaw;replace qtz:=qt.lt;replace oV:Own m7 (bV) #[.slice (some ⟨gv,0,none⟩) 6 cv,.slice Ae 6 cE]:=oV.below hbx;replace oVc:=oV.cell;replace oVf:=oV.thaw;replace oVz:=oV.lt;replace hw:Below w.heap.size w m7:=Below.hop hw hbx;replace hz:=hw.size;replace HPA:=Zh (HPA.out.below hbx);replace HLN:=Zh (HLN.out.below hbx);replace HEI:=Zh (HEI.out.below hbx);replace HIV:=Zh (HIV.out.below hbx);replace HIQ:=Zh (HIQ.out.below hbx);replace hb8:=hb8.trans (hbx.mono hb8.size);clear hbx;refine fl ?_;refine fl ?_;refine fl ?_;refine fl ?_;have oZ:Own (m7.alloc (.cells nz12 50)) m7.heap.size nz12:=Own.new rfl;have hAz:Below m7.heap.size m7 (m7.alloc (.cells nz12 50)):=(Zb _ _).alloc (Zr _) _;refine flat_mem (by rfl) (fun K hK=>?_)
     (try simp only [LN])
     refine late_store 50 _ _ rfl m7.heap.size #[.bool s0w,.slice A0w n0w c0w,.bool t0w,.slice E0w m0w d0w,.bool s1w,.slice A1w n1w c1w,.bool t1w,.slice E1w m1w d1w,.bool s2w,.slice A2w n2w c2w,.bool t2w,.slice E2w m2w d2w,.bool s3w,.slice A3w n3w c3w,.bool t3w,.slice E3w m3w d3w,.bool s4w,.slice A4w n4w c4w,.bool t4w,.slice E4w m4w d4w,.bool s5w,.slice A5w n5w c5w,.bool t5w,.slice E5w m5w d5w] nz12 rfl rfl oZ rfl aK aK (fun M8 hwf om=>?_);refine hK _ _ ?_;clear hK K;have hbx:Below m7.heap.size m7 M8:=by rw [hwf]; exact below_setAll (Zr _) _ _ _ hAz
     obtain ⟨bm,hbm⟩:=Zx (m7.heap.size);clear hwf oZ hAz;replace o8:Own M8 (w.heap.size+1) #[.int .i64 cx,.int .i64 cy,.int .i64 cz]:=o8.below hbx;replace o8c:=o8.cell;replace o8f:=o8.thaw;replace o8z:=o8.lt;replace o13:Own M8 (d3) #[.int .i64 lx,.int .i64 ly,.int .i64 lz]:=o13.below hbx;replace o13c:=o13.cell;replace o13f:=o13.thaw;replace o13z:=o13.lt;replace o14:Own M8 (d3+1) #[.int .i64 rx,.int .i64 ry,.int .i64 rz]:=o14.below hbx;replace o14c:=o14.cell;replace o14f:=o14.thaw;replace o14z:=o14.lt;replace qa:Own M8 (ka) #[.int .i64 a0,.int .i64 a1,.int .i64 a2]:=qa.below hbx;replace qac:=qa.cell;replace qaf:=qa.thaw;replace qaz:=qa.lt;replace qt:Own M8 (kt) #[.int .i64 t0,.int .i64 t1,.int .i64 t2]:=qt.below hbx;replace qtc:=qt.cell;replace qtf:=qt.thaw;replace qtz:=qt.lt;replace oV:Own M8 (bV) #[.slice (some ⟨gv,0,none⟩) 6 cv,.slice Ae 6 cE]:=oV.below hbx;replace oVc:=oV.cell;replace oVf:=oV.thaw;replace oVz:=oV.lt;replace hw:Below w.heap.size w M8:=Below.hop hw hbx;replace hz:=hw.size;replace HPA:=Zh (HPA.out.below hbx);replace HLN:=Zh (HLN.out.below hbx);replace HEI:=Zh (HEI.out.below hbx);replace HIV:=Zh (HIV.out.below hbx);replace HIQ:=Zh (HIQ.out.below hbx);replace HR0:=Zh (HR0.out.below hbx);replace HR1:=Zh (HR1.out.below hbx);replace HR2:=Zh (HR2.out.below hbx);replace HR3:=Zh (HR3.out.below hbx);replace HR4:=Zh (HR4.out.below hbx);replace HR5:=Zh (HR5.out.below hbx);replace hb8:=hb8.trans (hbx.mono hb8.size);clear hbx;rw [hbm] at om ⊢;clear hbm;have omz:=om.lt;refine fl ?_;refine flat_nil ?_
     (try simp only [LN])
     have omc:=om.cell;have omf:=om.thaw;go_upto_region 24 with fail
     have HRc:=Zh (Zi HR0.out (Zi HR1.out (Zi HR2.out (Zi HR3.out (Zi HR4.out HR5.out)))));refine region_genP (T:=[]) [.make 2 [] (shB M8.heap.size (shiftQ x ⟨cx,cy,cz⟩)),.need 3 [2,1000],.make 6 [] (ownB [] nz6 (fun p=>.pointer (some ⟨p,0,none⟩)))] 7 0 60 (fun _ _=>True) (fun _ _ _ _ _=>trivial) trivial aK aK (by rfl) ?_;unfold genWalk;apply Zs;apply Zi
     ·apply Piece.mk
      ·intro f v hv hr hne;simp only [List.take_succ_cons,List.take_zero,List.drop_succ_cons,List.drop_zero,Nat.reduceSub,Nat.reduceAdd];have d8:=fun y=>(o8.later (v:=v) (T:=[]) aS y).cell
       refine quiet_load 50 _ rfl (by rfl) bm 0 [.bool s0w,.slice A0w n0w c0w,.bool t0w,.slice E0w m0w d0w,.bool s1w,.slice A1w n1w c1w,.bool t1w,.slice E1w m1w d1w,.bool s2w,.slice A2w n2w c2w,.bool t2w,.slice E2w m2w d2w,.bool s3w,.slice A3w n3w c3w,.bool t3w,.slice E3w m3w d3w,.bool s4w,.slice A4w n4w c4w,.bool t4w,.slice E4w m4w d4w,.bool s5w,.slice A5w n5w c5w,.bool t5w,.slice E5w m5w d5w] _ rfl (fun u hu=>?_) Tryz.underlying50 rfl aK ?_
       ·obtain ⟨y,rfl⟩:=hu;exact (om.later (v:=v) (T:=[]) aS y).range
       (try simp only [LN])
       exact qz
      ·intro f; kernel_rfl
      ·intro f f' hf; kernel_rfl
     simp only [List.take_succ_cons,List.take_zero,List.drop_succ_cons,List.drop_zero,Nat.reduceSub,Nat.reduceAdd,oneOp];refine ⟨fun f=>⟨rfl,fun u hu _=>?_⟩,?_⟩
     ·refine make_call (f:=29) (args:=#[.agg #[.bool s0w,.slice A0w n0w c0w,.bool t0w,.slice E0w m0w d0w,.bool s1w,.slice A1w n1w c1w,.bool t1w,.slice E1w m1w d1w,.bool s2w,.slice A2w n2w c2w,.bool t2w,.slice E2w m2w d2w,.bool s3w,.slice A3w n3w c3w,.bool t3w,.slice E3w m3w d3w,.bool s4w,.slice A4w n4w c4w,.bool t4w,.slice E4w m4w d4w,.bool s5w,.slice A5w n5w c5w,.bool t5w,.slice E5w m5w d5w],vV cx cy cz]) (by (try simp only [LN]); (try simp only [newB_val,numB_val,ownB_val,shB_val,numV]); go_simp) ?_;refine (plc_ShiftB (w:=u) (x:=x) (HRc.out.1.keeps hu) (HRc.out.2.1.keeps hu) (HRc.out.2.2.1.keeps hu) (HRc.out.2.2.2.1.keeps hu) (HRc.out.2.2.2.2.1.keeps hu) (HRc.out.2.2.2.2.2.keeps hu) cx cy cz HBX.out.2.2 (HX.out.2.2.shifts HBX.out.2.2)).mono ?_;intro e wx q;obtain ⟨w'',rfl,p,e1,e2,e3,e4,e5⟩:=sh_make (B:=M8.heap.size) q hu.1;exact ⟨p,by rw [e1],e2,e3,e4,e5⟩
     unfold genWalk;apply Zs;apply Zi
     ·apply Piece.mk
      ·intro f v hv hr hne;simp only [List.take_succ_cons,List.take_zero,List.drop_succ_cons,List.drop_zero,Nat.reduceSub,Nat.reduceAdd]
       (try simp only [LN])
       (try simp only [newB_val,numB_val,ownB_val,shB_val,numV])
       exact qz
      ·intro f; kernel_rfl
      ·intro f f' hf; simp
     unfold genWalk;apply Zs;apply Zi
     ·apply Piece.mk
      ·intro f v hv hr hne;simp only [List.take_succ_cons,List.take_zero,List.drop_succ_cons,List.drop_zero,Nat.reduceSub,Nat.reduceAdd]
       (try simp only [LN])
       (try simp only [newB_val,numB_val,ownB_val,shB_val,numV])
       exact qz
      ·intro f; kernel_rfl
      ·intro f f' hf; first | (simp; done) | (simp [hf 2 aS])
     simp only [List.take_succ_cons,List.take_zero,List.drop_succ_cons,List.drop_zero,Nat.reduceSub,Nat.reduceAdd,oneOp];refine ⟨fun f=>⟨rfl,fun u hu _=>?_⟩,?_⟩
     ·refine make_own (e:=48) (by (try simp only [LN]); (try simp only [newB_val,numB_val,ownB_val,shB_val,numV]); go_simp) aS
     unfold genWalk;apply Zs;apply Zi
     ·apply Piece.mk
      ·intro f v hv hr hne;simp only [List.take_succ_cons,List.take_zero,List.drop_succ_cons,List.drop_zero,Nat.reduceSub,Nat.reduceAdd]
       (try simp only [LN])
       (try simp only [newB_val,numB_val,ownB_val,shB_val,numV])
       exact qz
      ·intro f; kernel_rfl
      ·intro f f' hf; simp
     intro f u' hup hph hmade hdist;obtain ⟨hR',loS',hiS'⟩:=hmade 2 aO rfl;obtain ⟨⟨-,qo'⟩,lo24,hi24⟩:=hmade 6 aO rfl;replace qo':Own u' (f 6).1 nz6:=qo';obtain ⟨x024,y024,X024,Y024,p024,q024,u024',z024,x124,y124,X124,Y124,p124,q124,u124',z124,x224,y224,X224,Y224,p224,q224,u224',z224,⟨s0',s1',s2',s3',s4',s5'⟩,⟨t0',t1',t2',t3',t4',t5'⟩,ra',rb',rc'⟩:=sh_left hR' (fun i hi=>by rcases (show i=0\/i=1\/i=2 by omega) with rfl | rfl | rfl; exact (HX.out.2.2.shifts HBX.out.2.2).c0.s; exact (HX.out.2.2.shifts HBX.out.2.2).c1.s; exact (HX.out.2.2.shifts HBX.out.2.2).c2.s);clear hmade hdist hph;simp only [List.take_succ_cons,List.take_zero,List.drop_succ_cons,List.drop_zero,Nat.reduceSub,Nat.reduceAdd]
     (try simp only [LN])
     (try simp only [newB_val,numB_val,ownB_val,shB_val,numV])
     simp only [s0',s1',s2',s3',s4',s5',t0',t1',t2',t3',t4',t5'];clear hR' loS' hiS' s0' s1' s2' s3' s4' s5' t0' t1' t2' t3' t4' t5';generalize (f 6).1=k24 at *;clear f;have hBu':Below M8.heap.size M8 u':=Upd.below (Zb _ _) hup (fun b hb=>by cases hb);clear hup;refine effc_mem (by rfl) (fun K hK=>?_);refine late_store 48 _ _ rfl k24 #[.bool x024,.slice X024 p024 q024,.bool y024,.slice Y024 u024' z024,.bool x124,.slice X124 p124 q124,.bool y124,.slice Y124 u124' z124,.bool x224,.slice X224 p224 q224,.bool y224,.slice Y224 u224' z224] nz6 rfl rfl qo' rfl aK aK (fun wf hwf oF'=>?_);have hBf':Below M8.heap.size M8 wf:=by rw [hwf]; exact below_setAll lo24 _ _ _ hBu'
     have hkk':Keeps [k24] u' wf:=by rw [hwf]; exact keeps_setAll aS _ _ _ (Keeps.refl _ _)
     refine hK _ _ (Keeps.of_below hBf') (fun u2 hu2=>?_);clear hK K hwf;have HT':=Zh (Zi ((ratAt_keepU ra' hkk' (fun b hb=>by simp at hb; subst hb; exact ⟨_,qo',noU_12⟩)).below hu2) (Zi ((ratAt_keepU rb' hkk' (fun b hb=>by simp at hb; subst hb; exact ⟨_,qo',noU_12⟩)).below hu2) ((ratAt_keepU rc' hkk' (fun b hb=>by simp at hb; subst hb; exact ⟨_,qo',noU_12⟩)).below hu2)));have oT':=oF'.below hu2;have hB2':=hBf'.trans (hu2.mono hBf'.size);clear ra' rb' rc' hkk' oF' qo' hBf' hBu' hu2;refine effc_mem (by rfl) (fun K hK=>?_);go_simp;refine hK _ _ (Keeps.of_below hB2') (fun Us hu3=>?_);clear hK K;have HT24:=Zh (Zi (HT'.out.1.below hu3) (Zi (HT'.out.2.1.below hu3) (HT'.out.2.2.below hu3)));have oT24:=oT'.below hu3;have hB24:=hB2'.trans (hu3.mono hB2'.size);clear HT' oT' hB2' hu3;refine effc_nil ?_
     (try simp only [LN])
     clear HRc;replace o8:Own Us (w.heap.size+1) #[.int .i64 cx,.int .i64 cy,.int .i64 cz]:=o8.below hB24;replace o8c:=o8.cell;replace o8f:=o8.thaw;replace o8z:=o8.lt;replace o13:Own Us (d3) #[.int .i64 lx,.int .i64 ly,.int .i64 lz]:=o13.below hB24;replace o13c:=o13.cell;replace o13f:=o13.thaw;replace o13z:=o13.lt;replace o14:Own Us (d3+1) #[.int .i64 rx,.int .i64 ry,.int .i64 rz]:=o14.below hB24;replace o14c:=o14.cell;replace o14f:=o14.thaw;replace o14z:=o14.lt;replace qa:Own Us (ka) #[.int .i64 a0,.int .i64 a1,.int .i64 a2]:=qa.below hB24;replace qac:=qa.cell;replace qaf:=qa.thaw;replace qaz:=qa.lt;replace qt:Own Us (kt) #[.int .i64 t0,.int .i64 t1,.int .i64 t2]:=qt.below hB24;replace qtc:=qt.cell;replace qtf:=qt.thaw;replace qtz:=qt.lt;replace oV:Own Us (bV) #[.slice (some ⟨gv,0,none⟩) 6 cv,.slice Ae 6 cE]:=oV.below hB24;replace oVc:=oV.cell;replace oVf:=oV.thaw;replace oVz:=oV.lt;replace om:Own Us (bm) #[.bool s0w,.slice A0w n0w c0w,.bool t0w,.slice E0w m0w d0w,.bool s1w,.slice A1w n1w c1w,.bool t1w,.slice E1w m1w d1w,.bool s2w,.slice A2w n2w c2w,.bool t2w,.slice E2w m2w d2w,.bool s3w,.slice A3w n3w c3w,.bool t3w,.slice E3w m3w d3w,.bool s4w,.slice A4w n4w c4w,.bool t4w,.slice E4w m4w d4w,.bool s5w,.slice A5w n5w c5w,.bool t5w,.slice E5w m5w d5w]:=om.below hB24;replace omc:=om.cell;replace omf:=om.thaw;replace omz:=om.lt;replace hw:Below w.heap.size w Us:=Below.hop hw hB24;replace hz:=hw.size;replace HPA:=Zh (HPA.out.below hB24);replace HLN:=Zh (HLN.out.below hB24);replace HEI:=Zh (HEI.out.below hB24);replace HIV:=Zh (HIV.out.below hB24);replace HIQ:=Zh (HIQ.out.below hB24);replace HR0:=Zh (HR0.out.below hB24);replace HR1:=Zh (HR1.out.below hB24);replace HR2:=Zh (HR2.out.below hB24);replace HR3:=Zh (HR3.out.below hB24);replace HR4:=Zh (HR4.out.below hB24);replace HR5:=Zh (HR5.out.below hB24);replace hb8:=hb8.trans (hB24.mono hb8.size);clear hB24;have HQ240:=Zh HT24.out.1;have HQ241:=Zh HT24.out.2.1;have HQ242:=Zh HT24.out.2.2;clear HT24;have oT24c:=oT24.cell;have oT24f:=oT24.thaw;have oT24z:=oT24.lt;go_upto_region 28 with fail
     replace hb8:=hb8.trans ((show Below Us.heap.size Us (Us.alloc (.cells #[.int .i64 a0,.int .i64 a1,.int .i64 a2] 3)) from aBel).mono hb8.size);have hA':Below Us.heap.size Us (Us.alloc (.cells #[.int .i64 a0,.int .i64 a1,.int .i64 a2] 3)):=aBel;replace HPA:=Zh (HPA.out.below hA');replace HLN:=Zh (HLN.out.below hA');replace HEI:=Zh (HEI.out.below hA');replace HIV:=Zh (HIV.out.below hA');replace HIQ:=Zh (HIQ.out.below hA');replace HR0:=Zh (HR0.out.below hA');replace HR1:=Zh (HR1.out.below hA');replace HR2:=Zh (HR2.out.below hA');replace HR3:=Zh (HR3.out.below hA');replace HR4:=Zh (HR4.out.below hA');replace HR5:=Zh (HR5.out.below hA');replace HQ240:=Zh (HQ240.out.below hA');replace HQ241:=Zh (HQ241.out.below hA');replace HQ242:=Zh (HQ242.out.below hA');replace o8:Own (Us.alloc (.cells #[.int .i64 a0,.int .i64 a1,.int .i64 a2] 3)) (w.heap.size+1) #[.int .i64 cx,.int .i64 cy,.int .i64 cz]:=o8.below hA';clear o8c o8f o8z;replace o13:Own (Us.alloc (.cells #[.int .i64 a0,.int .i64 a1,.int .i64 a2] 3)) (d3) #[.int .i64 lx,.int .i64 ly,.int .i64 lz]:=o13.below hA';clear o13c o13f o13z;replace o14:Own (Us.alloc (.cells #[.int .i64 a0,.int .i64 a1,.int .i64 a2] 3)) (d3+1) #[.int .i64 rx,.int .i64 ry,.int .i64 rz]:=o14.below hA';clear o14c o14f o14z;replace qa:Own (Us.alloc (.cells #[.int .i64 a0,.int .i64 a1,.int .i64 a2] 3)) (ka) #[.int .i64 a0,.int .i64 a1,.int .i64 a2]:=qa.below hA';clear qac qaf qaz;replace qt:Own (Us.alloc (.cells #[.int .i64 a0,.int .i64 a1,.int .i64 a2] 3)) (kt) #[.int .i64 t0,.int .i64 t1,.int .i64 t2]:=qt.below hA';clear qtc qtf qtz;replace oV:Own (Us.alloc (.cells #[.int .i64 a0,.int .i64 a1,.int .i64 a2] 3)) (bV) #[.slice (some ⟨gv,0,none⟩) 6 cv,.slice Ae 6 cE]:=oV.below hA';clear oVc oVf oVz;replace om:Own (Us.alloc (.cells #[.int .i64 a0,.int .i64 a1,.int .i64 a2] 3)) (bm) #[.bool s0w,.slice A0w n0w c0w,.bool t0w,.slice E0w m0w d0w,.bool s1w,.slice A1w n1w c1w,.bool t1w,.slice E1w m1w d1w,.bool s2w,.slice A2w n2w c2w,.bool t2w,.slice E2w m2w d2w,.bool s3w,.slice A3w n3w c3w,.bool t3w,.slice E3w m3w d3w,.bool s4w,.slice A4w n4w c4w,.bool t4w,.slice E4w m4w d4w,.bool s5w,.slice A5w n5w c5w,.bool t5w,.slice E5w m5w d5w]:=om.below hA';clear omc omf omz;replace oT24:Own (Us.alloc (.cells #[.int .i64 a0,.int .i64 a1,.int .i64 a2] 3)) (k24) #[.bool x024,.slice X024 p024 q024,.bool y024,.slice Y024 u024' z024,.bool x124,.slice X124 p124 q124,.bool y124,.slice Y124 u124' z124,.bool x224,.slice X224 p224 q224,.bool y224,.slice Y224 u224' z224]:=oT24.below hA';clear oT24c oT24f oT24z;have oI:Own (Us.alloc (.cells #[.int .i64 a0,.int .i64 a1,.int .i64 a2] 3)) (Us.heap.size) #[.int .i64 a0,.int .i64 a1,.int .i64 a2]:=Own.new rfl;replace hw:Below w.heap.size w (Us.alloc (.cells #[.int .i64 a0,.int .i64 a1,.int .i64 a2] 3)):=hw.trans (hA'.mono hw.size);have hsz':(Us.alloc (.cells #[.int .i64 a0,.int .i64 a1,.int .i64 a2] 3)).heap.size=Us.heap.size+1:=by simp [World.size_alloc]
     clear hA';generalize Us.alloc (.cells #[.int .i64 a0,.int .i64 a1,.int .i64 a2] 3)=U3 at *;have o8c:=o8.cell;have o8f:=o8.thaw;have o8z:=o8.lt;have o13c:=o13.cell;have o13f:=o13.thaw;have o13z:=o13.lt;have o14c:=o14.cell;have o14f:=o14.thaw;have o14z:=o14.lt;have qac:=qa.cell;have qaf:=qa.thaw;have qaz:=qa.lt;have qtc:=qt.cell;have qtf:=qt.thaw;have qtz:=qt.lt;have oVc:=oV.cell;have oVf:=oV.thaw;have oVz:=oV.lt;have omc:=om.cell;have omf:=om.thaw;have omz:=om.lt;have oT24c:=oT24.cell;have oT24f:=oT24.thaw;have oT24z:=oT24.lt;have oIc:=oI.cell;have oIf:=oI.thaw;have oIz:=oI.lt;replace hz:=hw.size;obtain ⟨bI,hkbI⟩:=Zx (Us.heap.size);rw [hkbI] at oI oIc oIf oIz hsz' ⊢;clear hkbI;clear hsz';go_wp2;go_loopw [175] (fun iv wr=>∃ i:Nat,i<=3/\iv = .int .i64 i/\Below U3.heap.size U3 wr) (fun iv _=>3 - (intOf iv).toNat)
     case atStart=>exact ⟨0,aO,rfl,Zb _ _⟩
     case round =>
      obtain ⟨i,hi,rfl,hb9⟩:=hrel;have hz9:=hb9.size
      by_cases hi3:i<3
      ·have hii:(i:Int)<3:=aO
       have oW24:=oT24.below hb9;obtain ⟨ss,ts',As,Es,ns,cs,ms',ds,⟨c0s,c1s,c2s,c3s⟩,hJs⟩:=rat3_at (q:=shiftQ x ⟨cx,cy,cz⟩) oW24 (HQ240.out.below hb9) (HQ241.out.below hb9) (HQ242.out.below hb9) hi3;have hkw:=oW24.lt;obtain ⟨⟨ps,qs⟩,hps⟩:=Zx (shiftQ x ⟨cx,cy,cz⟩ i);have hgs:=HX.out.2.2.sq HBX.out.2.2 i;obtain ⟨zi,hzi⟩:=Zx (nI ⟨a0,a1,a2⟩ i);have eI:=int3_at (n:=⟨a0,a1,a2⟩) (oI.below hb9) hi3;have hbi:bestQ xs P i (cornersL ⟨lx,ly,lz⟩ ⟨rx,ry,rz⟩)=zi:=by rw [<- hzi]; exact by_nI (f:=fun i=>bestQ xs P i (cornersL ⟨lx,ly,lz⟩ ⟨rx,ry,rz⟩)) HAQ.out.1 HAQ.out.2.1 HAQ.out.2.2 hi3
       have hzb:=best_bd HUZ.out HPC.out HBX.out.1.1 HBX.out.1.2.1 HBX.out.1.2.2 i;have hcm:=bd_cmp HUZ.out HBX.out.2.1 HX.out.2.2 HGQ.out.rng i;rw [hps] at hJs hgs hcm;rw [hbi] at hzb hcm;rw [hzi] at eI;obtain ⟨zu,hzu⟩:=Zx (100*zi);obtain ⟨zl,hzl⟩:=Zx (-100*zi);rw [hzu,hzl] at hcm;obtain ⟨cu,hcu⟩:=Zx (cmpQ (ps,qs) (zu,1));obtain ⟨cl,hcl⟩:=Zx (cmpQ (ps,qs) (zl,1));rw [hcu,hcl] at hcm;have hcur:=ordI_range (ps*1) (zu*qs);rw [show ordI (ps*1) (zu*qs)=cu from hcu] at hcur;have hdl:decide (cl<0)=false:=decide_eq_false aO;have HCL:RowKit.Hid (Value.int IntKind.i64 (ordI (ps*1) (zl*qs)) = .int .i64 cl):=Zh (congrArg _ hcl);have HJS:=Zh hJs;have HGS:=Zh hgs;have HZU:RowKit.Hid ((-9223372036854775808<=zu/\zu<=9223372036854775807)/\(-9223372036854775808<=zl/\zl<=9223372036854775807)/\fits zu=true/\fits zl=true/\fits 1=true):=Zh ⟨aO,aO,fits_small aO,fits_small aO,fits_small aO⟩;have hw1:wrap64 (100*zi)=zu:=by unfold wrap64; omega
       have hw2:wrap64 (-100*zi)=zl:=by unfold wrap64; omega
       have hcu2:cu=-1\/cu=0:=aO
       have HCU:=Zh hcu;have HC2:=Zh hcu2;clear hps hzi hbi hzb hcm hcu hcl hcur hJs hgs hcu2 hzu hzl oW24;go_upto_region 30 with fail
       have H2:=HC2.out;clear HC2;rcases H2 with rfl | rfl
       ·refine region_gen (T:=[]) [.make 5 [] (ratVB [] wr.heap.size zu 1),.need 6 [5],.make 14 [] (ratVB [] wr.heap.size zl 1),.need 15 [14]] 18 0 60 (fun _ _=>True) (fun _ _ _ _ _=>trivial) trivial aK aK (by rfl) ?_;unfold genWalk;apply Zs;apply Zi
        ·apply Piece.mk
         ·intro f v hv hr hne;simp only [List.take_succ_cons,List.take_zero,List.drop_succ_cons,List.drop_zero,Nat.reduceSub,Nat.reduceAdd];have f0s:=fun y:Later [] wr v=>(y.cell k24 (i*4) hkw aS).trans c0s
          have f1s:=fun y:Later [] wr v=>(y.cell k24 (i*4+1) hkw aS).trans c1s
          have f2s:=fun y:Later [] wr v=>(y.cell k24 (i*4+2) hkw aS).trans c2s
          have f3s:=fun y:Later [] wr v=>(y.cell k24 (i*4+3) hkw aS).trans c3s
          exact qz
         ·intro f; kernel_rfl
         ·intro f f' hf; kernel_rfl
        simp only [List.take_succ_cons,List.take_zero,List.drop_succ_cons,List.drop_zero,Nat.reduceSub,Nat.reduceAdd,oneOp];refine ⟨fun f=>⟨by first | rfl | kernel_rfl,fun u hu _=>?_⟩,?_⟩
        ·refine make_call (f:=36) (args:=#[.int .i64 zu]) (by (try simp only [LN]); (try simp only [newB_val,numB_val,ownB_val,valB_val,ratB_val,ratVB_val,numV,ratV]); go_simp) ?_;have q:=ratio_Int (w:=u) zu HZU.out.1.1 HZU.out.1.2;refine q.mono ?_;rintro e wx ⟨⟨b1,b2,rfl,q1,q2,q3,q4,q5,q6⟩,hbx⟩;exact ⟨(b1,b2),rfl,q3,q4,hbx,aS,aS,q1,q2,Zm hu.1 q5,q6⟩
        unfold genWalk;apply Zs;apply Zi
        ·apply Piece.mk
         ·intro f v hv hr hne;simp only [List.take_succ_cons,List.take_zero,List.drop_succ_cons,List.drop_zero,Nat.reduceSub,Nat.reduceAdd]
          (try simp only [LN])
          (try simp only [newB_val,numB_val,ownB_val,valB_val,ratB_val,ratVB_val,numV,ratV])
          exact qz
         ·intro f; kernel_rfl
         ·intro f f' hf; simp
        unfold genWalk;apply Zs;apply Zi
        ·apply Piece.mk
         ·intro f v hv hr hne;simp only [List.take_succ_cons,List.take_zero,List.drop_succ_cons,List.drop_zero,Nat.reduceSub,Nat.reduceAdd]
          (try simp only [LN])
          (try simp only [newB_val,numB_val,ownB_val,valB_val,ratB_val,ratVB_val,numV,ratV])
          have k1:=(show (ratVB [] wr.heap.size zu 1).R (f 5) v from hr 5 aS).2.2;have f0s:=fun y:Later [] wr v=>(y.cell k24 (i*4) hkw aS).trans c0s
          have f1s:=fun y:Later [] wr v=>(y.cell k24 (i*4+1) hkw aS).trans c1s
          have f2s:=fun y:Later [] wr v=>(y.cell k24 (i*4+2) hkw aS).trans c2s
          have f3s:=fun y:Later [] wr v=>(y.cell k24 (i*4+3) hkw aS).trans c3s
          have cC:=fun y:Later [] wr v=>callv (ratio_Cmp (w:=y.u) (HJS.out.keeps y.h) (ratAt_of (k1.1.below y.g) (k1.2.1.below y.g) HZU.out.2.2.1 HZU.out.2.2.2.2) HGS.out.1 (good_one zu)) (show Value.int IntKind.i64 (ordI (ps*1) (zu*qs)) = .int .i64 (-1) from congrArg _ HCU.out)
          repeat (go_big_quiet_step ((go_at_call 35; with_reducible exact lateB (cC _))))
          refine wpQuiet_nil ?_;exact rfl
         ·intro f; kernel_rfl
         ·intro f f' hf; first | (simp; done) | (simp [hf 5 aS])
        simp only [List.take_succ_cons,List.take_zero,List.drop_succ_cons,List.drop_zero,Nat.reduceSub,Nat.reduceAdd,oneOp];refine ⟨fun f=>⟨by first | rfl | kernel_rfl,fun u hu _=>?_⟩,?_⟩
        ·refine make_call (f:=36) (args:=#[.int .i64 zl]) (by (try simp only [LN]); (try simp only [newB_val,numB_val,ownB_val,valB_val,ratB_val,ratVB_val,numV,ratV]); go_simp) ?_;have q:=ratio_Int (w:=u) zl HZU.out.2.1.1 HZU.out.2.1.2;refine q.mono ?_;rintro e wx ⟨⟨b1,b2,rfl,q1,q2,q3,q4,q5,q6⟩,hbx⟩;exact ⟨(b1,b2),rfl,q3,q4,hbx,aS,aS,q1,q2,Zm hu.1 q5,q6⟩
        unfold genWalk;apply Zs;apply Zi
        ·apply Piece.mk
         ·intro f v hv hr hne;simp only [List.take_succ_cons,List.take_zero,List.drop_succ_cons,List.drop_zero,Nat.reduceSub,Nat.reduceAdd]
          (try simp only [LN])
          (try simp only [newB_val,numB_val,ownB_val,valB_val,ratB_val,ratVB_val,numV,ratV])
          exact qz
         ·intro f; kernel_rfl
         ·intro f f' hf; simp
        unfold genWalk;apply Zs;apply Zi
        ·apply Piece.mk
         ·intro f v hv hr hne;simp only [List.take_succ_cons,List.take_zero,List.drop_succ_cons,List.drop_zero,Nat.reduceSub,Nat.reduceAdd]
          (try simp only [LN])
          (try simp only [newB_val,numB_val,ownB_val,valB_val,ratB_val,ratVB_val,numV,ratV])
          have k1:=(show (ratVB [] wr.heap.size zl 1).R (f 14) v from hr 14 aS).2.2;have cC:=fun y:Later [] wr v=>callv (ratio_Cmp (w:=y.u) (HJS.out.keeps y.h) (ratAt_of (k1.1.below y.g) (k1.2.1.below y.g) HZU.out.2.2.2.1 HZU.out.2.2.2.2) HGS.out.1 (good_one zl)) HCL.out
          repeat (go_big_quiet_step ((go_at_call 35; with_reducible exact lateB (cC _))))
          refine wpQuiet_nil ?_;exact rfl
         ·intro f; kernel_rfl
         ·intro f f' hf; first | (simp; done) | (simp [hf 14 aS])
        intro f u' hup hph hmade hdist;clear hmade hdist hph;simp only [List.take_succ_cons,List.take_zero,List.drop_succ_cons,List.drop_zero,Nat.reduceSub,Nat.reduceAdd]
        (try simp only [LN])
        (try simp only [newB_val,numB_val,ownB_val,valB_val,ratB_val,ratVB_val,numV,ratV])
        have hbu:Below wr.heap.size wr u':=Upd.below (Zb _ _) hup (fun b hb=>by cases hb);refine effc_nil ?_
        (try simp only [LN])
        have hbf:=hb9.trans (hbu.mono hb9.size);clear hup hbu;go_wp2;go_roundw
        case rel=>exact ⟨i+1,aO,by go_num,hbf⟩
        case measure=>simp [intOf]; omega
       ·refine region_gen (T:=[]) [.make 5 [] (ratVB [] wr.heap.size zu 1),.need 6 [5],.make 14 [] (ratVB [] wr.heap.size zl 1),.need 15 [14]] 18 0 60 (fun _ _=>True) (fun _ _ _ _ _=>trivial) trivial aK aK (by rfl) ?_;unfold genWalk;apply Zs;apply Zi
        ·apply Piece.mk
         ·intro f v hv hr hne;simp only [List.take_succ_cons,List.take_zero,List.drop_succ_cons,List.drop_zero,Nat.reduceSub,Nat.reduceAdd];have f0s:=fun y:Later [] wr v=>(y.cell k24 (i*4) hkw aS).trans c0s
          have f1s:=fun y:Later [] wr v=>(y.cell k24 (i*4+1) hkw aS).trans c1s
          have f2s:=fun y:Later [] wr v=>(y.cell k24 (i*4+2) hkw aS).trans c2s
          have f3s:=fun y:Later [] wr v=>(y.cell k24 (i*4+3) hkw aS).trans c3s
          exact qz
         ·intro f; kernel_rfl
         ·intro f f' hf; kernel_rfl
        simp only [List.take_succ_cons,List.take_zero,List.drop_succ_cons,List.drop_zero,Nat.reduceSub,Nat.reduceAdd,oneOp];refine ⟨fun f=>⟨by first | rfl | kernel_rfl,fun u hu _=>?_⟩,?_⟩
        ·refine make_call (f:=36) (args:=#[.int .i64 zu]) (by (try simp only [LN]); (try simp only [newB_val,numB_val,ownB_val,valB_val,ratB_val,ratVB_val,numV,ratV]); go_simp) ?_;have q:=ratio_Int (w:=u) zu HZU.out.1.1 HZU.out.1.2;refine q.mono ?_;rintro e wx ⟨⟨b1,b2,rfl,q1,q2,q3,q4,q5,q6⟩,hbx⟩;exact ⟨(b1,b2),rfl,q3,q4,hbx,aS,aS,q1,q2,Zm hu.1 q5,q6⟩
        unfold genWalk;apply Zs;apply Zi
        ·apply Piece.mk
         ·intro f v hv hr hne;simp only [List.take_succ_cons,List.take_zero,List.drop_succ_cons,List.drop_zero,Nat.reduceSub,Nat.reduceAdd]
          (try simp only [LN])
          (try simp only [newB_val,numB_val,ownB_val,valB_val,ratB_val,ratVB_val,numV,ratV])
          exact qz
         ·intro f; kernel_rfl
         ·intro f f' hf; simp
        unfold genWalk;apply Zs;apply Zi
        ·apply Piece.mk
         ·intro f v hv hr hne;simp only [List.take_succ_cons,List.take_zero,List.drop_succ_cons,List.drop_zero,Nat.reduceSub,Nat.reduceAdd]
          (try simp only [LN])
          (try simp only [newB_val,numB_val,ownB_val,valB_val,ratB_val,ratVB_val,numV,ratV])
          have k1:=(show (ratVB [] wr.heap.size zu 1).R (f 5) v from hr 5 aS).2.2;have f0s:=fun y:Later [] wr v=>(y.cell k24 (i*4) hkw aS).trans c0s
          have f1s:=fun y:Later [] wr v=>(y.cell k24 (i*4+1) hkw aS).trans c1s
          have f2s:=fun y:Later [] wr v=>(y.cell k24 (i*4+2) hkw aS).trans c2s
          have f3s:=fun y:Later [] wr v=>(y.cell k24 (i*4+3) hkw aS).trans c3s
          have cC:=fun y:Later [] wr v=>callv (ratio_Cmp (w:=y.u) (HJS.out.keeps y.h) (ratAt_of (k1.1.below y.g) (k1.2.1.below y.g) HZU.out.2.2.1 HZU.out.2.2.2.2) HGS.out.1 (good_one zu)) (show Value.int IntKind.i64 (ordI (ps*1) (zu*qs)) = .int .i64 (0) from congrArg _ HCU.out)
          repeat (go_big_quiet_step ((go_at_call 35; with_reducible exact lateB (cC _))))
          refine wpQuiet_nil ?_;exact rfl
         ·intro f; kernel_rfl
         ·intro f f' hf; first | (simp; done) | (simp [hf 5 aS])
        simp only [List.take_succ_cons,List.take_zero,List.drop_succ_cons,List.drop_zero,Nat.reduceSub,Nat.reduceAdd,oneOp];refine ⟨fun f=>⟨by first | rfl | kernel_rfl,fun u hu _=>?_⟩,?_⟩
        ·refine make_call (f:=36) (args:=#[.int .i64 zl]) (by (try simp only [LN]); (try simp only [newB_val,numB_val,ownB_val,valB_val,ratB_val,ratVB_val,numV,ratV]); go_simp) ?_;have q:=ratio_Int (w:=u) zl HZU.out.2.1.1 HZU.out.2.1.2;refine q.mono ?_;rintro e wx ⟨⟨b1,b2,rfl,q1,q2,q3,q4,q5,q6⟩,hbx⟩;exact ⟨(b1,b2),rfl,q3,q4,hbx,aS,aS,q1,q2,Zm hu.1 q5,q6⟩
        unfold genWalk;apply Zs;apply Zi
        ·apply Piece.mk
         ·intro f v hv hr hne;simp only [List.take_succ_cons,List.take_zero,List.drop_succ_cons,List.drop_zero,Nat.reduceSub,Nat.reduceAdd]
          (try simp only [LN])
          (try simp only [newB_val,numB_val,ownB_val,valB_val,ratB_val,ratVB_val,numV,ratV])
          exact qz
         ·intro f; kernel_rfl
         ·intro f f' hf; simp
        unfold genWalk;apply Zs;apply Zi
        ·apply Piece.mk
         ·intro f v hv hr hne;simp only [List.take_succ_cons,List.take_zero,List.drop_succ_cons,List.drop_zero,Nat.reduceSub,Nat.reduceAdd]
          (try simp only [LN])
          (try simp only [newB_val,numB_val,ownB_val,valB_val,ratB_val,ratVB_val,numV,ratV])
          have k1:=(show (ratVB [] wr.heap.size zl 1).R (f 14) v from hr 14 aS).2.2;have cC:=fun y:Later [] wr v=>callv (ratio_Cmp (w:=y.u) (HJS.out.keeps y.h) (ratAt_of (k1.1.below y.g) (k1.2.1.below y.g) HZU.out.2.2.2.1 HZU.out.2.2.2.2) HGS.out.1 (good_one zl)) HCL.out
          repeat (go_big_quiet_step ((go_at_call 35; with_reducible exact lateB (cC _))))
          refine wpQuiet_nil ?_;exact rfl
         ·intro f; kernel_rfl
         ·intro f f' hf; first | (simp; done) | (simp [hf 14 aS])
        intro f u' hup hph hmade hdist;clear hmade hdist hph;simp only [List.take_succ_cons,List.take_zero,List.drop_succ_cons,List.drop_zero,Nat.reduceSub,Nat.reduceAdd]
        (try simp only [LN])
        (try simp only [newB_val,numB_val,ownB_val,valB_val,ratB_val,ratVB_val,numV,ratV])
        have hbu:Below wr.heap.size wr u':=Upd.below (Zb _ _) hup (fun b hb=>by cases hb);refine effc_nil ?_
        (try simp only [LN])
        have hbf:=hb9.trans (hbu.mono hb9.size);clear hup hbu;go_wp2;go_roundw
        case rel=>exact ⟨i+1,aO,by go_num,hbf⟩
        case measure=>simp [intOf]; omega
      ·obtain rfl:i=3:=aO
       replace hb8:=hb8.trans (hb9.mono hb8.size);go_wp2;go_roundw
       case rel=>exact ⟨q+1,aO,by go_num,hb8⟩
       case measure=>simp [intOf]; omega
    ·obtain rfl:q=2:=aO
     skip;clear hb8 hz8;go_upto_region 34 with fail
     generalize ((2:Nat):Int)=K2;obtain ⟨x,hxf,hxm⟩:=GN.out.x;have HX:=Zh (Zi hxf (Zi GN.out.mot hxm));clear hxf hxm;refine region_flat 0 aK ?_;apply Zs;refine ⟨fun v hv hne=>?_,fun u hu=>?_⟩
     ·simp only [List.take_zero];refine wpQuiet_nil ?_;exact rfl
     simp only [List.drop_zero];replace o8:Own u (w.heap.size+1) #[.int .i64 cx,.int .i64 cy,.int .i64 cz]:=o8.below hu;replace o8c:=o8.cell;replace o8f:=o8.thaw;replace o8z:=o8.lt;replace o13:Own u (d3) #[.int .i64 lx,.int .i64 ly,.int .i64 lz]:=o13.below hu;replace o13c:=o13.cell;replace o13f:=o13.thaw;replace o13z:=o13.lt;replace o14:Own u (d3+1) #[.int .i64 rx,.int .i64 ry,.int .i64 rz]:=o14.below hu;replace o14c:=o14.cell;replace o14f:=o14.thaw;replace o14z:=o14.lt;replace qa:Own u (ka) #[.int .i64 a0,.int .i64 a1,.int .i64 a2]:=qa.below hu;replace qac:=qa.cell;replace qaf:=qa.thaw;replace qaz:=qa.lt;replace qt:Own u (kt) #[.int .i64 t0,.int .i64 t1,.int .i64 t2]:=qt.below hu;replace qtc:=qt.cell;replace qtf:=qt.thaw;replace qtz:=qt.lt;replace oV:Own u (bV) #[.slice (some ⟨gv,0,none⟩) 6 cv,.slice Ae 6 cE]:=oV.below hu;replace oVc:=oV.cell;replace oVf:=oV.thaw;replace oVz:=oV.lt;replace hw:Below w.heap.size w u:=Below.hop hw hu;replace hz:=hw.size;replace HPA:=Zh (HPA.out.below hu);replace HLN:=Zh (HLN.out.below hu);replace HEI:=Zh (HEI.out.below hu);replace HIV:=Zh (HIV.out.below hu);clear hu;refine fl ?_;refine fl ?_;refine flat_mem (by rfl) (fun K hK=>?_)
     (try simp only [LN])
     go_simp;refine Zd (plc_Motion (L:=N) (b:=endL P e0) (x:=x) cgN cE HLN.out aO HEI.out (fun _=>HX.out.1)) ?_;rintro e m9 ⟨⟨s0y,t0y,A0y,E0y,n0y,c0y,m0y,d0y,s1y,t1y,A1y,E1y,n1y,c1y,m1y,d1y,s2y,t2y,A2y,E2y,n2y,c2y,m2y,d2y,s3y,t3y,A3y,E3y,n3y,c3y,m3y,d3y,s4y,t4y,A4y,E4y,n4y,c4y,m4y,d4y,s5y,t5y,A5y,E5y,n5y,c5y,m5y,d5y,rfl,hqm⟩,hbx⟩;obtain ⟨r0,r1,r2,r3,r4,r5⟩:=hqm HX.out.2.1;rw [HX.out.2.1];refine ⟨_,rfl,?_⟩;refine hK _ _ ?_;clear hK K hqm;have HR0:=Zh r0;have HR1:=Zh r1;have HR2:=Zh r2;have HR3:=Zh r3;have HR4:=Zh r4;have HR5:=Zh r5;clear r0 r1 r2 r3 r4 r5;replace o8:Own m9 (w.heap.size+1) #[.int .i64 cx,.int .i64 cy,.int .i64 cz]:=o8.below hbx;replace o8c:=o8.cell;replace o8f:=o8.thaw;replace o8z:=o8.lt;replace o13:Own m9 (d3) #[.int .i64 lx,.int .i64 ly,.int .i64 lz]:=o13.below hbx;replace o13c:=o13.cell;replace o13f:=o13.thaw;replace o13z:=o13.lt;replace o14:Own m9 (d3+1) #[.int .i64 rx,.int .i64 ry,.int .i64 rz]:=o14.below hbx;replace o14c:=o14.cell;replace o14f:=o14.thaw;replace o14z:=o14.lt;replace qa:Own m9 (ka) #[.int .i64 a0,.int .i64 a1,.int .i64 a2]:=qa.below hbx;replace qac:=qa.cell;replace qaf:=qa.thaw;replace qaz:=qa.lt;replace qt:Own m9 (kt) #[.int .i64 t0,.int .i64 t1,.int .i64 t2]:=qt.below hbx;replace qtc:=qt.cell;replace qtf:=qt.thaw;replace qtz:=qt.lt;replace oV:Own m9 (bV) #[.slice (some ⟨gv,0,none⟩) 6 cv,.slice Ae 6 cE]:=oV.below hbx;replace oVc:=oV.cell;replace oVf:=oV.thaw;replace oVz:=oV.lt;replace hw:Below w.heap.size w m9:=Below.hop hw hbx;replace hz:=hw.size;replace HPA:=Zh (HPA.out.below hbx);replace HLN:=Zh (HLN.out.below hbx);replace HEI:=Zh (HEI.out.below hbx);replace HIV:=Zh (HIV.out.below hbx);clear hbx;refine fl ?_;refine fl ?_;refine fl ?_;refine fl ?_;have oZ:Own (m9.alloc (.cells nz12 50)) m9.heap.size nz12:=Own.new rfl;have hAz:Below m9.heap.size m9 (m9.alloc (.cells nz12 50)):=(Zb _ _).alloc (Zr _) _;refine flat_mem (by rfl) (fun K hK=>?_)
     (try simp only [LN])
     refine late_store 50 _ _ rfl m9.heap.size #[.bool s0y,.slice A0y n0y c0y,.bool t0y,.slice E0y m0y d0y,.bool s1y,.slice A1y n1y c1y,.bool t1y,.slice E1y m1y d1y,.bool s2y,.slice A2y n2y c2y,.bool t2y,.slice E2y m2y d2y,.bool s3y,.slice A3y n3y c3y,.bool t3y,.slice E3y m3y d3y,.bool s4y,.slice A4y n4y c4y,.bool t4y,.slice E4y m4y d4y,.bool s5y,.slice A5y n5y c5y,.bool t5y,.slice E5y m5y d5y] nz12 rfl rfl oZ rfl aK aK (fun M9 hwf on=>?_);refine hK _ _ ?_;clear hK K;have hbx:Below m9.heap.size m9 M9:=by rw [hwf]; exact below_setAll (Zr _) _ _ _ hAz
     obtain ⟨bn,hbm⟩:=Zx (m9.heap.size);clear hwf oZ hAz;replace o8:Own M9 (w.heap.size+1) #[.int .i64 cx,.int .i64 cy,.int .i64 cz]:=o8.below hbx;replace o8c:=o8.cell;replace o8f:=o8.thaw;replace o8z:=o8.lt;replace o13:Own M9 (d3) #[.int .i64 lx,.int .i64 ly,.int .i64 lz]:=o13.below hbx;replace o13c:=o13.cell;replace o13f:=o13.thaw;replace o13z:=o13.lt;replace o14:Own M9 (d3+1) #[.int .i64 rx,.int .i64 ry,.int .i64 rz]:=o14.below hbx;replace o14c:=o14.cell;replace o14f:=o14.thaw;replace o14z:=o14.lt;replace qa:Own M9 (ka) #[.int .i64 a0,.int .i64 a1,.int .i64 a2]:=qa.below hbx;replace qac:=qa.cell;replace qaf:=qa.thaw;replace qaz:=qa.lt;replace qt:Own M9 (kt) #[.int .i64 t0,.int .i64 t1,.int .i64 t2]:=qt.below hbx;replace qtc:=qt.cell;replace qtf:=qt.thaw;replace qtz:=qt.lt;replace oV:Own M9 (bV) #[.slice (some ⟨gv,0,none⟩) 6 cv,.slice Ae 6 cE]:=oV.below hbx;replace oVc:=oV.cell;replace oVf:=oV.thaw;replace oVz:=oV.lt;replace hw:Below w.heap.size w M9:=Below.hop hw hbx;replace hz:=hw.size;replace HPA:=Zh (HPA.out.below hbx);replace HLN:=Zh (HLN.out.below hbx);replace HEI:=Zh (HEI.out.below hbx);replace HIV:=Zh (HIV.out.below hbx);replace HR0:=Zh (HR0.out.below hbx);replace HR1:=Zh (HR1.out.below hbx);replace HR2:=Zh (HR2.out.below hbx);replace HR3:=Zh (HR3.out.below hbx);replace HR4:=Zh (HR4.out.below hbx);replace HR5:=Zh (HR5.out.below hbx);clear hbx;rw [hbm] at on ⊢;clear hbm;have onz:=on.lt;refine fl ?_;refine flat_nil ?_
     (try simp only [LN])
     have onc:=on.cell;have onf:=on.thaw;go_upto_region 35 with fail
     have HRc:=Zh (Zi HR0.out (Zi HR1.out (Zi HR2.out (Zi HR3.out (Zi HR4.out HR5.out)))));refine region_genP (T:=[]) [.make 2 [] (shB M9.heap.size (shiftQ x ⟨cx,cy,cz⟩)),.need 3 [2,1000],.make 6 [] (ownB [] nz6 (fun p=>.pointer (some ⟨p,0,none⟩)))] 7 0 60 (fun _ _=>True) (fun _ _ _ _ _=>trivial) trivial aK aK (by rfl) ?_;unfold genWalk;apply Zs;apply Zi
     ·apply Piece.mk
      ·intro f v hv hr hne;simp only [List.take_succ_cons,List.take_zero,List.drop_succ_cons,List.drop_zero,Nat.reduceSub,Nat.reduceAdd];have d8:=fun y=>(o8.later (v:=v) (T:=[]) aS y).cell
       refine quiet_load 50 _ rfl (by rfl) bn 0 [.bool s0y,.slice A0y n0y c0y,.bool t0y,.slice E0y m0y d0y,.bool s1y,.slice A1y n1y c1y,.bool t1y,.slice E1y m1y d1y,.bool s2y,.slice A2y n2y c2y,.bool t2y,.slice E2y m2y d2y,.bool s3y,.slice A3y n3y c3y,.bool t3y,.slice E3y m3y d3y,.bool s4y,.slice A4y n4y c4y,.bool t4y,.slice E4y m4y d4y,.bool s5y,.slice A5y n5y c5y,.bool t5y,.slice E5y m5y d5y] _ rfl (fun u hu=>?_) Tryz.underlying50 rfl aK ?_
       ·obtain ⟨y,rfl⟩:=hu;exact (on.later (v:=v) (T:=[]) aS y).range
       (try simp only [LN])
       exact qz
      ·intro f; kernel_rfl
      ·intro f f' hf; kernel_rfl
     simp only [List.take_succ_cons,List.take_zero,List.drop_succ_cons,List.drop_zero,Nat.reduceSub,Nat.reduceAdd,oneOp];refine ⟨fun f=>⟨rfl,fun u hu _=>?_⟩,?_⟩
     ·refine make_call (f:=29) (args:=#[.agg #[.bool s0y,.slice A0y n0y c0y,.bool t0y,.slice E0y m0y d0y,.bool s1y,.slice A1y n1y c1y,.bool t1y,.slice E1y m1y d1y,.bool s2y,.slice A2y n2y c2y,.bool t2y,.slice E2y m2y d2y,.bool s3y,.slice A3y n3y c3y,.bool t3y,.slice E3y m3y d3y,.bool s4y,.slice A4y n4y c4y,.bool t4y,.slice E4y m4y d4y,.bool s5y,.slice A5y n5y c5y,.bool t5y,.slice E5y m5y d5y],vV cx cy cz]) (by (try simp only [LN]); (try simp only [newB_val,numB_val,ownB_val,shB_val,numV]); go_simp) ?_;refine (plc_ShiftB (w:=u) (x:=x) (HRc.out.1.keeps hu) (HRc.out.2.1.keeps hu) (HRc.out.2.2.1.keeps hu) (HRc.out.2.2.2.1.keeps hu) (HRc.out.2.2.2.2.1.keeps hu) (HRc.out.2.2.2.2.2.keeps hu) cx cy cz HBX.out.2.2 (HX.out.2.2.shifts HBX.out.2.2)).mono ?_;intro e wx q;obtain ⟨w'',rfl,p,e1,e2,e3,e4,e5⟩:=sh_make (B:=M9.heap.size) q hu.1;exact ⟨p,by rw [e1],e2,e3,e4,e5⟩
     unfold genWalk;apply Zs;apply Zi
     ·apply Piece.mk
      ·intro f v hv hr hne;simp only [List.take_succ_cons,List.take_zero,List.drop_succ_cons,List.drop_zero,Nat.reduceSub,Nat.reduceAdd]
       (try simp only [LN])
       (try simp only [newB_val,numB_val,ownB_val,shB_val,numV])
       exact qz
      ·intro f; kernel_rfl
      ·intro f f' hf; simp
     unfold genWalk;apply Zs;apply Zi
     ·apply Piece.mk
      ·intro f v hv hr hne;simp only [List.take_succ_cons,List.take_zero,List.drop_succ_cons,List.drop_zero,Nat.reduceSub,Nat.reduceAdd]
       (try simp only [LN])
       (try simp only [newB_val,numB_val,ownB_val,shB_val,numV])
       exact qz
      ·intro f; kernel_rfl
      ·intro f f' hf; first | (simp; done) | (simp [hf 2 aS])
     simp only [List.take_succ_cons,List.take_zero,List.drop_succ_cons,List.drop_zero,Nat.reduceSub,Nat.reduceAdd,oneOp];refine ⟨fun f=>⟨rfl,fun u hu _=>?_⟩,?_⟩
     ·refine make_own (e:=48) (by (try simp only [LN]); (try simp only [newB_val,numB_val,ownB_val,shB_val,numV]); go_simp) aS
     unfold genWalk;apply Zs;apply Zi
     ·apply Piece.mk
      ·intro f v hv hr hne;simp only [List.take_succ_cons,List.take_zero,List.drop_succ_cons,List.drop_zero,Nat.reduceSub,Nat.reduceAdd]
       (try simp only [LN])
       (try simp only [newB_val,numB_val,ownB_val,shB_val,numV])
       exact qz
      ·intro f; kernel_rfl
      ·intro f f' hf; simp
     intro f u' hup hph hmade hdist;obtain ⟨hR',loS',hiS'⟩:=hmade 2 aO rfl;obtain ⟨⟨-,qo'⟩,lo35,hi35⟩:=hmade 6 aO rfl;replace qo':Own u' (f 6).1 nz6:=qo';obtain ⟨x035,y035,X035,Y035,p035,q035,u035',z035,x135,y135,X135,Y135,p135,q135,u135',z135,x235,y235,X235,Y235,p235,q235,u235',z235,⟨s0',s1',s2',s3',s4',s5'⟩,⟨t0',t1',t2',t3',t4',t5'⟩,ra',rb',rc'⟩:=sh_left hR' (fun i hi=>by rcases (show i=0\/i=1\/i=2 by omega) with rfl | rfl | rfl; exact (HX.out.2.2.shifts HBX.out.2.2).c0.s; exact (HX.out.2.2.shifts HBX.out.2.2).c1.s; exact (HX.out.2.2.shifts HBX.out.2.2).c2.s);clear hmade hdist hph;simp only [List.take_succ_cons,List.take_zero,List.drop_succ_cons,List.drop_zero,Nat.reduceSub,Nat.reduceAdd]
     (try simp only [LN])
     (try simp only [newB_val,numB_val,ownB_val,shB_val,numV])
     simp only [s0',s1',s2',s3',s4',s5',t0',t1',t2',t3',t4',t5'];clear hR' loS' hiS' s0' s1' s2' s3' s4' s5' t0' t1' t2' t3' t4' t5';generalize (f 6).1=k35 at *;clear f;have hBu':Below M9.heap.size M9 u':=Upd.below (Zb _ _) hup (fun b hb=>by cases hb);clear hup;refine effc_mem (by rfl) (fun K hK=>?_);refine late_store 48 _ _ rfl k35 #[.bool x035,.slice X035 p035 q035,.bool y035,.slice Y035 u035' z035,.bool x135,.slice X135 p135 q135,.bool y135,.slice Y135 u135' z135,.bool x235,.slice X235 p235 q235,.bool y235,.slice Y235 u235' z235] nz6 rfl rfl qo' rfl aK aK (fun wf hwf oF'=>?_);have hBf':Below M9.heap.size M9 wf:=by rw [hwf]; exact below_setAll lo35 _ _ _ hBu'
     have hkk':Keeps [k35] u' wf:=by rw [hwf]; exact keeps_setAll aS _ _ _ (Keeps.refl _ _)
     refine hK _ _ (Keeps.of_below hBf') (fun u2 hu2=>?_);clear hK K hwf;have HT':=Zh (Zi ((ratAt_keepU ra' hkk' (fun b hb=>by simp at hb; subst hb; exact ⟨_,qo',noU_12⟩)).below hu2) (Zi ((ratAt_keepU rb' hkk' (fun b hb=>by simp at hb; subst hb; exact ⟨_,qo',noU_12⟩)).below hu2) ((ratAt_keepU rc' hkk' (fun b hb=>by simp at hb; subst hb; exact ⟨_,qo',noU_12⟩)).below hu2)));have oT':=oF'.below hu2;have hB2':=hBf'.trans (hu2.mono hBf'.size);clear ra' rb' rc' hkk' oF' qo' hBf' hBu' hu2;refine effc_mem (by rfl) (fun K hK=>?_);go_simp;refine hK _ _ (Keeps.of_below hB2') (fun Ut hu3=>?_);clear hK K;have HT35:=Zh (Zi (HT'.out.1.below hu3) (Zi (HT'.out.2.1.below hu3) (HT'.out.2.2.below hu3)));have oT35:=oT'.below hu3;have hB35:=hB2'.trans (hu3.mono hB2'.size);clear HT' oT' hB2' hu3;refine effc_nil ?_
     (try simp only [LN])
     clear HRc;replace o8:Own Ut (w.heap.size+1) #[.int .i64 cx,.int .i64 cy,.int .i64 cz]:=o8.below hB35;replace o8c:=o8.cell;replace o8f:=o8.thaw;replace o8z:=o8.lt;replace o13:Own Ut (d3) #[.int .i64 lx,.int .i64 ly,.int .i64 lz]:=o13.below hB35;replace o13c:=o13.cell;replace o13f:=o13.thaw;replace o13z:=o13.lt;replace o14:Own Ut (d3+1) #[.int .i64 rx,.int .i64 ry,.int .i64 rz]:=o14.below hB35;replace o14c:=o14.cell;replace o14f:=o14.thaw;replace o14z:=o14.lt;replace qa:Own Ut (ka) #[.int .i64 a0,.int .i64 a1,.int .i64 a2]:=qa.below hB35;replace qac:=qa.cell;replace qaf:=qa.thaw;replace qaz:=qa.lt;replace qt:Own Ut (kt) #[.int .i64 t0,.int .i64 t1,.int .i64 t2]:=qt.below hB35;replace qtc:=qt.cell;replace qtf:=qt.thaw;replace qtz:=qt.lt;replace oV:Own Ut (bV) #[.slice (some ⟨gv,0,none⟩) 6 cv,.slice Ae 6 cE]:=oV.below hB35;replace oVc:=oV.cell;replace oVf:=oV.thaw;replace oVz:=oV.lt;replace on:Own Ut (bn) #[.bool s0y,.slice A0y n0y c0y,.bool t0y,.slice E0y m0y d0y,.bool s1y,.slice A1y n1y c1y,.bool t1y,.slice E1y m1y d1y,.bool s2y,.slice A2y n2y c2y,.bool t2y,.slice E2y m2y d2y,.bool s3y,.slice A3y n3y c3y,.bool t3y,.slice E3y m3y d3y,.bool s4y,.slice A4y n4y c4y,.bool t4y,.slice E4y m4y d4y,.bool s5y,.slice A5y n5y c5y,.bool t5y,.slice E5y m5y d5y]:=on.below hB35;replace onc:=on.cell;replace onf:=on.thaw;replace onz:=on.lt;replace hw:Below w.heap.size w Ut:=Below.hop hw hB35;replace hz:=hw.size;replace HPA:=Zh (HPA.out.below hB35);replace HLN:=Zh (HLN.out.below hB35);replace HEI:=Zh (HEI.out.below hB35);replace HIV:=Zh (HIV.out.below hB35);replace HR0:=Zh (HR0.out.below hB35);replace HR1:=Zh (HR1.out.below hB35);replace HR2:=Zh (HR2.out.below hB35);replace HR3:=Zh (HR3.out.below hB35);replace HR4:=Zh (HR4.out.below hB35);replace HR5:=Zh (HR5.out.below hB35);clear hB35;have HQ350:=Zh HT35.out.1;have HQ351:=Zh HT35.out.2.1;have HQ352:=Zh HT35.out.2.2;clear HT35;have oT35c:=oT35.cell;have oT35f:=oT35.thaw;have oT35z:=oT35.lt;go_upto_region 39 with fail
     have hA':Below Ut.heap.size Ut (Ut.alloc (.cells #[.int .i64 t0,.int .i64 t1,.int .i64 t2] 3)):=aBel;replace HPA:=Zh (HPA.out.below hA');replace HLN:=Zh (HLN.out.below hA');replace HEI:=Zh (HEI.out.below hA');replace HIV:=Zh (HIV.out.below hA');replace HR0:=Zh (HR0.out.below hA');replace HR1:=Zh (HR1.out.below hA');replace HR2:=Zh (HR2.out.below hA');replace HR3:=Zh (HR3.out.below hA');replace HR4:=Zh (HR4.out.below hA');replace HR5:=Zh (HR5.out.below hA');replace HQ350:=Zh (HQ350.out.below hA');replace HQ351:=Zh (HQ351.out.below hA');replace HQ352:=Zh (HQ352.out.below hA');replace o8:Own (Ut.alloc (.cells #[.int .i64 t0,.int .i64 t1,.int .i64 t2] 3)) (w.heap.size+1) #[.int .i64 cx,.int .i64 cy,.int .i64 cz]:=o8.below hA';clear o8c o8f o8z;replace o13:Own (Ut.alloc (.cells #[.int .i64 t0,.int .i64 t1,.int .i64 t2] 3)) (d3) #[.int .i64 lx,.int .i64 ly,.int .i64 lz]:=o13.below hA';clear o13c o13f o13z;replace o14:Own (Ut.alloc (.cells #[.int .i64 t0,.int .i64 t1,.int .i64 t2] 3)) (d3+1) #[.int .i64 rx,.int .i64 ry,.int .i64 rz]:=o14.below hA';clear o14c o14f o14z;replace qa:Own (Ut.alloc (.cells #[.int .i64 t0,.int .i64 t1,.int .i64 t2] 3)) (ka) #[.int .i64 a0,.int .i64 a1,.int .i64 a2]:=qa.below hA';clear qac qaf qaz;replace qt:Own (Ut.alloc (.cells #[.int .i64 t0,.int .i64 t1,.int .i64 t2] 3)) (kt) #[.int .i64 t0,.int .i64 t1,.int .i64 t2]:=qt.below hA';clear qtc qtf qtz;replace oV:Own (Ut.alloc (.cells #[.int .i64 t0,.int .i64 t1,.int .i64 t2] 3)) (bV) #[.slice (some ⟨gv,0,none⟩) 6 cv,.slice Ae 6 cE]:=oV.below hA';clear oVc oVf oVz;replace on:Own (Ut.alloc (.cells #[.int .i64 t0,.int .i64 t1,.int .i64 t2] 3)) (bn) #[.bool s0y,.slice A0y n0y c0y,.bool t0y,.slice E0y m0y d0y,.bool s1y,.slice A1y n1y c1y,.bool t1y,.slice E1y m1y d1y,.bool s2y,.slice A2y n2y c2y,.bool t2y,.slice E2y m2y d2y,.bool s3y,.slice A3y n3y c3y,.bool t3y,.slice E3y m3y d3y,.bool s4y,.slice A4y n4y c4y,.bool t4y,.slice E4y m4y d4y,.bool s5y,.slice A5y n5y c5y,.bool t5y,.slice E5y m5y d5y]:=on.below hA';clear onc onf onz;replace oT35:Own (Ut.alloc (.cells #[.int .i64 t0,.int .i64 t1,.int .i64 t2] 3)) (k35) #[.bool x035,.slice X035 p035 q035,.bool y035,.slice Y035 u035' z035,.bool x135,.slice X135 p135 q135,.bool y135,.slice Y135 u135' z135,.bool x235,.slice X235 p235 q235,.bool y235,.slice Y235 u235' z235]:=oT35.below hA';clear oT35c oT35f oT35z;have oJ:Own (Ut.alloc (.cells #[.int .i64 t0,.int .i64 t1,.int .i64 t2] 3)) (Ut.heap.size) #[.int .i64 t0,.int .i64 t1,.int .i64 t2]:=Own.new rfl;replace hw:Below w.heap.size w (Ut.alloc (.cells #[.int .i64 t0,.int .i64 t1,.int .i64 t2] 3)):=hw.trans (hA'.mono hw.size);have hsz':(Ut.alloc (.cells #[.int .i64 t0,.int .i64 t1,.int .i64 t2] 3)).heap.size=Ut.heap.size+1:=by simp [World.size_alloc]
     clear hA';generalize Ut.alloc (.cells #[.int .i64 t0,.int .i64 t1,.int .i64 t2] 3)=U4 at *;have o8c:=o8.cell;have o8f:=o8.thaw;have o8z:=o8.lt;have o13c:=o13.cell;have o13f:=o13.thaw;have o13z:=o13.lt;have o14c:=o14.cell;have o14f:=o14.thaw;have o14z:=o14.lt;have qac:=qa.cell;have qaf:=qa.thaw;have qaz:=qa.lt;have qtc:=qt.cell;have qtf:=qt.thaw;have qtz:=qt.lt;have oVc:=oV.cell;have oVf:=oV.thaw;have oVz:=oV.lt;have onc:=on.cell;have onf:=on.thaw;have onz:=on.lt;have oT35c:=oT35.cell;have oT35f:=oT35.thaw;have oT35z:=oT35.lt;have oJc:=oJ.cell;have oJf:=oJ.thaw;have oJz:=oJ.lt;replace hz:=hw.size;obtain ⟨bJ,hkbJ⟩:=Zx (Ut.heap.size);rw [hkbJ] at oJ oJc oJf oJz hsz' ⊢;clear hkbJ;clear hsz';go_wp2;go_loopw [230] (fun iv wr=>∃ i:Nat,i<=3/\iv = .int .i64 i/\Below U4.heap.size U4 wr) (fun iv _=>3 - (intOf iv).toNat)
     case atStart=>exact ⟨0,aO,rfl,Zb _ _⟩
     case round =>
      obtain ⟨i,hi,rfl,hb8⟩:=hrel;have hz8:=hb8.size
      by_cases hi3:i<3
      ·have hii:(i:Int)<3:=aO
       have oW35:=oT35.below hb8;obtain ⟨ss,ts',As,Es,ns,cs,ms',ds,⟨c0s,c1s,c2s,c3s⟩,hJs⟩:=rat3_at (q:=shiftQ x ⟨cx,cy,cz⟩) oW35 (HQ350.out.below hb8) (HQ351.out.below hb8) (HQ352.out.below hb8) hi3;have hkw:=oW35.lt;obtain ⟨⟨ps,qs⟩,hps⟩:=Zx (shiftQ x ⟨cx,cy,cz⟩ i);obtain ⟨zi,hzi⟩:=Zx (nI ⟨t0,t1,t2⟩ i);have eI:=int3_at (n:=⟨t0,t1,t2⟩) (oJ.below hb8) hi3;have hbi:bestQ xs N i (cornersL ⟨cx,cy,cz⟩ ⟨cx,cy,cz⟩)=zi:=by rw [<- hzi]; exact by_nI (f:=fun i=>bestQ xs N i (cornersL ⟨cx,cy,cz⟩ ⟨cx,cy,cz⟩)) HTQ.out.1 HTQ.out.2.1 HTQ.out.2.2 hi3
       have hzb:=best_bd HUN.out HCN.out.1 HBX.out.2.2 HBX.out.2.2 ⟨Int.le_refl _,Int.le_refl _,Int.le_refl _⟩ i;obtain ⟨hsu,hce⟩:=tight_up HUN.out HBX.out.2.2 HX.out.2.2 HCN.out.2.1 i;rw [hps] at hJs hsu hce;rw [hbi] at hzb hce;rw [hzi] at eI;obtain ⟨⟨pz,yz⟩,hpz⟩:=Zx (sizeQ (ps,qs));obtain ⟨⟨pd,qd⟩,hpd⟩:=Zx (divQ (pz,yz) (100,1));have hsz:=hsu.z;have hsp:=hsu.p;rw [hpz] at hsz hsp hce;rw [hpd] at hsp hce;have HJS:=Zh hJs;have HSU:=Zh hsu;have HSZ:=Zh hsz;have HSP:=Zh hsp;have HPZ:=Zh hpz;have HPD:=Zh hpd;have hcn:intN (-((-pd) / qd))=zi/\inI (-((-pd) / qd))=true:=by
        rw [show -((-pd) / qd)=zi from hce];exact ⟨intN_of aO aO,by unfold inI; simp; omega⟩
       have HCN2:RowKit.Hid (Value.tuple #[.int .i64 (intN (-((-pd) / qd))),.bool (inI (-((-pd) / qd)))] = .tuple #[.int .i64 zi,.bool true]):=Zh (by rw [hcn.1,hcn.2]);obtain ⟨o,ho⟩:=Zx (ordI ps 0);have HO:=Zh ho;have hor:(ordI ps 0<0/\subQ (0,1) (ps,qs)=(pz,yz))\/(¬ ordI ps 0<0/\(ps,qs)=(pz,yz)):=by
        unfold sizeQ at hpz
        by_cases hn:ordI ps 0<0
        ·rw [if_pos hn] at hpz; exact .inl ⟨hn,hpz⟩
        ·rw [if_neg hn] at hpz; exact .inr ⟨hn,hpz⟩
       have HOR:=Zh hor;clear hps hzi hbi hzb hsu hce hJs hpz hpd hsz hsp hcn ho hor oW35;go_upto_region 42 with fail
       have o38:Own (wr.alloc (.cells #[.bool ss,.slice As ns cs,.bool ts',.slice Es ms' ds] 42)) wr.heap.size #[.bool ss,.slice As ns cs,.bool ts',.slice Es ms' ds]:=Own.new rfl;have hA9:Below wr.heap.size wr (wr.alloc (.cells #[.bool ss,.slice As ns cs,.bool ts',.slice Es ms' ds] 42)):=(Zb _ _).alloc (Zr _) _;have HJ9:=Zh (HJS.out.below hA9);have hb9:=hb8.trans (hA9.mono hb8.size);generalize wr.alloc (.cells #[.bool ss,.slice As ns cs,.bool ts',.slice Es ms' ds] 42)=W9 at *;obtain ⟨b38,hk38⟩:=Zx (wr.heap.size);have h38:U4.heap.size<=b38:=by rw [<- hk38]; exact hz8
       have h38l:b38<W9.heap.size:=by rw [<- hk38]; exact o38.lt
       rw [hk38] at o38 ⊢;clear hk38 hA9 HJS c0s c1s c2s c3s hkw;have o38c:=o38.cell;have o38f:=o38.thaw;go_wp2_with fail;refine Zd (callv (ratio_Sign HJ9.out HSU.out.a.1) (congrArg (Value.int IntKind.i64) HO.out)) ?_;rintro e wb ⟨rfl,hbx⟩;replace o38:=o38.below hbx;replace o38c:=o38.cell;replace o38f:=o38.thaw;have hbb:=hb9.trans (hbx.mono hb9.size);replace h38l:=o38.lt;have HJB:=Zh (HJ9.out.below hbx);clear hbx hb9 HJ9;rcases HOR.out with ⟨hneg,hsq⟩ | ⟨hneg,hsq⟩
       ·have hnd:decide (o<0)=true:=by rw [<- HO.out]; exact decide_eq_true hneg
        have hnp:o<0:=by rw [<- HO.out]; exact hneg
        have HSQ:=Zh hsq;clear hsq hneg;go_upto_region 43 with fail
        have hTb:∀ b,b∈[b38]->b<wb.heap.size:=fun b hm=>by
         have:=List.mem_singleton.1 hm;omega
        have hNU:∀ b∈[b38],∃ cs,Own wb b cs/\noU cs:=fun b hb=>by
         have h1:=List.mem_singleton.1 hb;subst h1;exact ⟨_,o38,noU_r4⟩
        refine region_gen (T:=[b38]) [.make 0 [] (ratVB _ wb.heap.size 0 1),.step 1 (.agg #[.bool ss,.slice As ns cs,.bool ts',.slice Es ms' ds]),.make 2 [0] (ratB _ wb.heap.size pz yz),.need 3 [2],.need 5 []] 6 1 40 (fun _ u=>SameAt wb b38 u) (fun _ u u' h k=>⟨(k.block b38 h.2).trans h.1,Zl h.2 k.size⟩) ⟨rfl,h38l⟩ aK aK (by rfl) ?_;unfold genWalk;apply Zs;apply Zi
        ·apply Piece.mk
         ·intro f v hv hr hne;simp only [List.take_succ_cons,List.take_zero,List.drop_succ_cons,List.drop_zero,Nat.reduceSub,Nat.reduceAdd];exact qz
         ·intro f; kernel_rfl
         ·intro f f' hf; kernel_rfl
        simp only [List.take_succ_cons,List.take_zero,List.drop_succ_cons,List.drop_zero,Nat.reduceSub,Nat.reduceAdd,oneOp];refine ⟨fun f=>⟨rfl,fun u hu _=>?_⟩,?_⟩
        ·refine make_call (f:=36) (args:=#[.int .i64 0]) (by (try simp only [LN]); (try simp only [newB_val,numB_val,ownB_val,valB_val,ratB_val,ratVB_val,numV,ratV]); go_simp) ?_;have q:=ratio_Int (w:=u) 0 aO aO;refine q.mono ?_;rintro e wx ⟨⟨b1,b2,rfl,q1,q2,q3,q4,q5,q6⟩,hbx⟩;have hus:=hu.1;exact ⟨(b1,b2),rfl,q3,q4,hbx,fun hm=>absurd (hTb b1 hm) aO,fun hm=>absurd (hTb b2 hm) aO,q1,q2,by show wb.heap.size<=b2; omega,q6⟩
        unfold genWalk;apply Zs;apply Zi
        ·apply Piece.mk
         ·intro f v hv hr hne;simp only [List.take_succ_cons,List.take_zero,List.drop_succ_cons,List.drop_zero,Nat.reduceSub,Nat.reduceAdd]
          (try simp only [LN])
          (try simp only [newB_val,numB_val,ownB_val,valB_val,ratB_val,ratVB_val,numV,ratV])
          exact qz
         ·intro f; kernel_rfl
         ·intro f f' hf; simp
        simp only [List.take_succ_cons,List.take_zero,List.drop_succ_cons,List.drop_zero,Nat.reduceSub,Nat.reduceAdd,oneOp];refine ⟨fun f=>⟨rfl,fun u hu hp=>?_⟩,?_⟩
        ·(try simp only [LN])
         (try simp only [newB_val,numB_val,ownB_val,valB_val,ratB_val,ratVB_val,numV,ratV])
         have r0:=(Zc (w:=wb) (a:=⟨b38,0,none⟩) hp.1).trans (o38.cell 0);have r1:=(Zc (w:=wb) (a:=⟨b38,1,none⟩) hp.1).trans (o38.cell 1);have r2:=(Zc (w:=wb) (a:=⟨b38,2,none⟩) hp.1).trans (o38.cell 2);have r3:=(Zc (w:=wb) (a:=⟨b38,3,none⟩) hp.1).trans (o38.cell 3);go_simp
         first | exact Upd.refl _ _ | exact ⟨Upd.refl _ _,hp⟩ | exact ⟨rfl,Upd.refl _ _,hp⟩
        unfold genWalk;apply Zs;apply Zi
        ·apply Piece.mk
         ·intro f v hv hr hne;simp only [List.take_succ_cons,List.take_zero,List.drop_succ_cons,List.drop_zero,Nat.reduceSub,Nat.reduceAdd]
          (try simp only [LN])
          (try simp only [newB_val,numB_val,ownB_val,valB_val,ratB_val,ratVB_val,numV,ratV])
          exact qz
         ·intro f; kernel_rfl
         ·intro f f' hf; simp
        simp only [List.take_succ_cons,List.take_zero,List.drop_succ_cons,List.drop_zero,Nat.reduceSub,Nat.reduceAdd,oneOp];refine ⟨fun f=>⟨rfl,fun u hu hm=>?_⟩,?_⟩
        ·refine make_call (f:=38) (args:=#[.agg #[.bool (sgnN 0),slN 0 (f 0).1,.bool (sgnN 1),slN 1 (f 0).2],.agg #[.bool ss,.slice As ns cs,.bool ts',.slice Es ms' ds]]) (by (try simp only [LN]); (try simp only [newB_val,numB_val,ownB_val,valB_val,ratB_val,ratVB_val,numV,ratV]); go_simp) ?_;have e1:NumO u (f 0).1 0/\NumO u (f 0).2 1:=(show (ratVB [b38] wb.heap.size 0 1).R (f 0) u from hm 0 aS).2.2.imp id fun h=>h.1
         have q:=ratio_Sub (w:=u) (a:=0) (b:=1) (c:=ps) (d:=qs) (ratAt_of e1.1 e1.2 (fits_small aO) (fits_small aO)) (ratAt_keepU HJB.out hu hNU) (good_one 0) HSU.out.a.1 (sm_zero.mul HSU.out.a.2.2) (HSU.out.a.2.1.neg.mul Sm.one) (sm_sum sm_zero HSU.out.a.2.2 HSU.out.a.2.1.neg Sm.one) (Sm.one.mul HSU.out.a.2.2);have e9:ofN (0*qs + -ps*1) (1*qs)=pz/\ofD (0*qs + -ps*1) (1*qs)=yz:=⟨congrArg Prod.fst HSQ.out,congrArg Prod.snd HSQ.out⟩;rw [e9.1,e9.2] at q;refine q.mono ?_;rintro e wx ⟨⟨b1,b2,rfl,q1,q2,q3,q4,q5,q6⟩,hbx⟩;have hus:=hu.1;exact ⟨(b1,b2),rfl,q3,q4,hbx,fun hm=>absurd (hTb b1 hm) aO,fun hm=>absurd (hTb b2 hm) aO,q1,q2,by show wb.heap.size<=b2; omega,q6⟩
        unfold genWalk;apply Zs;apply Zi
        ·apply Piece.mk
         ·intro f v hv hr hne;simp only [List.take_succ_cons,List.take_zero,List.drop_succ_cons,List.drop_zero,Nat.reduceSub,Nat.reduceAdd]
          (try simp only [LN])
          (try simp only [newB_val,numB_val,ownB_val,valB_val,ratB_val,ratVB_val,numV,ratV])
          exact qz
         ·intro f; kernel_rfl
         ·intro f f' hf; simp
        unfold genWalk;apply Zs;apply Zi
        ·apply Piece.mk
         ·intro f v hv hr hne;simp only [List.take_succ_cons,List.take_zero,List.drop_succ_cons,List.drop_zero,Nat.reduceSub,Nat.reduceAdd]
          (try simp only [LN])
          (try simp only [newB_val,numB_val,ownB_val,valB_val,ratB_val,ratVB_val,numV,ratV])
          exact qz
         ·intro f; kernel_rfl
         ·intro f f' hf; first | (simp; done) | (simp [hf 2 aS])
        unfold genWalk;apply Zs;apply Zi
        ·apply Piece.mk
         ·intro f v hv hr hne;simp only [List.take_succ_cons,List.take_zero,List.drop_succ_cons,List.drop_zero,Nat.reduceSub,Nat.reduceAdd]
          (try simp only [LN])
          (try simp only [newB_val,numB_val,ownB_val,valB_val,ratB_val,ratVB_val,numV,ratV])
          exact qz
         ·intro f; kernel_rfl
         ·intro f f' hf; simp
        intro f9 u' hup2 hph hmade hdist;obtain ⟨⟨hT1,hT2,oA,oB,loB,hiB⟩,loA,hiA⟩:=hmade 2 aO rfl;replace oA:NumO u' (f9 2).1 pz:=oA;replace oB:NumO u' (f9 2).2 yz:=oB;replace hT1:(f9 2).1≠b38:=fun h=>hT1 (by rw [h]; exact List.mem_singleton_self _)
        replace hT2:(f9 2).2≠b38:=fun h=>hT2 (by rw [h]; exact List.mem_singleton_self _)
        have hB1:Below wb.heap.size wb u':=⟨hup2.os,hup2.tape,hup2.output,hup2.size,fun b hb=>by
         by_cases e:b=b38
         ·subst e; exact hph.1
         ·exact hup2.block b hb (by simpa using e)⟩
        clear hmade hdist hph loB hiB loA hiA hup2;simp only [List.take_succ_cons,List.take_zero,List.drop_succ_cons,List.drop_zero,Nat.reduceSub,Nat.reduceAdd]
        (try simp only [LN])
        (try simp only [newB_val,numB_val,ownB_val,valB_val,ratB_val,ratVB_val,numV,ratV])
        generalize (f9 2).1=g1 at *;generalize (f9 2).2=g2 at *;generalize (f9 0).1=g3 at *;generalize (f9 0).2=g4 at *;clear f9;obtain ⟨A7,n7,c7,hs7⟩:=slN_form pz g1;obtain ⟨A8,n8,c8,hs8⟩:=slN_form yz g2;rw [hs7,hs8];have HS7:=Zh (Zi hs7 hs8);clear hs7 hs8;have p38:=o38.below hB1;have p38c:=p38.cell;have p38f:=p38.thaw;refine effc_mem (by rfl) (fun K hK=>?_);go_simp;refine hK _ _ (((((Keeps.of_below hB1).set aS _).set aS _).set aS _).set aS _) (fun u2 hun=>?_);clear hK K;have q38:Own u2 b38 #[.bool (sgnN pz),.slice A7 n7 c7,.bool (sgnN yz),.slice A8 n8 c8]:=((((p38.set 0 (.bool (sgnN pz))).set 1 (.slice A7 n7 c7)).set 2 (.bool (sgnN yz))).set 3 (.slice A8 n8 c8)).below hun;have hbz:=Below.hop (((((hbb.trans (hB1.mono hbb.size)).setCell h38 _).setCell h38 _).setCell h38 _).setCell h38 _) hun;have oA2:=((((oA.far hT1 _).far hT1 _).far hT1 _).far hT1 _).below hun;have oB2:=((((oB.far hT2 _).far hT2 _).far hT2 _).far hT2 _).below hun;have hjz:RatAt u2 (.agg #[.bool (sgnN pz),.slice A7 n7 c7,.bool (sgnN yz),.slice A8 n8 c8]) pz yz:=by
         have h:=ratAt_of oA2 oB2 HSZ.out.fit.1 HSZ.out.fit.2.1;rw [HS7.out.1,HS7.out.2] at h;exact h
        have HJZ:=Zh hjz;clear o38 o38c o38f p38 p38c p38f hjz oA oB oA2 oB2 hun hB1 hT1 hT2 hTb hNU HJB hbb;have o38:=q38;clear q38;refine effc_nil ?_
        (try simp only [LN])
        have o38c:=o38.cell;have o38f:=o38.thaw;have HFd:=Zh HSP.out.fit;go_upto_region 44 with fail
        refine region_gen (T:=[]) [.make 1 [] (ratVB [] u2.heap.size 100 1),.make 2 [1] (ratB [] u2.heap.size pd qd),.need 3 [2],.need 5 [],.make 6 [] (ownB [] nz2 (fun p=>.pointer (some ⟨p,0,none⟩)))] 7 0 40 (fun _ _=>True) (fun _ _ _ _ _=>trivial) trivial aK aK (by rfl) ?_;unfold genWalk;apply Zs;apply Zi
        ·apply Piece.mk
         ·intro f v hv hr hne;simp only [List.take_succ_cons,List.take_zero,List.drop_succ_cons,List.drop_zero,Nat.reduceSub,Nat.reduceAdd];have dA:=fun y=>(o38.later (v:=v) (T:=[]) aS y).cell
          exact qz
         ·intro f; kernel_rfl
         ·intro f f' hf; kernel_rfl
        simp only [List.take_succ_cons,List.take_zero,List.drop_succ_cons,List.drop_zero,Nat.reduceSub,Nat.reduceAdd,oneOp];refine ⟨fun f=>⟨rfl,fun u hu _=>?_⟩,?_⟩
        ·refine make_call (f:=36) (args:=#[.int .i64 100]) (by (try simp only [LN]); (try simp only [newB_val,numB_val,ownB_val,valB_val,ratB_val,ratVB_val,numV,ratV]); go_simp) ?_;have q:=ratio_Int (w:=u) 100 aO aO;refine q.mono ?_;rintro e wx ⟨⟨b1,b2,rfl,q1,q2,q3,q4,q5,q6⟩,hbx⟩;exact ⟨(b1,b2),rfl,q3,q4,hbx,aS,aS,q1,q2,Zm hu.1 q5,q6⟩
        unfold genWalk;apply Zs;apply Zi
        ·apply Piece.mk
         ·intro f v hv hr hne;simp only [List.take_succ_cons,List.take_zero,List.drop_succ_cons,List.drop_zero,Nat.reduceSub,Nat.reduceAdd]
          (try simp only [LN])
          (try simp only [newB_val,numB_val,ownB_val,valB_val,ratB_val,ratVB_val,numV,ratV])
          have dA:=fun y=>(o38.later (v:=v) (T:=[]) aS y).cell
          exact qz
         ·intro f; kernel_rfl
         ·intro f f' hf; simp
        simp only [List.take_succ_cons,List.take_zero,List.drop_succ_cons,List.drop_zero,Nat.reduceSub,Nat.reduceAdd,oneOp];refine ⟨fun f=>⟨rfl,fun u hu hm=>?_⟩,?_⟩
        ·refine make_call (f:=39) (args:=#[.agg #[.bool (sgnN pz),.slice A7 n7 c7,.bool (sgnN yz),.slice A8 n8 c8],.agg #[.bool (sgnN 100),slN 100 (f 1).1,.bool (sgnN 1),slN 1 (f 1).2]]) (by (try simp only [LN]); (try simp only [newB_val,numB_val,ownB_val,valB_val,ratB_val,ratVB_val,numV,ratV]); go_simp) ?_;have e1:NumO u (f 1).1 100/\NumO u (f 1).2 1:=(show (ratVB [] u2.heap.size 100 1).R (f 1) u from hm 1 aS).2.2.imp id fun h=>h.1
         have sx:Sm 100:=sm_i64 aO aO;have q:=ratio_Div (w:=u) (a:=pz) (b:=yz) (c:=100) (d:=1) (HJZ.out.keeps hu) (ratAt_of e1.1 e1.2 sx.fits (fits_small aO)) HSZ.out.1 (good_one 100) aO (HSZ.out.2.1.mul Sm.one) (HSZ.out.2.2.mul sx);have e9:ofN (pz*1) (yz*100)=pd/\ofD (pz*1) (yz*100)=qd:=⟨congrArg Prod.fst HPD.out,congrArg Prod.snd HPD.out⟩;rw [e9.1,e9.2] at q;refine q.mono ?_;rintro e wx ⟨⟨b1,b2,rfl,q1,q2,q3,q4,q5,q6⟩,hbx⟩;exact ⟨(b1,b2),rfl,q3,q4,hbx,aS,aS,q1,q2,Zm hu.1 q5,q6⟩
        unfold genWalk;apply Zs;apply Zi
        ·apply Piece.mk
         ·intro f v hv hr hne;simp only [List.take_succ_cons,List.take_zero,List.drop_succ_cons,List.drop_zero,Nat.reduceSub,Nat.reduceAdd]
          (try simp only [LN])
          (try simp only [newB_val,numB_val,ownB_val,valB_val,ratB_val,ratVB_val,numV,ratV])
          exact qz
         ·intro f; kernel_rfl
         ·intro f f' hf; simp
        unfold genWalk;apply Zs;apply Zi
        ·apply Piece.mk
         ·intro f v hv hr hne;simp only [List.take_succ_cons,List.take_zero,List.drop_succ_cons,List.drop_zero,Nat.reduceSub,Nat.reduceAdd]
          (try simp only [LN])
          (try simp only [newB_val,numB_val,ownB_val,valB_val,ratB_val,ratVB_val,numV,ratV])
          exact qz
         ·intro f; kernel_rfl
         ·intro f f' hf; first | (simp; done) | (simp [hf 2 aS])
        unfold genWalk;apply Zs;apply Zi
        ·apply Piece.mk
         ·intro f v hv hr hne;simp only [List.take_succ_cons,List.take_zero,List.drop_succ_cons,List.drop_zero,Nat.reduceSub,Nat.reduceAdd]
          (try simp only [LN])
          (try simp only [newB_val,numB_val,ownB_val,valB_val,ratB_val,ratVB_val,numV,ratV])
          exact qz
         ·intro f; kernel_rfl
         ·intro f f' hf; simp
        simp only [List.take_succ_cons,List.take_zero,List.drop_succ_cons,List.drop_zero,Nat.reduceSub,Nat.reduceAdd,oneOp];refine ⟨fun f=>⟨rfl,fun u hu _=>?_⟩,?_⟩
        ·refine make_own (e:=42) (by (try simp only [LN]); (try simp only [newB_val,numB_val,ownB_val,valB_val,ratB_val,ratVB_val,numV,ratV]); go_simp) aS
        unfold genWalk;apply Zs;apply Zi
        ·apply Piece.mk
         ·intro f v hv hr hne;simp only [List.take_succ_cons,List.take_zero,List.drop_succ_cons,List.drop_zero,Nat.reduceSub,Nat.reduceAdd]
          (try simp only [LN])
          (try simp only [newB_val,numB_val,ownB_val,valB_val,ratB_val,ratVB_val,numV,ratV])
          exact qz
         ·intro f; kernel_rfl
         ·intro f f' hf; simp
        intro f u' hup hph hmade hdist;obtain ⟨⟨-,-,oN,oM,loM,hiM⟩,loN,hiN⟩:=hmade 2 aO rfl;obtain ⟨⟨-,qO⟩,loO,hiO⟩:=hmade 6 aO rfl;have e5:=hdist 2 6 aO aO rfl rfl aO;replace oN:NumO u' (f 2).1 pd:=oN;replace oM:NumO u' (f 2).2 qd:=oM;replace hiM:(f 2).2<u'.heap.size:=hiM;replace loM:u2.heap.size<=(f 2).2:=loM;replace qO:Own u' (f 6).1 nz2:=qO;clear hmade hdist hph;simp only [List.take_succ_cons,List.take_zero,List.drop_succ_cons,List.drop_zero,Nat.reduceSub,Nat.reduceAdd]
        (try simp only [LN])
        (try simp only [newB_val,numB_val,ownB_val,valB_val,ratB_val,ratVB_val,numV,ratV])
        generalize (f 2).1=b1 at *;generalize (f 2).2=b2 at *;generalize (f 6).1=bd at *;generalize (f 1).1=bp1 at *;generalize (f 1).2=bq1 at *;clear f;have e6:b2≠bd:=digs_ne (oM HFd.out.2.1 HFd.out.2.2) qO HFd.out.2.2;have f1:=HFd.out.1;have f2:=HFd.out.2.1;obtain ⟨Ad1,nd1,cd1,hs1⟩:=slN_form pd b1;obtain ⟨Ad2,nd2,cd2,hs2⟩:=slN_form qd b2;rw [hs1,hs2];have HSL:=Zh (Zi hs1 hs2);clear hs1 hs2;have hwu:Below u2.heap.size u2 u':=Upd.below (Zb _ _) hup aS;have hkT:=Upd.keeps (Keeps.refl _ _) hup;have qOc:=qO.cell;have qOf:=qO.thaw;clear hup;refine effc_mem (by rfl) (fun K hK=>?_);go_simp;refine hK _ _ (((((hkT.new loO _).new loO _).new loO _).new loO _)) (fun u3 hu3=>?_);clear hK K;have hs3:=hu3.size;simp [World.setCell] at hs3;have hwu1:=(((((hwu.setCell loO _).setCell loO _).setCell loO _).setCell loO _)).trans (hu3.mono (by simp [World.setCell]; exact hwu.size));have r12:=((((qO.set 0 (.bool (sgnN pd))).set 1 (.slice Ad1 nd1 cd1)).set 2 (.bool (sgnN qd))).set 3 (.slice Ad2 nd2 cd2)).below hu3;have oN1:=NumO.below (((((oN.far e5 _).far e5 _).far e5 _).far e5 _)) hu3;have oM1:=NumO.below (((((oM.far e6 _).far e6 _).far e6 _).far e6 _)) hu3;have hk1:=(((((hkT.new loO _).new loO _).new loO _).new loO _)).later hu3;clear qO qOc qOf oN oM hkT hu3 hwu;refine effc_mem (by rfl) (fun K hK=>?_);go_simp;refine hK _ _ hk1 (fun ud hu4=>?_);clear hK K;have r13:=r12.below hu4;have oN2:=oN1.below hu4;have oM2:=oM1.below hu4;have HBd:=hwu1.trans (hu4.mono hwu1.size);have hs4:=hu4.size;have BXd:Hid (Own ud bd #[.bool (sgnN pd),.slice Ad1 nd1 cd1,.bool (sgnN qd),.slice Ad2 nd2 cd2]/\RatX (fun x=>x≠bd) ud (sgnN pd) Ad1 nd1 cd1 (sgnN qd) Ad2 nd2 cd2 pd qd):=Zh ⟨r13,ratX_of oN2 oM2 f1 f2 aO aO e5 e6 HSL.out.1 HSL.out.2⟩;have LBd:=loO;clear hwu1 hk1 hu4 loM r12 r13 oN1 oM1 oN2 oM2 e5 e6 hs3 hs4 HSL loN hiN loO hiO hiM f1 f2;refine effc_nil ?_
        (try simp only [LN])
        have hbd:=hbz.trans (HBd.mono hbz.size);have obd:=BXd.out.1;have obdc:=obd.cell;have obdf:=obd.thaw;go_wp2_with fail;refine Zd (callv (ratio_Ceil BXd.out.2.at_ HSP.out.1) HCN2.out) ?_;rintro e wc ⟨rfl,hbx⟩;have hbf:=hbd.trans (hbx.mono hbd.size);clear obd obdc obdf BXd hbx hbd;go_wp2;go_roundw
        case rel=>exact ⟨i+1,aO,by go_num,hbf⟩
        case measure=>simp [intOf]; omega
       ·have hnd:decide (o<0)=false:=by rw [<- HO.out]; exact decide_eq_false aO
        have hjz:RatAt wb (.agg #[.bool ss,.slice As ns cs,.bool ts',.slice Es ms' ds]) pz yz:=by
         obtain ⟨h1,h2⟩:=Prod.mk.inj hsq;rw [<- h1,<- h2];exact HJB.out
        have HJZ:=Zh hjz;clear hjz hsq hneg HJB;have HFd:=Zh HSP.out.fit;go_wp2_with fail;refine region_gen (T:=[]) [.make 1 [] (ratVB [] wb.heap.size 100 1),.make 2 [1] (ratB [] wb.heap.size pd qd),.need 3 [2],.need 5 [],.make 6 [] (ownB [] nz2 (fun p=>.pointer (some ⟨p,0,none⟩)))] 7 0 40 (fun _ _=>True) (fun _ _ _ _ _=>trivial) trivial aK aK (by rfl) ?_;unfold genWalk;apply Zs;apply Zi
        ·apply Piece.mk
         ·intro f v hv hr hne;simp only [List.take_succ_cons,List.take_zero,List.drop_succ_cons,List.drop_zero,Nat.reduceSub,Nat.reduceAdd];have dA:=fun y=>(o38.later (v:=v) (T:=[]) aS y).cell
          exact qz
         ·intro f; kernel_rfl
         ·intro f f' hf; kernel_rfl
        simp only [List.take_succ_cons,List.take_zero,List.drop_succ_cons,List.drop_zero,Nat.reduceSub,Nat.reduceAdd,oneOp];refine ⟨fun f=>⟨rfl,fun u hu _=>?_⟩,?_⟩
        ·refine make_call (f:=36) (args:=#[.int .i64 100]) (by (try simp only [LN]); (try simp only [newB_val,numB_val,ownB_val,valB_val,ratB_val,ratVB_val,numV,ratV]); go_simp) ?_;have q:=ratio_Int (w:=u) 100 aO aO;refine q.mono ?_;rintro e wx ⟨⟨b1,b2,rfl,q1,q2,q3,q4,q5,q6⟩,hbx⟩;exact ⟨(b1,b2),rfl,q3,q4,hbx,aS,aS,q1,q2,Zm hu.1 q5,q6⟩
        unfold genWalk;apply Zs;apply Zi
        ·apply Piece.mk
         ·intro f v hv hr hne;simp only [List.take_succ_cons,List.take_zero,List.drop_succ_cons,List.drop_zero,Nat.reduceSub,Nat.reduceAdd]
          (try simp only [LN])
          (try simp only [newB_val,numB_val,ownB_val,valB_val,ratB_val,ratVB_val,numV,ratV])
          have dA:=fun y=>(o38.later (v:=v) (T:=[]) aS y).cell
          exact qz
         ·intro f; kernel_rfl
         ·intro f f' hf; simp
        simp only [List.take_succ_cons,List.take_zero,List.drop_succ_cons,List.drop_zero,Nat.reduceSub,Nat.reduceAdd,oneOp];refine ⟨fun f=>⟨rfl,fun u hu hm=>?_⟩,?_⟩
        ·refine make_call (f:=39) (args:=#[.agg #[.bool ss,.slice As ns cs,.bool ts',.slice Es ms' ds],.agg #[.bool (sgnN 100),slN 100 (f 1).1,.bool (sgnN 1),slN 1 (f 1).2]]) (by (try simp only [LN]); (try simp only [newB_val,numB_val,ownB_val,valB_val,ratB_val,ratVB_val,numV,ratV]); go_simp) ?_;have e1:NumO u (f 1).1 100/\NumO u (f 1).2 1:=(show (ratVB [] wb.heap.size 100 1).R (f 1) u from hm 1 aS).2.2.imp id fun h=>h.1
         have sx:Sm 100:=sm_i64 aO aO;have q:=ratio_Div (w:=u) (a:=pz) (b:=yz) (c:=100) (d:=1) (HJZ.out.keeps hu) (ratAt_of e1.1 e1.2 sx.fits (fits_small aO)) HSZ.out.1 (good_one 100) aO (HSZ.out.2.1.mul Sm.one) (HSZ.out.2.2.mul sx);have e9:ofN (pz*1) (yz*100)=pd/\ofD (pz*1) (yz*100)=qd:=⟨congrArg Prod.fst HPD.out,congrArg Prod.snd HPD.out⟩;rw [e9.1,e9.2] at q;refine q.mono ?_;rintro e wx ⟨⟨b1,b2,rfl,q1,q2,q3,q4,q5,q6⟩,hbx⟩;exact ⟨(b1,b2),rfl,q3,q4,hbx,aS,aS,q1,q2,Zm hu.1 q5,q6⟩
        unfold genWalk;apply Zs;apply Zi
        ·apply Piece.mk
         ·intro f v hv hr hne;simp only [List.take_succ_cons,List.take_zero,List.drop_succ_cons,List.drop_zero,Nat.reduceSub,Nat.reduceAdd]
          (try simp only [LN])
          (try simp only [newB_val,numB_val,ownB_val,valB_val,ratB_val,ratVB_val,numV,ratV])
          exact qz
         ·intro f; kernel_rfl
         ·intro f f' hf; simp
        unfold genWalk;apply Zs;apply Zi
        ·apply Piece.mk
         ·intro f v hv hr hne;simp only [List.take_succ_cons,List.take_zero,List.drop_succ_cons,List.drop_zero,Nat.reduceSub,Nat.reduceAdd]
          (try simp only [LN])
          (try simp only [newB_val,numB_val,ownB_val,valB_val,ratB_val,ratVB_val,numV,ratV])
          exact qz
         ·intro f; kernel_rfl
         ·intro f f' hf; first | (simp; done) | (simp [hf 2 aS])
        unfold genWalk;apply Zs;apply Zi
        ·apply Piece.mk
         ·intro f v hv hr hne;simp only [List.take_succ_cons,List.take_zero,List.drop_succ_cons,List.drop_zero,Nat.reduceSub,Nat.reduceAdd]
          (try simp only [LN])
          (try simp only [newB_val,numB_val,ownB_val,valB_val,ratB_val,ratVB_val,numV,ratV])
          exact qz
         ·intro f; kernel_rfl
         ·intro f f' hf; simp
        simp only [List.take_succ_cons,List.take_zero,List.drop_succ_cons,List.drop_zero,Nat.reduceSub,Nat.reduceAdd,oneOp];refine ⟨fun f=>⟨rfl,fun u hu _=>?_⟩,?_⟩
        ·refine make_own (e:=42) (by (try simp only [LN]); (try simp only [newB_val,numB_val,ownB_val,valB_val,ratB_val,ratVB_val,numV,ratV]); go_simp) aS
        unfold genWalk;apply Zs;apply Zi
        ·apply Piece.mk
         ·intro f v hv hr hne;simp only [List.take_succ_cons,List.take_zero,List.drop_succ_cons,List.drop_zero,Nat.reduceSub,Nat.reduceAdd]
          (try simp only [LN])
          (try simp only [newB_val,numB_val,ownB_val,valB_val,ratB_val,ratVB_val,numV,ratV])
          exact qz
         ·intro f; kernel_rfl
         ·intro f f' hf; simp
        intro f u' hup hph hmade hdist;obtain ⟨⟨-,-,oN,oM,loM,hiM⟩,loN,hiN⟩:=hmade 2 aO rfl;obtain ⟨⟨-,qO⟩,loO,hiO⟩:=hmade 6 aO rfl;have e5:=hdist 2 6 aO aO rfl rfl aO;replace oN:NumO u' (f 2).1 pd:=oN;replace oM:NumO u' (f 2).2 qd:=oM;replace hiM:(f 2).2<u'.heap.size:=hiM;replace loM:wb.heap.size<=(f 2).2:=loM;replace qO:Own u' (f 6).1 nz2:=qO;clear hmade hdist hph;simp only [List.take_succ_cons,List.take_zero,List.drop_succ_cons,List.drop_zero,Nat.reduceSub,Nat.reduceAdd]
        (try simp only [LN])
        (try simp only [newB_val,numB_val,ownB_val,valB_val,ratB_val,ratVB_val,numV,ratV])
        generalize (f 2).1=b1 at *;generalize (f 2).2=b2 at *;generalize (f 6).1=bd at *;generalize (f 1).1=bp1 at *;generalize (f 1).2=bq1 at *;clear f;have e6:b2≠bd:=digs_ne (oM HFd.out.2.1 HFd.out.2.2) qO HFd.out.2.2;have f1:=HFd.out.1;have f2:=HFd.out.2.1;obtain ⟨Ad1,nd1,cd1,hs1⟩:=slN_form pd b1;obtain ⟨Ad2,nd2,cd2,hs2⟩:=slN_form qd b2;rw [hs1,hs2];have HSL:=Zh (Zi hs1 hs2);clear hs1 hs2;have hwu:Below wb.heap.size wb u':=Upd.below (Zb _ _) hup aS;have hkT:=Upd.keeps (Keeps.refl _ _) hup;have qOc:=qO.cell;have qOf:=qO.thaw;clear hup;refine effc_mem (by rfl) (fun K hK=>?_);go_simp;refine hK _ _ (((((hkT.new loO _).new loO _).new loO _).new loO _)) (fun u3 hu3=>?_);clear hK K;have hs3:=hu3.size;simp [World.setCell] at hs3;have hwu1:=(((((hwu.setCell loO _).setCell loO _).setCell loO _).setCell loO _)).trans (hu3.mono (by simp [World.setCell]; exact hwu.size));have r12:=((((qO.set 0 (.bool (sgnN pd))).set 1 (.slice Ad1 nd1 cd1)).set 2 (.bool (sgnN qd))).set 3 (.slice Ad2 nd2 cd2)).below hu3;have oN1:=NumO.below (((((oN.far e5 _).far e5 _).far e5 _).far e5 _)) hu3;have oM1:=NumO.below (((((oM.far e6 _).far e6 _).far e6 _).far e6 _)) hu3;have hk1:=(((((hkT.new loO _).new loO _).new loO _).new loO _)).later hu3;clear qO qOc qOf oN oM hkT hu3 hwu;refine effc_mem (by rfl) (fun K hK=>?_);go_simp;refine hK _ _ hk1 (fun ud hu4=>?_);clear hK K;have r13:=r12.below hu4;have oN2:=oN1.below hu4;have oM2:=oM1.below hu4;have HBd:=hwu1.trans (hu4.mono hwu1.size);have hs4:=hu4.size;have BXd:Hid (Own ud bd #[.bool (sgnN pd),.slice Ad1 nd1 cd1,.bool (sgnN qd),.slice Ad2 nd2 cd2]/\RatX (fun x=>x≠bd) ud (sgnN pd) Ad1 nd1 cd1 (sgnN qd) Ad2 nd2 cd2 pd qd):=Zh ⟨r13,ratX_of oN2 oM2 f1 f2 aO aO e5 e6 HSL.out.1 HSL.out.2⟩;have LBd:=loO;clear hwu1 hk1 hu4 loM r12 r13 oN1 oM1 oN2 oM2 e5 e6 hs3 hs4 HSL loN hiN loO hiO hiM f1 f2;refine effc_nil ?_
        (try simp only [LN])
        have hbd:=hbb.trans (HBd.mono hbb.size);have obd:=BXd.out.1;have obdc:=obd.cell;have obdf:=obd.thaw;go_wp2_with fail;refine Zd (callv (ratio_Ceil BXd.out.2.at_ HSP.out.1) HCN2.out) ?_;rintro e wc ⟨rfl,hbx⟩;have hbf:=hbd.trans (hbx.mono hbd.size);clear obd obdc obdf BXd hbx hbd;go_wp2;go_roundw
        case rel=>exact ⟨i+1,aO,by go_num,hbf⟩
        case measure=>simp [intOf]; omega
      ·obtain rfl:i=3:=aO
       clear hz8;replace o8:Own wr (w.heap.size+1) #[.int .i64 cx,.int .i64 cy,.int .i64 cz]:=o8.below hb8;replace o8c:=o8.cell;replace o8f:=o8.thaw;replace o8z:=o8.lt;replace o13:Own wr (d3) #[.int .i64 lx,.int .i64 ly,.int .i64 lz]:=o13.below hb8;replace o13c:=o13.cell;replace o13f:=o13.thaw;replace o13z:=o13.lt;replace o14:Own wr (d3+1) #[.int .i64 rx,.int .i64 ry,.int .i64 rz]:=o14.below hb8;replace o14c:=o14.cell;replace o14f:=o14.thaw;replace o14z:=o14.lt;replace qa:Own wr (ka) #[.int .i64 a0,.int .i64 a1,.int .i64 a2]:=qa.below hb8;replace qac:=qa.cell;replace qaf:=qa.thaw;replace qaz:=qa.lt;replace qt:Own wr (kt) #[.int .i64 t0,.int .i64 t1,.int .i64 t2]:=qt.below hb8;replace qtc:=qt.cell;replace qtf:=qt.thaw;replace qtz:=qt.lt;replace oV:Own wr (bV) #[.slice (some ⟨gv,0,none⟩) 6 cv,.slice Ae 6 cE]:=oV.below hb8;replace oVc:=oV.cell;replace oVf:=oV.thaw;replace oVz:=oV.lt;replace on:Own wr (bn) #[.bool s0y,.slice A0y n0y c0y,.bool t0y,.slice E0y m0y d0y,.bool s1y,.slice A1y n1y c1y,.bool t1y,.slice E1y m1y d1y,.bool s2y,.slice A2y n2y c2y,.bool t2y,.slice E2y m2y d2y,.bool s3y,.slice A3y n3y c3y,.bool t3y,.slice E3y m3y d3y,.bool s4y,.slice A4y n4y c4y,.bool t4y,.slice E4y m4y d4y,.bool s5y,.slice A5y n5y c5y,.bool t5y,.slice E5y m5y d5y]:=on.below hb8;replace onc:=on.cell;replace onf:=on.thaw;replace onz:=on.lt;replace oT35:Own wr (k35) #[.bool x035,.slice X035 p035 q035,.bool y035,.slice Y035 u035' z035,.bool x135,.slice X135 p135 q135,.bool y135,.slice Y135 u135' z135,.bool x235,.slice X235 p235 q235,.bool y235,.slice Y235 u235' z235]:=oT35.below hb8;replace oT35c:=oT35.cell;replace oT35f:=oT35.thaw;replace oT35z:=oT35.lt;replace oJ:Own wr (bJ) #[.int .i64 t0,.int .i64 t1,.int .i64 t2]:=oJ.below hb8;replace oJc:=oJ.cell;replace oJf:=oJ.thaw;replace oJz:=oJ.lt;replace hw:Below w.heap.size w wr:=Below.hop hw hb8;replace hz:=hw.size;replace HPA:=Zh (HPA.out.below hb8);replace HLN:=Zh (HLN.out.below hb8);replace HEI:=Zh (HEI.out.below hb8);replace HIV:=Zh (HIV.out.below hb8);replace HR0:=Zh (HR0.out.below hb8);replace HR1:=Zh (HR1.out.below hb8);replace HR2:=Zh (HR2.out.below hb8);replace HR3:=Zh (HR3.out.below hb8);replace HR4:=Zh (HR4.out.below hb8);replace HR5:=Zh (HR5.out.below hb8);replace HQ350:=Zh (HQ350.out.below hb8);replace HQ351:=Zh (HQ351.out.below hb8);replace HQ352:=Zh (HQ352.out.below hb8);clear hb8;obtain ⟨i0,i1,i2⟩:=HTL.out;go_upto_region 49 with fail
       (try clear HPA)
       (try clear HLN)
       (try clear HEI)
       (try clear HIV)
       (try clear HQ350)
       (try clear HQ351)
       (try clear HQ352)
       (try clear HX)
       (try clear GV)
       (try clear GE)
       (try clear GN)
       (try clear HUN)
       (try clear HUZ)
       (try clear HCN)
       (try clear HTQ)
       (try clear HTB)
       (try clear HAB)
       (try clear HAQ)
       (try clear HAP)
       (try clear HBX)
       (try clear HPC)
       (try clear HVS)
       (try clear HTL)
       (try clear o8)
       (try clear o8c)
       (try clear o8f)
       (try clear o8z)
       (try clear o13)
       (try clear o13c)
       (try clear o13f)
       (try clear o13z)
       (try clear o14)
       (try clear o14c)
       (try clear o14f)
       (try clear o14z)
       have d0:decide (t0<=a0)=true:=decide_eq_true i0;have d1:decide (t1<=a1)=true:=decide_eq_true i1;have d2:decide (t2<=a2)=true:=decide_eq_true i2;refine region_flat 23 aK ?_;apply Zs;refine ⟨fun v hv hne=>?_,fun u hu=>?_⟩
       ·simp only [List.take_succ_cons,List.take_zero];have dt:=fun y=>(qt.later (v:=v) (T:=[]) aS y).cell
        have da:=fun y=>(qa.later (v:=v) (T:=[]) aS y).cell
        exact qz
       simp only [List.drop_succ_cons,List.drop_zero];replace hw:=Below.hop hw hu;refine flat_nil ?_
       (try simp only [LN])
       go_wp2;go_ret;exact ⟨rfl,hw⟩
end Go.Proofs.YtflolbnnkbdmfaaGreat
