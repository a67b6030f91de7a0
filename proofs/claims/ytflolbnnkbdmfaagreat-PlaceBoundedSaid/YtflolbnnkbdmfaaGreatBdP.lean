/- The statement PlaceBounded: for every input the call returns true, and the arguments read as before. No condition. -/
import Derived.Test.YtflolbnnkbdmfaaGreatBdW
set_option linter.all false
namespace Go.Proofs.YtflolbnnkbdmfaaGreat.placeBoundedDone
open Go.ChangeShapes Go.WideShapes Go.ChangeAt Go.RowKit
set_option maxRecDepth 100000 in
theorem lifted (os:Os) (started:os.Started) (H:Type) (enc:TypeId×Value->H) :
 ReturnsInHanded {} Tryz.checked os 6 .any (Rows.placeBoundedSpec.pre6 enc Tryz.prog Tryz.f6 Rows.placeBoundedRow.domain false) (Rows.placeBoundedSpec.post enc Tryz.prog Tryz.f6 false true false false):=by
 refine returnsInHanded_of_change (C:=Tryz.checked) own started aK Tryz.func6
  (ChangeSpec.witness6 (enc:=enc) (C:=Tryz.checked) false ⟨#[],#[.slice none 0 0,.agg #[.int .i64 0,.int .i64 0,.int .i64 0,.int .i64 0,.int .i64 0,.int .i64 0],.slice none 0 0,.agg #[.int .i64 0,.int .i64 0,.int .i64 0],.int .u8 0],[]⟩ 8 aK aK aK aK) ?_
 intro W base args ds gs before hval0 hW hcnd _;have hval:∀ (j:Nat) t v,Tryz.f6.params[j]?=some t->args[j]?=some v->Value.okWide Tryz.prog W .any base t v:=hval0;have hW':=hW;obtain ⟨p,q,hA0,hV,rfl,hfz,hnd⟩:=hW;have hA:DataW.TrodAll enc Tryz.prog W 0 (fun _=>true) true Tryz.f6.params.toList args.toList ds p:=hA0;rw [Tryz.params6] at hA hval;obtain ⟨v0,vs0,d0,ds0,p0,q0,hargs,rfl,rfl,h0,r0⟩:=trodAll_cons hA;obtain ⟨v1,vs1,d1,ds1,p1,q1,rfl,rfl,rfl,h1,r1⟩:=trodAll_cons r0;obtain ⟨v2,vs2,d2,ds2,p2,q2,rfl,rfl,rfl,h2,r2⟩:=trodAll_cons r1;obtain ⟨v3,vs3,d3,ds3,p3,q3,rfl,rfl,rfl,h3,r3⟩:=trodAll_cons r2;obtain ⟨v4,vs4,d4,ds4,p4,q4,rfl,rfl,rfl,h4,r4⟩:=trodAll_cons r3;obtain ⟨rfl,rfl,rfl⟩:=trodAll_nil r4;obtain rfl:args=#[v0,v1,v2,v3,v4]:=by cases args; simp_all
 obtain ⟨rfl,rfl⟩:=trodVars_none hV;obtain ⟨a0,len0,cap0,rfl⟩:=okWide_slice Tryz.underlying22 (hval 0 22 v0 rfl rfl);obtain ⟨a2,len2,cap2,rfl⟩:=okWide_slice Tryz.underlying22 (hval 2 22 v2 rfl rfl);have k0:=h0;have lt0:∀ x∈p0,x.block<W.heap.size:=by obtain ⟨m,hm⟩:=k0; exact DataW.trod_lt m _ _ _ hm
 have k1:=h1;have lt1:∀ x∈p1,x.block<W.heap.size:=by obtain ⟨m,hm⟩:=k1; exact DataW.trod_lt m _ _ _ hm
 have k2:=h2;have lt2:∀ x∈p2,x.block<W.heap.size:=by obtain ⟨m,hm⟩:=k2; exact DataW.trod_lt m _ _ _ hm
 have k3:=h3;have lt3:∀ x∈p3,x.block<W.heap.size:=by obtain ⟨m,hm⟩:=k3; exact DataW.trod_lt m _ _ _ hm
 have k4:=h4;have lt4:∀ x∈p4,x.block<W.heap.size:=by obtain ⟨m,hm⟩:=k4; exact DataW.trod_lt m _ _ _ hm
 obtain ⟨z0,w0⟩:∃ zs,SliceI W a0 len0 zs/\len0<=cap0/\cap0<=9223372036854775807:=by
  obtain ⟨fuel,hf⟩:=h0;rcases open_ints Tryz.underlying22 Tryz.underlying3 aK hf with ⟨hcs,_⟩ | ⟨x,l,c,zs,hcs,_,hl,hm,hz,_,hcell,hwz⟩
  ·simp [Value.cells] at hcs;obtain ⟨rfl,rfl,rfl⟩:=hcs;exact ⟨_,sliceI_of (zs:=[]) (.inl ⟨rfl,rfl,rfl,rfl⟩)⟩
  ·simp [Value.cells] at hcs;obtain ⟨rfl,rfl,rfl⟩:=hcs;exact ⟨_,sliceI_of (zs:=zs) (.inr ⟨_,rfl,hl,hm,by simpa using hz,hcell,hwz⟩)⟩
 obtain ⟨c1,e1,_⟩:=okWide_arr Tryz.underlying60 (hval 1 60 v1 rfl rfl);obtain ⟨m1,g1,l1,ok1⟩:=open_flat flatVecx2 e1 h1;subst g1;obtain ⟨x1_0,x1_1,x1_2,x1_3,x1_4,x1_5,rfl⟩:=len6 l1;obtain ⟨z2,w2⟩:∃ zs,SliceI W a2 len2 zs/\len2<=cap2/\cap2<=9223372036854775807:=by
  obtain ⟨fuel,hf⟩:=h2;rcases open_ints Tryz.underlying22 Tryz.underlying3 aK hf with ⟨hcs,_⟩ | ⟨x,l,c,zs,hcs,_,hl,hm,hz,_,hcell,hwz⟩
  ·simp [Value.cells] at hcs;obtain ⟨rfl,rfl,rfl⟩:=hcs;exact ⟨_,sliceI_of (zs:=[]) (.inl ⟨rfl,rfl,rfl,rfl⟩)⟩
  ·simp [Value.cells] at hcs;obtain ⟨rfl,rfl,rfl⟩:=hcs;exact ⟨_,sliceI_of (zs:=zs) (.inr ⟨_,rfl,hl,hm,by simpa using hz,hcell,hwz⟩)⟩
 obtain ⟨c3,e3,_⟩:=okWide_struct Tryz.underlying44 (hval 3 44 v3 rfl rfl);obtain ⟨m3,g3,l3,ok3⟩:=open_flat flatVec e3 h3;subst g3;obtain ⟨x3_0,x3_1,x3_2,rfl⟩:=len3 l3;obtain ⟨x4,rfl,rfl,rfl,ok4⟩:=open_int Tryz.underlying5 (hval 4 5 v4 rfl rfl) h4;clear hA0 hval0;refine (law20_bounded cap0 cap2 w0.1 w2.1 x1_0 x1_1 x1_2 x1_3 x1_4 x1_5 x3_0 x3_1 x3_2 x4 (u8M_wf (ok4))).mono fun e W' ⟨he,bel⟩=>?_
 subst he;exact ⟨_,rfl,_,_,_,[],_,[],hW',trodAll_mk1 (shut_bool Tryz.underlying4 _),(trodAll_cons_mk (Below.trod laidOut aK (of_decide_eq_true aK) k0 bel lt0) (trodAll_cons_mk (Below.trod laidOut aK (of_decide_eq_true aK) k1 bel lt1) (trodAll_cons_mk (Below.trod laidOut aK (of_decide_eq_true aK) k2 bel lt2) (trodAll_cons_mk (Below.trod laidOut aK (of_decide_eq_true aK) k3 bel lt3) (trodAll_cons_mk (Below.trod laidOut aK (of_decide_eq_true aK) k4 bel lt4) trodAll_mk0))))),rfl,bel.frame _,fun h=>by cases h⟩
theorem walk0:(Rows.placeBoundedRow.inPlace==Tryz.pinned.checked.prog.inPlace 6)=true:=aK
theorem walk1:(Rows.placeBoundedRow.unfollowed==Tryz.pinned.checked.prog.unfollowed 6)=true:=aK
theorem walk2:(Rows.placeBoundedRow.recurses==Tryz.pinned.checked.prog.recurses 6)=true:=aK
theorem walk3:(Rows.placeBoundedRow.named==Tryz.pinned.checked.prog.varsNamed 6)=true:=aK
theorem facts:joinedFacts Tryz.pinned.checked.prog 6 Tryz.f6 Rows.placeBoundedSpec Rows.placeBoundedRow=true:=by
 unfold joinedFacts;rw [walk0,walk1,walk2,walk3];kernel_rfl
theorem over:Rows.placeBoundedRow.holds Tryz.pinned (OpenSpec.ofChange Rows.placeBoundedSpec):=
 OpenClaim.holds_of_wide 6 Tryz.f6 rfl rfl rfl rfl rfl rfl rfl ⟨rfl,rfl,rfl,rfl,rfl⟩ rfl rfl rfl rfl rfl aK Tryz.func6 facts
  (of_decide_eq_true aK) (by unfold Func.isWrapper; first | (rw [if_pos (by decide +kernel)]; kernel_rfl) | (rw [if_neg (by decide +kernel)]; exact ⟨rfl,rfl⟩))
  (fun os started H enc _=>lifted os started H enc)
theorem proved:Rows.PlaceBoundedSaid:=over
#print axioms proved
end Go.Proofs.YtflolbnnkbdmfaaGreat.placeBoundedDone
