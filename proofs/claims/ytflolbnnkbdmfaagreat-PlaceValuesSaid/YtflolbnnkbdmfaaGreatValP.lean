/- The statement PlaceValues: for every input the call returns true, and the arguments read as before. No condition. -/
import Derived.Test.YtflolbnnkbdmfaaGreatRows
import Derived.WalkKit
import Derived.ProofKit
import Derived.OpenShut
import Derived.ShutString
import Derived.ChangeOld
import Derived.Below
import Derived.Test.YtflolbnnkbdmfaaGreatValW
set_option linter.all false
namespace Go.Proofs.YtflolbnnkbdmfaaGreat.placeValuesDone
set_option maxRecDepth 100000
open Go.ChangeShapes Go.WideShapes Go.ChangeAt Go.RowKit
theorem lifted (os:Os) (started:os.Started) (H:Type) (enc:TypeId×Value->H) :
 ReturnsInHanded {} Tryz.checked os 8 .any (Rows.placeValuesSpec.pre6 enc Tryz.prog Tryz.f8 Rows.placeValuesRow.domain false) (Rows.placeValuesSpec.post enc Tryz.prog Tryz.f8 false true false false):=by
 refine returnsInHanded_of_change (C:=Tryz.checked) own started aK Tryz.func8
  (ChangeSpec.witness6 (enc:=enc) (C:=Tryz.checked) false ⟨#[],#[.slice none 0 0,.slice none 0 0,.agg nv6],[]⟩ 8 aK aK aK aK) ?_
 intro W base args ds gs before hval0 hW hcnd _;have hval:∀ (j:Nat) t v,Tryz.f8.params[j]?=some t->args[j]?=some v->Value.okWide Tryz.prog W .any base t v:=hval0;have hW':=hW;obtain ⟨p,q,hA0,hV,rfl,hfz,hnd⟩:=hW;have hA:DataW.TrodAll enc Tryz.prog W 0 (fun _=>true) true Tryz.f8.params.toList args.toList ds p:=hA0;rw [Tryz.params8] at hA hval;obtain ⟨v0,vs0,d0,ds0,p0,q0,hargs,rfl,rfl,h0,r0⟩:=trodAll_cons hA;obtain ⟨v1,vs1,d1,ds1,p1,q1,rfl,rfl,rfl,h1,r1⟩:=trodAll_cons r0;obtain ⟨v2,vs2,d2,ds2,p2,q2,rfl,rfl,rfl,h2,r2⟩:=trodAll_cons r1;obtain ⟨rfl,rfl,rfl⟩:=trodAll_nil r2;obtain rfl:args=#[v0,v1,v2]:=by cases args; simp_all
 obtain ⟨rfl,rfl⟩:=trodVars_none hV;obtain ⟨a0,len0,cap0,rfl⟩:=okWide_slice Tryz.underlying22 (hval 0 22 v0 rfl rfl);obtain ⟨a1,len1,cap1,rfl⟩:=okWide_slice Tryz.underlying22 (hval 1 22 v1 rfl rfl);have k0:=h0;have lt0:∀ x∈p0,x.block<W.heap.size:=by obtain ⟨m,hm⟩:=k0; exact DataW.trod_lt m _ _ _ hm
 have k1:=h1;have lt1:∀ x∈p1,x.block<W.heap.size:=by obtain ⟨m,hm⟩:=k1; exact DataW.trod_lt m _ _ _ hm
 have k2:=h2;have lt2:∀ x∈p2,x.block<W.heap.size:=by obtain ⟨m,hm⟩:=k2; exact DataW.trod_lt m _ _ _ hm
 obtain ⟨z0,w0⟩:∃ zs,SliceI W a0 len0 zs/\len0<=cap0/\cap0<=9223372036854775807:=by
  obtain ⟨fuel,hf⟩:=h0;rcases open_ints Tryz.underlying22 Tryz.underlying3 aK hf with ⟨hcs,_⟩ | ⟨x,l,c,zs,hcs,_,hl,hm,hz,_,hcell,hwz⟩
  ·simp [Value.cells] at hcs;obtain ⟨rfl,rfl,rfl⟩:=hcs;exact ⟨_,sliceI_of (zs:=[]) (.inl ⟨rfl,rfl,rfl,rfl⟩)⟩
  ·simp [Value.cells] at hcs;obtain ⟨rfl,rfl,rfl⟩:=hcs;exact ⟨_,sliceI_of (zs:=zs) (.inr ⟨_,rfl,hl,hm,by simpa using hz,hcell,hwz⟩)⟩
 obtain ⟨z1,w1⟩:∃ zs,SliceI W a1 len1 zs/\len1<=cap1/\cap1<=9223372036854775807:=by
  obtain ⟨fuel,hf⟩:=h1;rcases open_ints Tryz.underlying22 Tryz.underlying3 aK hf with ⟨hcs,_⟩ | ⟨x,l,c,zs,hcs,_,hl,hm,hz,_,hcell,hwz⟩
  ·simp [Value.cells] at hcs;obtain ⟨rfl,rfl,rfl⟩:=hcs;exact ⟨_,sliceI_of (zs:=[]) (.inl ⟨rfl,rfl,rfl,rfl⟩)⟩
  ·simp [Value.cells] at hcs;obtain ⟨rfl,rfl,rfl⟩:=hcs;exact ⟨_,sliceI_of (zs:=zs) (.inr ⟨_,rfl,hl,hm,by simpa using hz,hcell,hwz⟩)⟩
 obtain ⟨c2,e2,_⟩:=okWide_arr Tryz.underlying60 (hval 2 60 v2 rfl rfl);obtain ⟨m2,g2,l2,ok2⟩:=open_flat flatVecx2 e2 h2;subst g2;obtain ⟨x2_0,x2_1,x2_2,x2_3,x2_4,x2_5,rfl⟩:=len6 l2;clear hA0 hval0;refine (law20_values cap0 cap1 w0.1 w1.1 x2_0 x2_1 x2_2 x2_3 x2_4 x2_5).mono fun e W' ⟨he,bel⟩=>?_
 subst he;exact ⟨_,rfl,_,_,_,[],_,[],hW',trodAll_mk1 (shut_bool Tryz.underlying4 _),(trodAll_cons_mk (Below.trod laidOut aK (of_decide_eq_true aK) k0 bel lt0) (trodAll_cons_mk (Below.trod laidOut aK (of_decide_eq_true aK) k1 bel lt1) (trodAll_cons_mk (Below.trod laidOut aK (of_decide_eq_true aK) k2 bel lt2) trodAll_mk0))),rfl,bel.frame _,fun h=>by cases h⟩
theorem walk0:(Rows.placeValuesRow.inPlace==Tryz.pinned.checked.prog.inPlace 8)=true:=aK
theorem walk1:(Rows.placeValuesRow.unfollowed==Tryz.pinned.checked.prog.unfollowed 8)=true:=aK
theorem walk2:(Rows.placeValuesRow.recurses==Tryz.pinned.checked.prog.recurses 8)=true:=aK
theorem walk3:(Rows.placeValuesRow.named==Tryz.pinned.checked.prog.varsNamed 8)=true:=aK
theorem facts:joinedFacts Tryz.pinned.checked.prog 8 Tryz.f8 Rows.placeValuesSpec Rows.placeValuesRow=true:=by
 unfold joinedFacts;rw [walk0,walk1,walk2,walk3];kernel_rfl
theorem over:Rows.placeValuesRow.holds Tryz.pinned (OpenSpec.ofChange Rows.placeValuesSpec):=
 OpenClaim.holds_of_wide 8 Tryz.f8 rfl rfl rfl rfl rfl rfl rfl ⟨rfl,rfl,rfl,rfl,rfl⟩ rfl rfl rfl rfl rfl aK Tryz.func8 facts
  (of_decide_eq_true aK) (by unfold Func.isWrapper; first | (rw [if_pos (by decide +kernel)]; kernel_rfl) | (rw [if_neg (by decide +kernel)]; exact ⟨rfl,rfl⟩))
  (fun os started H enc _=>lifted os started H enc)
theorem proved:Rows.PlaceValuesSaid:=over
#print axioms proved
end Go.Proofs.YtflolbnnkbdmfaaGreat.placeValuesDone
