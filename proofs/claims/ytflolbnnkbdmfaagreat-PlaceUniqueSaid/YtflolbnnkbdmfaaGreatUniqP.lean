/- The statement PlaceUnique: for every input the call returns true, and the arguments read as before. No condition. -/
import Derived.Test.YtflolbnnkbdmfaaGreatUniqW
set_option linter.all false
namespace Go.Proofs.YtflolbnnkbdmfaaGreat.placeUniqueDone
open Go.ChangeShapes Go.WideShapes Go.ChangeAt Go.RowKit
set_option maxRecDepth 100000 in
theorem lifted (os:Os) (started:os.Started) (H:Type) (enc:TypeId×Value->H) :
 ReturnsInHanded {} Tryz.checked os 9 .any (Rows.placeUniqueSpec.pre6 enc Tryz.prog Tryz.f9 Rows.placeUniqueRow.domain false) (Rows.placeUniqueSpec.post enc Tryz.prog Tryz.f9 false true false false):=by
 refine returnsInHanded_of_change (C:=Tryz.checked) own started aK Tryz.func9
  (ChangeSpec.witness6 (enc:=enc) (C:=Tryz.checked) false ⟨#[],#[.agg #[.slice none 0 0,.int .i64 0,.int .i64 0,.int .i64 0,.int .i64 0,.int .i64 0,.int .i64 0]],[]⟩ 8 aK aK aK aK) ?_
 intro W base args ds gs before hval0 hW hcnd _;have hval:∀ (j:Nat) t v,Tryz.f9.params[j]?=some t->args[j]?=some v->Value.okWide Tryz.prog W .any base t v:=hval0;have hW':=hW;obtain ⟨p,q,hA0,hV,rfl,hfz,hnd⟩:=hW;have hA:DataW.TrodAll enc Tryz.prog W 0 (fun _=>true) true Tryz.f9.params.toList args.toList ds p:=hA0;rw [Tryz.params9] at hA hval;obtain ⟨v0,vs0,d0,ds0,p0,q0,hargs,rfl,rfl,h0,r0⟩:=trodAll_cons hA;obtain ⟨rfl,rfl,rfl⟩:=trodAll_nil r0;obtain rfl:args=#[v0]:=by cases args; simp_all
 obtain ⟨rfl,rfl⟩:=trodVars_none hV;have k0:=h0;have lt0:∀ x∈p0,x.block<W.heap.size:=by obtain ⟨m,hm⟩:=k0; exact DataW.trod_lt m _ _ _ hm
 obtain ⟨c0,e0,_⟩:=okWide_struct Tryz.underlying26 (hval 0 26 v0 rfl rfl);obtain ⟨ca0,cn0,cc0,cz0,x0_0,x0_1,x0_2,x0_3,x0_4,x0_5,g0,cs0,cb0,cd0⟩:=open_case20 e0 h0;subst g0;clear hA0 hval0;refine (law20_unique cc0 cs0 cb0 cd0).mono fun e W' ⟨he,bel⟩=>?_
 subst he;exact ⟨_,rfl,_,_,_,[],_,[],hW',trodAll_mk1 (shut_bool Tryz.underlying4 _),(trodAll_cons_mk (Below.trod laidOut aK (of_decide_eq_true aK) k0 bel lt0) trodAll_mk0),rfl,bel.frame _,fun h=>by cases h⟩
theorem walk0:(Rows.placeUniqueRow.inPlace==Tryz.pinned.checked.prog.inPlace 9)=true:=aK
theorem walk1:(Rows.placeUniqueRow.unfollowed==Tryz.pinned.checked.prog.unfollowed 9)=true:=aK
theorem walk2:(Rows.placeUniqueRow.recurses==Tryz.pinned.checked.prog.recurses 9)=true:=aK
theorem walk3:(Rows.placeUniqueRow.named==Tryz.pinned.checked.prog.varsNamed 9)=true:=aK
theorem facts:joinedFacts Tryz.pinned.checked.prog 9 Tryz.f9 Rows.placeUniqueSpec Rows.placeUniqueRow=true:=by
 unfold joinedFacts;rw [walk0,walk1,walk2,walk3];kernel_rfl
theorem over:Rows.placeUniqueRow.holds Tryz.pinned (OpenSpec.ofChange Rows.placeUniqueSpec):=
 OpenClaim.holds_of_wide 9 Tryz.f9 rfl rfl rfl rfl rfl rfl rfl ⟨rfl,rfl,rfl,rfl,rfl⟩ rfl rfl rfl rfl rfl aK Tryz.func9 facts
  (of_decide_eq_true aK) (by unfold Func.isWrapper; first | (rw [if_pos (by decide +kernel)]; kernel_rfl) | (rw [if_neg (by decide +kernel)]; exact ⟨rfl,rfl⟩))
  (fun os started H enc _=>lifted os started H enc)
theorem proved:Rows.PlaceUniqueSaid:=over
#print axioms proved
end Go.Proofs.YtflolbnnkbdmfaaGreat.placeUniqueDone
