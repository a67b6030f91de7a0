import Derived.Test.YtflgngjocgiojaaGreatNumM
set_option linter.all false
namespace Go.Proofs.YtflgngjocgiojaaGreat
open Go.RowKit
section
variable {P:Program} {Q Q':Exit->Act->World->Prop}
theorem wp_monoQ {o:Oper} {a:Act} {w:World} {K K':Act->World->Prop} (hq:∀ e a w,e ≠ .normal->Q' e a w->Q e a w) (h:∀ a w,K a w->K' a w) (hh:o.wp P a w K Q'):o.wp P a w K' Q:=by
 unfold Oper.wp at *;generalize (execOp a.eval o).run P w=r at *;cases r with
 | ok n w' =>
  cases n <;> simp only [Oper.upon] at hh ⊢
  all_goals first
   | exact h _ _ hh
   | exact Rows.mono hh (fun _ _ he=>h _ _ he)
   | exact Zd hh (fun e w'' he=>by
    cases e
    ·exact h _ _ he
    ·exact hq _ _ _ (by intro h; cases h) he
    ·obtain ⟨b,v,hb⟩:=he;exact ⟨b,v,hq _ _ _ (by intro h; cases h) hb⟩)
 | halt x w' =>
  cases x <;> simp only [Oper.upon] at hh ⊢
  all_goals first
   | exact hh
   | exact hq _ _ _ (by intro h; cases h) hh
def QK (K:Act->World->Prop) (Q:Exit->Act->World->Prop):Exit->Act->World->Prop
 | .normal=>K
 | e=>Q e
theorem QK_of {K:Act->World->Prop} (e:Exit) (a:Act) (w:World) (he:e ≠ .normal) (h:QK K Q e a w):Q e a w:=by
 cases e <;> first | exact absurd rfl he | exact h
def cutFit (l:List Oper) (n:Nat):Bool:=
 decide (0<n)&&decide (n<=l.length)&&(l.zipIdx.all fun x=>x.1.after.all fun e=>!Region.binds .any e || decide (e.on<x.2))&&((l.take n).all fun o=>o.guard.isNone) &&
 ((List.range (n - 1)).all fun i=>anc l.toArray 0 (n - 1) i) &&
 (l.zipIdx.all fun x=>decide (x.2<n) || x.1.after.any fun e=>Region.binds .any e&&decide (n - 1<=e.on))
def open_ (n:Nat) (listed:Array Bool):Nat:=((List.range n).filter fun i=>!listed.getD i true).length
theorem wpAny_cut {l:List Oper} {n:Nat} {K:Act->World->Prop} (hc:cutFit l n=true)
 (hK:∀ listed:Array Bool,listed.size=l.length->(∀ i,i<n->listed.getD i true=true)->(∀ i,n<=i->i<l.length->listed.getD i true=false)->∀ a w,K a w->wpAny P .any l.toArray Q (l.length - n) listed a w) :
 ∀ (fuel:Nat) (la listed:Array Bool) (a:Act) (w:World),la.size=n->listed.size=l.length->(∀ i,i<n->la.getD i true=listed.getD i true)->(∀ i,n<=i->i<l.length->listed.getD i true=false) ->
 (∀ (i:Nat) (o:Oper),l.toArray[i]?=some o->listed.getD i false=true->∀ e∈o.after,Region.binds .any e=true->listed.getD e.on false=true)->open_ n la=fuel ->
 wpAny P .any (l.take n).toArray (QK K Q) fuel la a w->wpAny P .any l.toArray Q (fuel+(l.length - n)) listed a w:=by
 simp only [cutFit,Bool.and_eq_true,decide_eq_true_eq] at hc;obtain ⟨⟨⟨⟨⟨hn0,hnl⟩,hback⟩,hgu⟩,hanc⟩,hlate⟩:=hc;have hB:∀ (j:Nat) (o:Oper),l[j]?=some o->∀ e∈o.after,Region.binds .any e=true->e.on<j:=fun j o ho e he hb=>by
  have h9:=List.all_eq_true.1 hback _ (mem_zipIdx_of ho);have h10:=Array.all_eq_true'.1 h9 e he;simpa [hb] using h10
 have hL:∀ (j:Nat) (o:Oper),n<=j->l[j]?=some o->∃ e∈o.after,Region.binds .any e=true/\n - 1<=e.on:=fun j o hj ho=>by
  have h9:=List.all_eq_true.1 hlate _ (mem_zipIdx_of ho);simp only [Bool.or_eq_true,decide_eq_true_eq] at h9;rcases h9 with h9 | h9
  ·omega
  ·obtain ⟨e,he,hb⟩:=Array.any_eq_true'.1 h9;simp only [Bool.and_eq_true,decide_eq_true_eq] at hb;exact ⟨e,he,hb.1,hb.2⟩
 have hopen:∀ la:Array Bool,open_ n la=0->∀ i,i<n->la.getD i true=true:=fun la h i hi=>by
  have h1:(List.range n).filter (fun i=>!la.getD i true)=[]:=List.length_eq_zero_iff.1 h;have h2:=List.filter_eq_nil_iff.1 h1 i (List.mem_range.2 hi);simpa using h2
 intro fuel
 induction fuel with
 | zero =>
  intro la listed a w hsa hsl hsame hlo hcl ho h;rw [Nat.zero_add];exact hK listed hsl (fun i hi=>by rw [<- hsame i hi]; exact hopen la ho i hi) hlo a w h.2
 | succ fuel ih =>
  intro la listed a w hsa hsl hsame hlo hcl ho h;have hall:¬ ∀ i,i<n->listed.getD i true=true:=fun hall=>by
   have:(List.range n).filter (fun i=>!la.getD i true)=[]:=List.filter_eq_nil_iff.2 fun i hi=>by
    rw [hsame i (List.mem_range.1 hi),hall i (List.mem_range.1 hi)]; simp
   unfold open_ at ho;rw [this] at ho; simp at ho
  have hgt:∀ i x y,i<l.length->listed.getD i x=listed.getD i y:=fun i x y hi=>by
   rw [Array.getD_eq_getD_getElem?,Array.getD_eq_getD_getElem?,Array.getElem?_eq_getElem aO]; rfl
  have hga:∀ i x y,i<n->la.getD i x=la.getD i y:=fun i x y hi=>by
   rw [Array.getD_eq_getD_getElem?,Array.getD_eq_getD_getElem?,Array.getElem?_eq_getElem aO]; rfl
  have htk:∀ i,i<n->(l.take n).toArray[i]?=l.toArray[i]?:=fun i hi=>by simp [List.getElem?_take,hi]
  have hready:∀ i,i∈Region.ready .any l.toArray listed↔i∈Region.ready .any (l.take n).toArray la:=by
   intro i;constructor
   ·intro hi;obtain ⟨h1,o,h2,h3⟩:=mem_ready.1 hi;have hil:i<l.length:=by have:=(Zt.1 h2).1; simpa using this
    have hin:i<n:=by
     rcases Nat.lt_or_ge i n with h4 | h4
     ·exact h4
     ·exfalso;obtain ⟨e,he,hb,hon⟩:=hL i o h4 (by simpa using h2);have h5:=h3 e he hb;have h6:=hB i o (by simpa using h2) e he hb;have hen:e.on=n - 1:=by
       rcases Nat.lt_or_ge e.on n with h7 | h7
       ·omega
       ·have h8:=hlo e.on h7 aO;rw [hgt e.on true false aO,h5] at h8; cases h8
      rw [hen] at h5;refine hall fun k hk=>?_
      rcases Nat.lt_or_ge k (n - 1) with h9 | h9
      ·have h10:=List.all_eq_true.1 hanc k (List.mem_range.2 h9);have hon1:l.toArray[n - 1]?=some l[n - 1]:=by simp [show n - 1<l.length by omega]
       have:=anc_listed hcl 0 (n - 1) k _ hon1 (fun e he hb=>hcl (n - 1) _ hon1 h5 e he hb) h10;rw [hgt k true false aO]; exact this
      ·have:k=n - 1:=aO
       subst this;rw [hgt (n - 1) true false aO]; exact h5
    refine mem_ready.2 ⟨by rw [hsame i hin]; exact h1,o,by rw [htk i hin]; exact h2,fun e he hb=>?_⟩;have h6:=hB i o (by simpa using h2) e he hb;rw [hga e.on false true aO,hsame e.on aO,hgt e.on true false aO];exact h3 e he hb
   ·intro hi;obtain ⟨h1,o,h2,h3⟩:=mem_ready.1 hi;have hin:i<n:=by have:=(Zt.1 h2).1; simp at this; omega
    rw [htk i hin] at h2;refine mem_ready.2 ⟨by rw [<- hsame i hin]; exact h1,o,h2,fun e he hb=>?_⟩;have h6:=hB i o (by simpa using h2) e he hb;have:=h3 e he hb;rw [hga e.on false true aO,hsame e.on aO,hgt e.on true false aO] at this;exact this
  have hne:Region.ready .any l.toArray listed≠[]:=by
   intro hnil;refine hall ?_;intro i
   induction i using Nat.strongRecOn with
   | ind i ihi =>
    intro hi;cases hlb:listed.getD i true with
    | true=>rfl
    | false =>
     exfalso;have hio:l.toArray[i]?=some l[i]:=by simp [show i<l.length by omega]
     have:i∈Region.ready .any l.toArray listed:=mem_ready.2 ⟨hlb,_,hio,fun e he hb=>by
      have h6:=hB i _ (by simpa using hio) e he hb;rw [hgt e.on false true aO];exact ihi e.on h6 aO⟩
     rw [hnil] at this; cases this
  rw [show fuel+1+(l.length - n)=(fuel+(l.length - n))+1 by omega];refine ⟨fun hnil=>absurd hnil hne,fun i hi=>?_⟩;have hia:=(hready i).1 hi;have hw:=h.2 i hia;obtain ⟨h1,o,h2,h3⟩:=mem_ready.1 hi;have hin:i<n:=by
   obtain ⟨_,o',h2',_⟩:=mem_ready.1 hia;have:=(Zt.1 h2').1; simp at this; omega
  have hog:o.guard=none:=by
   have h9:o∈l.take n:=by
    have h10:(l.take n)[i]?=some o:=by rw [List.getElem?_take,if_pos hin]; simpa using h2
    exact List.mem_of_getElem? h10
   have:=List.all_eq_true.1 hgu o h9;simpa using this
  unfold wpOp at hw ⊢;rw [htk i hin] at hw;rw [h2] at hw ⊢;simp only [] at hw ⊢;have hwant:∀ y,Region.wanted o y=true:=fun y=>by simp [Region.wanted,hog]
  rw [if_pos (hwant _)] at hw ⊢;have hnext:∀ a w,wpAny P .any (l.take n).toArray (QK K Q) fuel (la.setIfInBounds i true) a w->wpAny P .any l.toArray Q (fuel+(l.length - n)) (listed.setIfInBounds i true) a w:=by
   intro a w hh;refine ih _ _ a w (by simpa using hsa) (by simpa using hsl) (fun k hk=>?_) (fun k hk hk2=>?_) (fun k o' ho' hk e he hb=>?_) ?_ hh
   ·simp only [Array.getD_eq_getD_getElem?,Array.getElem?_setIfInBounds];split
    ·rename_i e; subst e
     rw [if_pos aO,if_pos aO]
    ·have:=hsame k hk;simpa only [Array.getD_eq_getD_getElem?] using this
   ·have:=hlo k hk hk2;simp only [Array.getD_eq_getD_getElem?,Array.getElem?_setIfInBounds] at this ⊢;rw [if_neg aO]; exact this
   ·refine getD_mono ?_
    by_cases hki:k=i
    ·subst hki;rw [h2] at ho'; cases ho';exact h3 e he hb
    ·refine hcl k o' ho' ?_ e he hb;simp only [Array.getD_eq_getD_getElem?,Array.getElem?_setIfInBounds] at hk ⊢
     rwa [if_neg (fun h=>hki h.symm)] at hk
   ·
    have key:∀ (L:List Nat),L.Nodup->i∈L->(L.filter fun k=>!la.getD k true).length=(L.filter fun k=>!(la.setIfInBounds i true).getD k true).length+1:=by
     intro L
     induction L with
     | nil=>intro _ h; cases h
     | cons x xs ihx =>
      intro hnd hmem;have hset:(la.setIfInBounds i true).getD i true=true:=by
       rw [Array.getD_eq_getD_getElem?,Array.getElem?_setIfInBounds,if_pos rfl,if_pos aO]; rfl
      have hoth:∀ k,k≠i->(la.setIfInBounds i true).getD k true=la.getD k true:=fun k hk=>by
       rw [Array.getD_eq_getD_getElem?,Array.getD_eq_getD_getElem?,Array.getElem?_setIfInBounds,if_neg (fun h=>hk h.symm)]
      have hlai:la.getD i true=false:=by rw [hsame i hin]; exact h1
      rw [List.nodup_cons] at hnd
      by_cases hxi:x=i
      ·subst hxi;have hxs:xs.filter (fun k=>!la.getD k true)=xs.filter (fun k=>!(la.setIfInBounds x true).getD k true):=List.filter_congr fun k hk=>by
        rw [hoth k (fun e=>hnd.1 (e ▸ hk))]
       rw [List.filter_cons_of_pos (by rw [hlai]; rfl),List.filter_cons_of_neg (by rw [hset]; simp),<- hxs];rfl
      ·have hmx:i∈xs:=by
        rcases List.mem_cons.1 hmem with h | h
        ·exact absurd h.symm hxi
        ·exact h
       have:=ihx hnd.2 hmx;rw [List.filter_cons,List.filter_cons,hoth x hxi];split
       ·simp only [List.length_cons]; omega
       ·exact this
    have:=key (List.range n) List.nodup_range (List.mem_range.2 hin);unfold open_ at ho ⊢;omega
  rcases hw with hw | hw
  ·exact .inl (wp_monoQ QK_of hnext hw)
  ·obtain ⟨h4,b,v,hb⟩:=hw;exact .inr ⟨h4,b,v,QK_of _ _ _ (by intro h; cases h) hb⟩
def putAll:List Oper->List Value->Act->Act
 | o::os,v::vs,a=>putAll os vs (a.put o.dst v)
 | _,_,a=>a
theorem region_cut {id:Nat} {a:Act} {w:World} {l:List Oper} (n:Nat) (K:List Oper->Act->Act->World->Prop) (hm:P.follows .mixedOrders=true) (hc:cutFit l n=true)
 (h1:∀ listed:Array Bool,listed.size=(l.take n).length->(∀ i,i<0->listed.getD i true=true)->(∀ i,0<=i->i<(l.take n).length->listed.getD i true=false)->wpAny P .any (l.take n).toArray (QK (K l a) Q) ((l.take n).length - 0) listed a w.drew)
 (h2:∀ listed:Array Bool,listed.size=l.length->(∀ i,i<n->listed.getD i true=true)->(∀ i,n<=i->i<l.length->listed.getD i true=false)->∀ a' w',K l a a' w'->wpAny P .any l.toArray Q (l.length - n) listed a' w') :
 (Code.region id l.toArray true).wp P Q a w:=by
 refine wp_region_any hm ?_;have hnl:n<=l.length:=by
  simp only [cutFit,Bool.and_eq_true,decide_eq_true_eq] at hc;exact hc.1.1.1.1.2
 have hrep:∀ i,i<n->(Array.replicate n false).getD i true=false:=fun i hi=>by simp [hi]
 have hln:(l.take n).length=n:=aT
 have h0:=h1 (Array.replicate n false) (by rw [hln]; simp) (fun i hi=>aO) (fun i _ hi=>hrep i aO);rw [hln,Nat.sub_zero] at h0;have:=wpAny_cut hc h2 n (Array.replicate n false) (Array.replicate l.length false) a w.drew aS aS (fun i hi=>by simp [hi,show i<l.length by omega]) (fun i _ hi=>by simp [hi])
  (fun i o _ hi=>by
   rw [Array.getD_eq_getD_getElem?,Array.getElem?_replicate] at hi;split at hi <;> simp at hi) (by
   unfold open_;rw [List.filter_eq_self.2 (fun i hi=>by rw [hrep i (List.mem_range.1 hi)]; rfl)]; simp) h0
 rw [show n+(l.length - n)=l.length by omega] at this;simpa using this
end
end Go.Proofs.YtflgngjocgiojaaGreat
