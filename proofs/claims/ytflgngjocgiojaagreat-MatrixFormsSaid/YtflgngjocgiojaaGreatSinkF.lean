import Derived.Test.YtflgngjocgiojaaGreatFrame3
set_option linter.all false
namespace Go.Proofs.YtflgngjocgiojaaGreat
open Go.RowKit
section
variable {P:Program} {ops:Array Oper} {n f:Nat} {T:List Nat} {w:World} {Q:Exit->Act->World->Prop}
def freeMove (l:List Oper) (f:Nat) (s d:Tmp):Bool:=match l[f]? with
 | some o=>(match o.op with | .move (.tmp s')=>s'==s | _=>false)&&o.dst==some d&&(o.after.all fun e=>!Region.binds .any e)&&o.guard.isNone &&
  ((List.range l.length).all fun j=>j==f || match l[j]? with | some oj=>(oj.after.any fun e=>Region.binds .any e&&e.on==f) || o.apart l.toArray oj | none=>true)
 | none=>false
theorem freeMove_spec {l:List Oper} {f:Nat} {s d:Tmp} (h:freeMove l f s d=true):∃ o,l[f]?=some o/\o.op = .move (.tmp s)/\o.dst=some d/\(∀ e∈o.after,Region.binds .any e=true->False)/\o.guard=none /\
 ∀ j oj,l[j]?=some oj->j≠f->(∀ e∈oj.after,Region.binds .any e=true->e.on≠f)->o.apart l.toArray oj=true:=by
 unfold freeMove at h;split at h
 ·rename_i o ho
  simp only [Bool.and_eq_true] at h;obtain ⟨⟨⟨⟨h1,h2⟩,h3⟩,h4⟩,h5⟩:=h;refine ⟨o,ho,?_,by simpa using h2,fun e he hb=>?_,by simpa using h4,fun j oj hj hjf hn=>?_⟩
  ·split at h1
   ·rename_i s' he
    have:s'=s:=by simpa using h1
    rw [he,this]
   ·cases h1
  ·have:=Array.all_eq_true'.1 h3 e he;rw [hb] at this; cases this
  ·have hjl:j<l.length:=(List.getElem?_eq_some_iff.1 hj).1;have h6:=List.all_eq_true.1 h5 j (List.mem_range.2 hjl);rw [hj] at h6;have h0:(j==f)=false:=by simpa using hjf
   simp only [h0,Bool.false_or,Bool.or_eq_true] at h6;rcases h6 with h6 | h6
   ·obtain ⟨e,he,hb⟩:=Array.any_eq_true'.1 h6;simp only [Bool.and_eq_true,beq_iff_eq] at hb;exact absurd hb.2 (hn e he hb.1)
   ·exact h6
 ·cases h
theorem region_sinkF {id:Nat} {a:Act} {l:List Oper} (n f:Nat) (s d:Tmp) (x:Value) (T:List Nat) (hx:a.eval (.tmp s)=x) (hm:P.follows .mixedOrders=true) (hfn:f<n) (hB:lateFit l n (l.length - n)=true) (hF:freeMove l f s d=true)
 (hp:placesFit (l.take f++(l.take n).drop (f+1)) a.tmps.size=true)
 (hQ:∀ c a' w,Q (.panic c) (a'.put (some d) x) w->Q (.panic c) a' w)
 (h:∃ A,(∀ v,Keeps T w v->Nonempty (Later T w v)->wpQuiet P l.toArray (fun w'=>∃ x:Later T w v,w'=x.u) (fun a'=>a'=A) (l.take f++(l.take n).drop (f+1)) (a.put (some d) x)) /\
  (∀ u,Below w.heap.size w u->wpSinkF P l.toArray n f true T w (Q .normal) (l.drop n) A u)):(Code.region id l.toArray true).wp P Q a w:=by
 subst hx;obtain ⟨A,hq,hl⟩:=h;have F:=fit_of hB;have hnl:n<=l.length:=by simp only [lateFit,Bool.and_eq_true,decide_eq_true_eq] at hB; omega
 rw [show n+(l.length - n)=l.length by omega] at F;obtain ⟨o,ho,hop,hod,hof,hog,hoa⟩:=freeMove_spec hF;refine wp_region_any hm ?_;obtain ⟨k,hk⟩:∃ k,l.toArray.size=k+1:=⟨l.length - 1,aT⟩;have hk':l.length=k+1:=by simpa using hk
 rw [hk];refine wpAny_first (i:=f) (oi:=o) (v:=a.eval (.tmp s)) (by simpa using ho) F.sel (by rw [hod]; exact hQ) _ _ _ _ (fun j oj hj hjf _ hn=>hoa j oj (by simpa using hj) hjf hn) ?_ (.inl ⟨by simp [Region.wanted,hog],fun w=>?_⟩) ?_
 ·refine mem_ready.2 ⟨by rw [Array.getD_eq_getD_getElem?,Array.getElem?_replicate,if_pos aO]; rfl,o,by simpa using ho,fun e he hb=>absurd (hof e he hb) (fun h=>h)⟩
 ·unfold execOp;rw [hop];simp [go_sem]
 rw [hod];simp only [placesFit,Bool.and_eq_true,decide_eq_true_eq] at hp;have hlenq:(l.take f++(l.take n).drop (f+1)).length=(List.range' 0 f++List.range' (f+1) (n - (f+1))).length:=aT
 have hidx:∀ (j i:Nat),(List.range' 0 f++List.range' (f+1) (n - (f+1)))[j]?=some i->(l.take f++(l.take n).drop (f+1))[j]?=l.toArray[i]?:=by
  intro j i hj;rw [List.getElem?_append] at hj ⊢;simp only [List.length_range',List.length_take] at hj ⊢;rw [show min f l.length=f by omega];split at hj
  ·rename_i hjn
   rw [if_pos hjn];rw [List.getElem?_range' hjn] at hj;simp only [Option.some.injEq] at hj;subst hj;rw [List.getElem?_take_of_lt hjn]; simp
  ·rename_i hjn
   rw [if_neg hjn];rw [List.getElem?_eq_some_iff] at hj;obtain ⟨hj3,hj4⟩:=hj;simp only [List.getElem_range'] at hj4;simp only [List.length_range'] at hj3;rw [List.getElem?_drop,List.getElem?_take_of_lt aO];simp;congr 1;omega
 have hsz:(a.put (some d) (a.eval (.tmp s))).tmps.size=a.tmps.size:=put_size a (some d) _;have hY:=fun v hv=>yseq_of_quiet (P:=P) (ops:=l.toArray) (C:=CL T w v) (A:=A) (l.take f++(l.take n).drop (f+1)) _ (a.put (some d) (a.eval (.tmp s))) hlenq hidx (fun o ho=>by
  have:=List.all_eq_true.1 hp.1 o ho;cases hd:o.dst with
  | none=>rw [hd] at this; cases this
  | some d=>rw [hd] at this; exact ⟨d,rfl,by rw [hsz]; simpa using this⟩) hp.2 (hq v hv ⟨⟨v,hv,Zb _ _⟩⟩)
 have hw0:Below w.heap.size w w.drew:=(Zb _ _).drew;have hmem:∀ k,k∈List.range' 0 f++List.range' (f+1) (n - (f+1))↔(k<n/\k≠f):=fun k=>by
  rw [List.mem_append,List.mem_range'_1,List.mem_range'_1]; omega
 have hgetL:∀ i b,i<l.length->((Array.replicate l.toArray.size false).setIfInBounds f true).getD i b=decide (i=f):=fun i b hi=>by
  rw [Array.getD_eq_getD_getElem?,Array.getElem?_setIfInBounds]
  by_cases e:f=i
  ·subst e; rw [if_pos rfl,if_pos aT]; simp
  ·rw [if_neg e,Array.getElem?_replicate,if_pos (by simpa using hi)];simp; exact fun h=>e h.symm
 rw [show Array.replicate (k+1) false=Array.replicate l.toArray.size false by rw [hk]];have:=sinkF_main (P:=P) (T:=T) (w:=w) (Q:=Q) (q:=true) (e:=l.length) (f:=f) (fun _=>aS) aS F k (List.range' 0 f++List.range' (f+1) (n - (f+1))) (l.drop n) n _ ((Array.replicate l.toArray.size false).setIfInBounds f true) (a.put (some d) (a.eval (.tmp s))) w.drew
  aT aS aT (Zr _) (fun k hk=>by rw [List.getElem?_drop]; simp)
  (by
   rw [List.pairwise_append];refine ⟨List.pairwise_lt_range',List.pairwise_lt_range',fun x hx y hy=>?_⟩;have:=List.mem_range'_1.1 hx;have:=List.mem_range'_1.1 hy;omega) (fun i hi=>by have:=(hmem i).1 hi; simp; omega)
  (fun i hi=>by
   have hi':i<l.length:=by simpa using hi
   rw [hmem,hgetL i true hi',decide_eq_false_iff_not];omega) (fun i o' ho' hi=>by
   have hi':i<l.length:=by have:=(Zt.1 ho').1; simpa using this
   rw [hgetL i false hi'] at hi;obtain rfl:i=f:=of_decide_eq_true hi;have:o'=o:=by simp at ho'; rw [ho] at ho'; cases ho'; rfl
   subst this;exact fun e he hb=>absurd (hof e he hb) (fun h=>h)) (by rw [List.length_map]; exact hlenq.symm) (fun i hi=>((hmem i).1 hi).2) (fun v hv=>(hY v hv).1) (.inr (Keeps.of_below hw0)) (.inr fun u' hu'=>?_)
 ·exact this
 ·rw [(hY w (Keeps.refl _ _)).2];exact hl u' (hw0.trans hu')
end
end Go.Proofs.YtflgngjocgiojaaGreat
