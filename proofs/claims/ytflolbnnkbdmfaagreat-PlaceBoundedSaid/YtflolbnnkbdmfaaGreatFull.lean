import Derived.Test.YtflolbnnkbdmfaaGreatPlcO
set_option linter.all false
namespace Go.Proofs.YtflolbnnkbdmfaaGreat
open Go.RowKit
theorem scale_lt {x y a b D m:Int} (hD:0<D) (hm:0<m) (k1:x*D=a*m) (k2:y*D=b*m):x<y↔a<b:=by
 constructor
 ·intro h;have:=Int.mul_lt_mul_of_pos_right h hD;rw [k1,k2] at this;exact Int.lt_of_mul_lt_mul_right this (Int.le_of_lt hm)
 ·intro h;have:=Int.mul_lt_mul_of_pos_right h hm;rw [<- k1,<- k2] at this;exact Int.lt_of_mul_lt_mul_right this (Int.le_of_lt hD)
theorem cmp_toQ {a b D:Int} (hD:0<D):cmpQ (toQ a D) (toQ b D)=ordI a b:=by
 obtain ⟨g1,e1,_⟩:=of_spec a (show D≠0 by omega);obtain ⟨g2,e2,_⟩:=of_spec b (show D≠0 by omega);have q1:=(goodQ_iff.1 g1).1;have q2:=(goodQ_iff.1 g2).1;show ordI (ofN a D*ofD b D) (ofN b D*ofD a D)=_;generalize ofN a D=p at *;generalize ofD a D=q at *;generalize ofN b D=r at *;generalize ofD b D=s at *;have hqs:0<q*s:=Int.mul_pos q1 q2;have k1:p*s*D=a*(q*s):=by grind
 have k2:r*q*D=b*(q*s):=by grind
 exact ordI_of (scale_lt hD hqs k1 k2) (scale_lt hD hqs k2 k1)
theorem ends_sort {D:Int} (hD:0<D) (s lo hi:Int):endsQ (toQ s D) lo hi=(toQ (min (s*lo) (s*hi)) D,toQ (max (s*lo) (s*hi)) D):=by
 unfold endsQ;rw [mul_int lo aO,mul_int hi aO,cmp_toQ hD];rcases Int.lt_trichotomy (s*lo) (s*hi) with h | h | h
 ·rw [ordI_lt h,if_neg aO,Int.min_eq_left aO,Int.max_eq_right aO]
 ·rw [h,ordI_eq,if_neg aO,Int.min_eq_left aO,Int.max_eq_right aO]
 ·rw [ordI_gt h,if_pos aO,Int.min_eq_right aO,Int.max_eq_left aO]
theorem least_sum {e:Nat->QI×QI} {D:Int} {f g:Nat->Int} {n:Nat} (hD:D≠0) (h:∀ k,k<n->e k=(toQ (f k) D,toQ (g k) D)):∀ k,k<=n->leastQ e k=toQ (sumF f k) D/\mostQ e k=toQ (sumF g k) D
 | 0,_=>⟨zero_toQ hD,zero_toQ hD⟩
 | k+1,hk=>by
  obtain ⟨h1,h2⟩:=least_sum hD h k aO;have h3:=h k aO;refine ⟨?_,?_⟩
  ·show addQ (leastQ e k) (e k).1=_;rw [h1,h3];exact add_same hD
  ·show addQ (mostQ e k) (e k).2=_;rw [h2,h3];exact add_same hD
theorem ceil_le {a d n:Int} (hd:0<d):ceilQ (toQ a d)<=n↔a<=n*d:=by
 obtain ⟨g1,e1,_⟩:=of_spec a (show d≠0 by omega);have q1:=(goodQ_iff.1 g1).1;show -((-ofN a d) / ofD a d)<=n↔_;generalize ofN a d=p at *;generalize ofD a d=q at *;have h1:-((-p) / q)<=n ↔ -n<=(-p) / q:=aO
 rw [h1,Int.le_ediv_iff_mul_le q1];have h2:-n*q <= -p↔¬ n*q<p:=by rw [Int.neg_mul]; omega
 rw [h2,scale_lt (x:=n*q) (y:=p) (a:=n*d) (b:=a) (D:=d) (m:=q) hd q1 (by grind) (by grind)];omega
theorem fold_le {α:Type} (f g:α->Int) (B:Int):∀ (vs:List α) (b:Int),vs.foldl (fun b v=>max (max b (f v)) (g v)) b<=B↔b<=B/\∀ v∈vs,f v<=B/\g v<=B
 | [],b=>aS
 | v::vs,b=>by
  rw [List.foldl_cons,fold_le f g B vs];have h:max (max b (f v)) (g v)<=B↔b<=B/\f v<=B/\g v<=B:=aO
  rw [h];constructor
  ·rintro ⟨⟨h1,h2⟩,h3⟩;refine ⟨h1,fun u hu=>?_⟩;rcases List.mem_cons.1 hu with rfl | hu
   ·exact h2
   ·exact h3 u hu
  ·rintro ⟨h1,h2⟩;exact ⟨⟨h1,h2 v List.mem_cons_self⟩,fun u hu=>h2 u (List.mem_cons_of_mem _ hu)⟩
def uT (Ns:Nat->Nat->Int) (v:V3) (i k:Nat):Int:=shN (Ns k) v i
def sMin (Ns:Nat->Nat->Int) (L:List Loc) (v:V3) (i:Nat):Int:=sumF (fun k=>min (uT Ns v i k*(lAt L k).lo) (uT Ns v i k*(lAt L k).hi)) 6
def sMax (Ns:Nat->Nat->Int) (L:List Loc) (v:V3) (i:Nat):Int:=sumF (fun k=>max (uT Ns v i k*(lAt L k).lo) (uT Ns v i k*(lAt L k).hi)) 6
def wT (Ns:Nat->Nat->Int) (w:Nat->Int) (v:V3) (i:Nat):Int:=sumF (fun k=>w k*uT Ns v i k) 6
structure UnitZ (M:List (List Int)) (xs:Nat->Nat->QI) (Ns:Nat->Nat->Int) (D:Int):Prop where
 pos:0<D
 dsm:D.natAbs<=137594142720
 nsm:∀ k c,(Ns k c).natAbs<=137594142720
 eq:∀ k,k<6->∀ c,c<6->xs k c=toQ (Ns k c) D
 fine:∀ k,k<6->FineS M (unitB k) (xs k)
 row:∀ y,y<6->∀ k,k<6->sumF (fun c=>iAt (rAt M y) c*Ns k c) 6=D*(if y=k then 1 else 0)
 mix:∀ w:List Int,w.length=6->(∀ i,i<6 -> -10000<=iAt w i/\iAt w i<=10000)->∃ x,FineS M w x/\∀ c,c<6->x c=toQ (sumF (fun k=>iAt w k*Ns k c) 6) D
theorem UnitZ.low {M:List (List Int)} {xs:Nat->Nat->QI} {Ns:Nat->Nat->Int} {D:Int} (h:UnitZ M xs Ns D) (L:List Loc) (v:V3) (i:Nat) (n:Int):(lowQ xs L v i<=n ↔ -sMin Ns L v i<=n*(D*100))/\(highQ xs L v i<=n↔sMax Ns L v i<=n*(D*100)):=by
 have hD:=h.pos;have hD0:D≠0:=aO
 have hsh:∀ k,k<6->shiftQ (xs k) v i=toQ (uT Ns v i k) D:=fun k hk=>by
  rw [shift_cut (x':=fun c=>toQ (Ns k c) D) (h.eq k hk)];exact shift_toQ hD0 (fun _=>rfl) v i
 obtain ⟨e1,e2⟩:=least_sum (e:=endsAt xs L v i) hD0 (fun k hk=>by unfold endsAt; rw [hsh k hk]; exact ends_sort hD _ _ _) 6 (Zr _);replace e1:leastQ (endsAt xs L v i) 6=toQ (sMin Ns L v i) D:=e1;replace e2:mostQ (endsAt xs L v i) 6=toQ (sMax Ns L v i) D:=e2;constructor
 ·unfold lowQ;rw [e1,div_toQ hD0 aO,show toQ (sMin Ns L v i) (D * -100)=toQ (-sMin Ns L v i) (D*100) from toQ_eq aO aO (by grind)];exact ceil_le aO
 ·unfold highQ;rw [e2,div_toQ hD0 aO];exact ceil_le aO
theorem UnitZ.best {M:List (List Int)} {xs:Nat->Nat->QI} {Ns:Nat->Nat->Int} {D:Int} (h:UnitZ M xs Ns D) (L:List Loc) (vs:List V3) (i:Nat) (n:Int):bestQ xs L i vs<=n↔0<=n/\∀ v∈vs,-sMin Ns L v i<=n*(D*100)/\sMax Ns L v i<=n*(D*100):=by
 unfold bestQ;rw [fold_le];constructor
 ·rintro ⟨h1,h2⟩;exact ⟨h1,fun v hv=>⟨(h.low L v i n).1.1 (h2 v hv).1,(h.low L v i n).2.1 (h2 v hv).2⟩⟩
 ·rintro ⟨h1,h2⟩;exact ⟨h1,fun v hv=>⟨(h.low L v i n).1.2 (h2 v hv).1,(h.low L v i n).2.2 (h2 v hv).2⟩⟩
theorem sumF_le {f g:Nat->Int}:∀ {n:Nat},(∀ k,k<n->f k<=g k)->sumF f n<=sumF g n
 | 0,_=>Int.le_refl _
 | n+1,h=>by
  have h1:=sumF_le (n:=n) fun k hk=>h k aO
  have h2:=h n aO;show sumF f n+f n<=sumF g n+g n;omega
theorem mul_within {t a b w:Int} (h1:a<=w) (h2:w<=b):min (t*a) (t*b)<=w*t/\w*t<=max (t*a) (t*b):=by
 rw [Int.mul_comm w t];rcases Int.le_total 0 t with h | h
 ·have e1:=Int.mul_le_mul_of_nonneg_left h1 h;have e2:=Int.mul_le_mul_of_nonneg_left h2 h;omega
 ·have e1:=Int.mul_le_mul_of_nonpos_left h h1;have e2:=Int.mul_le_mul_of_nonpos_left h h2;omega
theorem wT_within {Ns:Nat->Nat->Int} {L:List Loc} {w:Nat->Int} (h:∀ k,k<6->(lAt L k).lo<=w k/\w k<=(lAt L k).hi) (v:V3) (i:Nat):sMin Ns L v i<=wT Ns w v i/\wT Ns w v i<=sMax Ns L v i:=
 ⟨sumF_le fun k hk=>(mul_within (h k hk).1 (h k hk).2).1,sumF_le fun k hk=>(mul_within (h k hk).1 (h k hk).2).2⟩
theorem sMax_of (Ns:Nat->Nat->Int) {L:List Loc} (v:V3) (i:Nat):∃ w:Nat->Int,(∀ k,w k=(lAt L k).lo\/w k=(lAt L k).hi)/\sMax Ns L v i=wT Ns w v i:=by
 refine ⟨fun k=>if uT Ns v i k*(lAt L k).lo<=uT Ns v i k*(lAt L k).hi then (lAt L k).hi else (lAt L k).lo,fun k=>?_,sumF_eq fun k _=>?_⟩
 ·show (if _ then _ else _)=_\/(if _ then _ else _)=_;split
  ·exact .inr rfl
  ·exact .inl rfl
 ·show _=(if _ then _ else _)*_;split
  ·rename_i h; rw [Int.max_eq_right h,Int.mul_comm]
  ·rename_i h; rw [Int.max_eq_left aO,Int.mul_comm]
theorem sMin_of (Ns:Nat->Nat->Int) {L:List Loc} (v:V3) (i:Nat):∃ w:Nat->Int,(∀ k,w k=(lAt L k).lo\/w k=(lAt L k).hi)/\sMin Ns L v i=wT Ns w v i:=by
 refine ⟨fun k=>if uT Ns v i k*(lAt L k).lo<=uT Ns v i k*(lAt L k).hi then (lAt L k).lo else (lAt L k).hi,fun k=>?_,sumF_eq fun k _=>?_⟩
 ·show (if _ then _ else _)=_\/(if _ then _ else _)=_;split
  ·exact .inl rfl
  ·exact .inr rfl
 ·show _=(if _ then _ else _)*_;split
  ·rename_i h; rw [Int.min_eq_left h,Int.mul_comm]
  ·rename_i h; rw [Int.min_eq_right aO,Int.mul_comm]
def wN (Ns:Nat->Nat->Int) (w:Nat->Int) (c:Nat):Int:=sumF (fun k=>w k*Ns k c) 6
theorem wT_shN (Ns:Nat->Nat->Int) (w:Nat->Int) (v:V3) (i:Nat):shN (wN Ns w) v i=wT Ns w v i:=by
 match i with
 | 0=>simp only [shN,wN,wT,uT,sumF]; grind
 | 1=>simp only [shN,wN,wT,uT,sumF]; grind
 | n+2=>simp only [shN,wN,wT,uT,sumF]; grind
structure BoxIn (lo hi v:V3):Prop where
 x:lo.x<=v.x/\v.x<=hi.x
 y:lo.y<=v.y/\v.y<=hi.y
 z:lo.z<=v.z/\v.z<=hi.z
theorem corner_mem {lo hi:V3} {x y z:Int} (hx:x=lo.x\/x=hi.x) (hy:y=lo.y\/y=hi.y) (hz:z=lo.z\/z=hi.z):(⟨x,y,z⟩:V3)∈cornersL lo hi:=by
 unfold cornersL;rcases hx with rfl | rfl <;> rcases hy with rfl | rfl <;> rcases hz with rfl | rfl <;> simp
theorem corner_in {lo hi u:V3} (h:lo.x<=hi.x/\lo.y<=hi.y/\lo.z<=hi.z) (hu:u∈cornersL lo hi):BoxIn lo hi u:=by
 unfold cornersL at hu;simp only [List.mem_cons,List.not_mem_nil,or_false] at hu;rcases hu with rfl | rfl | rfl | rfl | rfl | rfl | rfl | rfl <;> exact ⟨by simp only []; omega,by simp only []; omega,by simp only []; omega⟩
theorem lin_end (a:Int) {l h z:Int} (h1:l<=z) (h2:z<=h):∃ z',(z'=l\/z'=h)/\a*z<=a*z':=by
 rcases Int.le_total 0 a with ha | ha
 ·exact ⟨h,.inr rfl,Int.mul_le_mul_of_nonneg_left h2 ha⟩
 ·exact ⟨l,.inl rfl,Int.mul_le_mul_of_nonpos_left ha h1⟩
theorem box_end (N:Nat->Int) {lo hi v:V3} (h:BoxIn lo hi v) (i:Nat):∃ u∈cornersL lo hi,shN N v i<=shN N u i:=by
 match i with
 | 0 =>
  obtain ⟨z,hz,ez⟩:=lin_end (N 4) h.z.1 h.z.2;obtain ⟨y,hy,ey⟩:=lin_end (-N 5) h.y.1 h.y.2;refine ⟨⟨lo.x,y,z⟩,corner_mem (.inl rfl) hy hz,?_⟩;simp only [shN];rw [Int.neg_mul,Int.neg_mul] at ey;omega
 | 1 =>
  obtain ⟨x,hx,ex⟩:=lin_end (N 5) h.x.1 h.x.2;obtain ⟨z,hz,ez⟩:=lin_end (-N 3) h.z.1 h.z.2;refine ⟨⟨x,lo.y,z⟩,corner_mem hx (.inl rfl) hz,?_⟩;simp only [shN];rw [Int.neg_mul,Int.neg_mul] at ez;omega
 | n+2 =>
  obtain ⟨y,hy,ey⟩:=lin_end (N 3) h.y.1 h.y.2;obtain ⟨x,hx,ex⟩:=lin_end (-N 4) h.x.1 h.x.2;refine ⟨⟨x,y,lo.z⟩,corner_mem hx hy (.inl rfl),?_⟩;simp only [shN];rw [Int.neg_mul,Int.neg_mul] at ex;omega
theorem shN_neg (N:Nat->Int) (v:V3) (i:Nat):shN (fun c=>-N c) v i=-shN N v i:=by
 match i with
 | 0=>simp only [shN]; grind
 | 1=>simp only [shN]; grind
 | n+2=>simp only [shN]; grind
theorem box_end' (N:Nat->Int) {lo hi v:V3} (h:BoxIn lo hi v) (i:Nat):∃ u∈cornersL lo hi,shN N u i<=shN N v i:=by
 obtain ⟨u,hu,e⟩:=box_end (fun c=>-N c) h i;rw [shN_neg,shN_neg] at e;exact ⟨u,hu,aO⟩
theorem UnitZ.all {M:List (List Int)} {xs:Nat->Nat->QI} {Ns:Nat->Nat->Int} {D:Int} (h:UnitZ M xs Ns D) {L:List Loc} {lo hi v:V3} (hb:BoxIn lo hi v) {w:Nat->Int} (hw:∀ k,k<6->(lAt L k).lo<=w k/\w k<=(lAt L k).hi) (i:Nat) :
 wT Ns w v i<=bestQ xs L i (cornersL lo hi)*(D*100) /\ -(bestQ xs L i (cornersL lo hi)*(D*100))<=wT Ns w v i:=by
 obtain ⟨_,h2⟩:=(h.best L (cornersL lo hi) i _).1 (Int.le_refl _);obtain ⟨u,hu,e⟩:=box_end (wN Ns w) hb i;obtain ⟨u',hu',e'⟩:=box_end' (wN Ns w) hb i;rw [wT_shN,wT_shN] at e e';have q1:=(wT_within (Ns:=Ns) hw u i).2;have q2:=(wT_within (Ns:=Ns) hw u' i).1;have q3:=(h2 u hu).2;have q4:=(h2 u' hu').1;omega
theorem UnitZ.least {M:List (List Int)} {xs:Nat->Nat->QI} {Ns:Nat->Nat->Int} {D:Int} (h:UnitZ M xs Ns D) {L:List Loc} {vs:List V3} {n:Int} {i:Nat} (hn:0<=n) (hv:∀ v∈vs,∀ w:Nat->Int,(∀ k,w k=(lAt L k).lo\/w k=(lAt L k).hi)->wT Ns w v i<=n*(D*100) /\ -(n*(D*100))<=wT Ns w v i):bestQ xs L i vs<=n:=by
 refine (h.best L vs i n).2 ⟨hn,fun v hvv=>⟨?_,?_⟩⟩
 ·obtain ⟨w,hw,e⟩:=sMin_of Ns (L:=L) v i;have:=(hv v hvv w hw).2;omega
 ·obtain ⟨w,hw,e⟩:=sMax_of Ns (L:=L) v i;have:=(hv v hvv w hw).1;omega
theorem UnitZ.nonneg {M:List (List Int)} {xs:Nat->Nat->QI} {Ns:Nat->Nat->Int} {D:Int} (h:UnitZ M xs Ns D) (L:List Loc) (vs:List V3) (i:Nat):0<=bestQ xs L i vs:=((h.best L vs i _).1 (Int.le_refl _)).1
theorem UnitZ.narrow {M:List (List Int)} {xs:Nat->Nat->QI} {Ns:Nat->Nat->Int} {D:Int} (h:UnitZ M xs Ns D) {L L':List Loc} {lo hi lo' hi':V3} (hb:∀ u∈cornersL lo' hi',BoxIn lo hi u) (hL:∀ k,k<6->(lAt L k).lo<=(lAt L' k).lo/\(lAt L' k).lo<=(lAt L' k).hi/\(lAt L' k).hi<=(lAt L k).hi) (i:Nat):bestQ xs L' i (cornersL lo' hi')<=bestQ xs L i (cornersL lo hi):=
 h.least (h.nonneg L _ i) fun u hu w hw=>h.all (hb u hu) (fun k hk=>by have:=hL k hk; rcases hw k with e | e <;> omega) i
theorem UnitZ.none {M:List (List Int)} {xs:Nat->Nat->QI} {Ns:Nat->Nat->Int} {D:Int} (h:UnitZ M xs Ns D) {L:List Loc} {vs:List V3} (hL:∀ k,k<6->(lAt L k).lo=0/\(lAt L k).hi=0) (i:Nat):bestQ xs L i vs=0:=by
 have h1:=h.nonneg L vs i;have h2:bestQ xs L i vs<=0:=h.least (Int.le_refl _) fun v _ w hw=>by
  have:wT Ns w v i=0:=sumF_zero fun k hk=>by
   have:=hL k hk;rw [show w k=0 by rcases hw k with e | e <;> omega,Int.zero_mul]
  rw [this,Int.zero_mul];omega
 omega
theorem UnitZ.tight {M:List (List Int)} {xs:Nat->Nat->QI} {Ns:Nat->Nat->Int} {D:Int} (h:UnitZ M xs Ns D) {L:List Loc} {v:V3} {w:Nat->Int} (hL:∀ k,k<6->(lAt L k).lo=w k/\(lAt L k).hi=w k) (i:Nat):ceilQ (toQ (max (wT Ns w v i) (-wT Ns w v i)) (D*100))=bestQ xs L i (cornersL v v):=by
 have hD:=h.pos;have h1:ceilQ (toQ (max (wT Ns w v i) (-wT Ns w v i)) (D*100))<=bestQ xs L i (cornersL v v):=by
  rw [ceil_le aO];have:=h.all (L:=L) (lo:=v) (hi:=v) (v:=v) ⟨aO,aO,aO⟩ (w:=w) (fun k hk=>by have:=hL k hk; omega) i;omega
 have h0:0<=ceilQ (toQ (max (wT Ns w v i) (-wT Ns w v i)) (D*100)):=by
  have:¬ ceilQ (toQ (max (wT Ns w v i) (-wT Ns w v i)) (D*100)) <= -1:=by
   rw [ceil_le aO];omega
  omega
 have h2:bestQ xs L i (cornersL v v)<=ceilQ (toQ (max (wT Ns w v i) (-wT Ns w v i)) (D*100)):=h.least h0 fun u hu w' hw'=>by
  have e:u=v:=by
   unfold cornersL at hu;simp only [List.mem_cons,List.not_mem_nil,or_false,or_self] at hu;exact hu
  have e2:wT Ns w' u i=wT Ns w v i:=sumF_eq fun k hk=>by
   have:=hL k hk;rw [e,show w' k=w k by rcases hw' k with e | e <;> omega]
  have e3:=(ceil_le (a:=max (wT Ns w v i) (-wT Ns w v i)) (d:=D*100) aO).1 (Int.le_refl _);rw [e2];omega
 omega
theorem locC_zero {L:List Loc} (h:locC L=0):L.length=6/\locE L=0/\¬ rankZ (locM L)<6:=by
 unfold locC at h;split at h
 case isFalse=>omega
 rename_i hl
 split at h
 case isFalse=>omega
 rename_i he
 split at h
 ·omega
 rename_i hr
 exact ⟨hl,he,hr⟩
theorem mix_row {m w:Nat->Int} {Ns:Nat->Nat->Int} {D:Int} {y:Nat} (hy:y<6) (h:∀ k,k<6->sumF (fun c=>m c*Ns k c) 6=D*(if y=k then 1 else 0)):sumF (fun c=>m c*wN Ns w c) 6=D*w y:=by
 have e1:sumF (fun c=>m c*wN Ns w c) 6=sumF (fun c=>sumF (fun k=>w k*(m c*Ns k c)) 6) 6:=sumF_eq fun c _=>by
  unfold wN;rw [<- sumF_mul];exact sumF_eq fun k _=>by grind
 have e2:∀ k,k<6->sumF (fun c=>w k*(m c*Ns k c)) 6=if k=y then D*w k else 0:=fun k hk=>by
  rw [sumF_mul,h k hk]
  by_cases e:k=y
  ·rw [if_pos e,if_pos e.symm]; grind
  ·rw [if_neg e,if_neg (fun h=>e h.symm)]; grind
 rw [e1,sumF_swap,sumF_eq e2];exact sumF_one (fun k=>D*w k) hy
theorem units_all {L:List Loc} (h:locC L=0):∃ xs Ns D,UnitZ (locM L) xs Ns D:=by
 obtain ⟨hl,he,hr⟩:=locC_zero h;have hne:L≠[]:=fun e=>by subst e; simp at hl
 have hck:=check_locM he aO hne;have hc:=cols_locM hne;have hml:(locM L).length=6:=(locM_len L).trans hl;have hcm:=hc.trans hml.symm;have hok:=locE_zero.1 he;have hle:rankZ (locM L)=6:=by
  have:=(rankZ_le hck).1;omega
 have hrm:=hle.trans hml.symm;have hb1:∀ k i,i<6->(iAt (unitB k) i).natAbs<=24:=fun k i hi=>by rw [unitB_at k hi]; split <;> decide
 have hsol:∀ w:List Int,w.length=6->(∀ i,i<6 -> -10000<=iAt w i/\iAt w i<=10000)->∃ x,FineS (locM L) w x/\∃ N D,SolZ (locM L) w x N D:=fun w hw hb=>by
  obtain ⟨x,h1,h2⟩:=solve_mean hck hcm (hw.trans hml.symm) (anyF_no fun i hi=>not_large (B:=10000) (hb i aO).1 (hb i aO).2 aO);exact ⟨x,h1,h2 hrm⟩
 obtain ⟨D0,hD0,hd0,hcm0⟩:=sol_common (B:=24) (M:=locM L) (fun y hy c _=>by
  obtain ⟨l,h1,_,h3⟩:=rAt_locM (L:=L) (i:=y) (by rw [<- locM_len]; exact hy);rw [h3];exact locR_24 (hok l h1) c) hck hcm hrm
 rw [hml] at hd0;have key0:∀ k,∃ x N0,FineS (locM L) (unitB k) x/\(∀ c,((N0:Nat->Int) c).natAbs<=137594142720)/\(∀ c,c<6->x c=toQ (N0 c) D0)/\∀ y,y<6->sumF (fun c=>iAt (rAt (locM L) y) c*N0 c) 6=D0*iAt (unitB k) y:=fun k=>by
  obtain ⟨x,hf,N,D',hS⟩:=hsol (unitB k) (unitB_len k) (fun i hi=>by have:=hb1 k i hi; omega);obtain ⟨N0,h1,h2,h3⟩:=hcm0 _ _ _ _ (fun y hy=>hb1 k y aO) hS;rw [hml] at h1 h3;rw [hc] at h3;exact ⟨x,N0,hf,h1,fun c hcc=>h2 c aO,h3⟩
 have key:∃ D:Int,0<D/\D.natAbs<=137594142720/\∀ k,∃ x N0,FineS (locM L) (unitB k) x/\(∀ c,((N0:Nat->Int) c).natAbs<=137594142720)/\(∀ c,c<6->x c=toQ (N0 c) D)/\∀ y,y<6->sumF (fun c=>iAt (rAt (locM L) y) c*N0 c) 6=D*iAt (unitB k) y:=by
  have hd1:D0.natAbs<=137594142720:=hd0;rcases Int.lt_or_gt_of_ne hD0 with hD | hD
  ·refine ⟨-D0,aO,aO,fun k=>?_⟩;obtain ⟨x,N0,h1,h2,h3,h4⟩:=key0 k;refine ⟨x,fun c=>-N0 c,h1,fun c=>by rw [Int.natAbs_neg]; exact h2 c,fun c hcc=>?_,fun y hy=>?_⟩
   ·rw [h3 c hcc];exact toQ_eq hD0 aO (by grind)
   ·rw [show sumF (fun c=>iAt (rAt (locM L) y) c * -N0 c) 6=-sumF (fun c=>iAt (rAt (locM L) y) c*N0 c) 6 from by rw [<- sumF_neg]; exact sumF_eq fun c _=>by grind,h4 y hy];grind
  ·exact ⟨D0,hD,hd1,key0⟩
 obtain ⟨D,hD,hd,hk⟩:=key;obtain ⟨xs,hk⟩:=Classical.axiomOfChoice hk;obtain ⟨Ns,hk⟩:=Classical.axiomOfChoice hk;have hrow:∀ y,y<6->∀ k,k<6->sumF (fun c=>iAt (rAt (locM L) y) c*Ns k c) 6=D*(if y=k then 1 else 0):=fun y hy k hk6=>by rw [(hk k).2.2.2 y hy,unitB_at k hy]
 refine ⟨xs,Ns,D,hD,hd,fun k=>(hk k).2.1,fun k _=>(hk k).2.2.1,fun k _=>(hk k).1,hrow,fun w hw hb=>?_⟩;obtain ⟨x,hf,N,D',hS⟩:=hsol w hw hb;refine ⟨x,hf,fun c hcc=>?_⟩;have hu:=full_unique hck hcm hrm (fun c=>wN Ns (iAt w) c*D' - N c*D) (fun y hy=>by
  have h1:=hS.row y hy;rw [hml] at hy;rw [hc] at h1 ⊢;have e:sumF (fun c=>iAt (rAt (locM L) y) c*(wN Ns (iAt w) c*D' - N c*D)) 6=D'*sumF (fun c=>iAt (rAt (locM L) y) c*wN Ns (iAt w) c) 6+(-D)*sumF (fun c=>iAt (rAt (locM L) y) c*N c) 6:=by
   rw [<- sumF_mul,<- sumF_mul,<- sumF_add];exact sumF_eq fun c _=>by grind
  rw [e,h1,mix_row hy (hrow y hy)];grind) c aO
 rw [hS.eq c];refine toQ_eq hS.ne aO ?_;show N c*D=wN Ns (iAt w) c*D';omega
structure MotZ (x:Nat->QI) (N:Nat->Int) (D:Int):Prop where
 pos:0<D
 dsm:D.natAbs<=137594142720
 nsm:∀ c,(N c).natAbs<=8255648563200000
 eq:∀ c,c<6->x c=toQ (N c) D
theorem sm_over {N D:Int} (hD:0<D) (hd:D.natAbs<=137594142720) (hN:N.natAbs<1000000000000000000000000000000):SmQ (toQ N D):=toQ_sm aO (sm_e30 hN) (sm_e30 aO)
theorem p_8300:(8255648563200000:Nat)<2^300:=by decide +kernel
theorem MotZ.shifts {x:Nat->QI} {N:Nat->Int} {D:Int} (h:MotZ x N D) {v:V3} (hv:vIn v=true):SmShifts x v:=
 shifts_cut (x':=fun c=>toQ (N c) D) h.eq (shifts_sm (by have:=h.pos; omega) (Nat.lt_of_le_of_lt h.dsm p_e300) (fun c=>Nat.lt_of_le_of_lt (h.nsm c) p_8300) (fun _=>rfl) hv)
theorem MotZ.shift {x:Nat->QI} {N:Nat->Int} {D:Int} (h:MotZ x N D) (v:V3) (i:Nat):shiftQ x v i=toQ (shN N v i) D:=by
 rw [shift_cut (x':=fun c=>toQ (N c) D) h.eq];exact shift_toQ (by have:=h.pos; omega) (fun _=>rfl) v i
theorem MotZ.sm {x:Nat->QI} {N:Nat->Int} {D:Int} (h:MotZ x N D) {v:V3} (hv:vIn v=true) (i:Nat):(shN N v i).natAbs<=404526779596800000:=by
 simp only [vIn,Bool.and_eq_true,inB_iff] at hv;have k:∀ (t a b:Nat) (x y:Int),(-24<=x/\x<=24)->(-24<=y/\y<=24)->(N t+(N a*x - N b*y)).natAbs<=404526779596800000:=fun t a b x y hx hy=>by
  have e3:=h.nsm t;have f1:(N a*x).natAbs<=8255648563200000*24:=by rw [Int.natAbs_mul]; exact Nat.mul_le_mul (h.nsm a) aO
  have f2:(N b*y).natAbs<=8255648563200000*24:=by rw [Int.natAbs_mul]; exact Nat.mul_le_mul (h.nsm b) aO
  omega
 match i with
 | 0=>exact k _ _ _ _ _ hv.2.2 hv.2.1
 | 1=>exact k _ _ _ _ _ hv.1 hv.2.2
 | n+2=>exact k _ _ _ _ _ hv.2.1 hv.1
theorem UnitZ.mot {M:List (List Int)} {xs:Nat->Nat->QI} {Ns:Nat->Nat->Int} {D:Int} (h:UnitZ M xs Ns D) {w:List Int} (hw:w.length=6) (hb:∀ i,i<6 -> -10000<=iAt w i/\iAt w i<=10000):∃ x,FineS M w x/\MotZ x (wN Ns (iAt w)) D:=by
 obtain ⟨x,h1,h2⟩:=h.mix w hw hb;refine ⟨x,h1,h.pos,h.dsm,fun c=>?_,h2⟩;refine Zm (sumF_abs (B:=10000*137594142720) fun k hk=>?_) (by decide);rw [Int.natAbs_mul];have:=hb k hk;exact Nat.mul_le_mul aO (h.nsm k c)
theorem int_over {D:Int} (hD:D≠0) (z:Int):((z,1):QI)=toQ (z*D) D:=by
 rw [<- toQ_one z];exact toQ_eq aO hD (by grind)
def innerQ (n:V3) (s:Nat->QI):Nat->QI
 | 0=>(0,1)
 | 1=>addQ (0,1) (mulQ (n.x,1) (s 0))
 | 2=>addQ (addQ (0,1) (mulQ (n.x,1) (s 0))) (mulQ (n.y,1) (s 1))
 | _=>addQ (addQ (addQ (0,1) (mulQ (n.x,1) (s 0))) (mulQ (n.y,1) (s 1))) (mulQ (n.z,1) (s 2))
theorem inner_toQ {D:Int} (hD:D≠0) (n:V3) {s:Nat->QI} {S:Nat->Int} (hs:∀ i,i<3->s i=toQ (S i) D):innerQ n s 1=toQ (n.x*S 0) D/\innerQ n s 2=toQ (n.x*S 0+n.y*S 1) D/\innerQ n s 3=toQ (n.x*S 0+n.y*S 1+n.z*S 2) D:=by
 have e1:innerQ n s 1=toQ (n.x*S 0) D:=by
  show addQ (0,1) (mulQ (n.x,1) (s 0))=_;rw [hs 0 aO,int_mul _ hD,zero_toQ hD,add_same hD,Int.zero_add]
 have e2:innerQ n s 2=toQ (n.x*S 0+n.y*S 1) D:=by
  show addQ (innerQ n s 1) (mulQ (n.y,1) (s 1))=_;rw [e1,hs 1 aO,int_mul _ hD,add_same hD]
 refine ⟨e1,e2,?_⟩;show addQ (innerQ n s 2) (mulQ (n.z,1) (s 2))=_;rw [e2,hs 2 aO,int_mul _ hD,add_same hD]
theorem unit_mul {n s:Int} (h1:-1<=n) (h2:n<=1):(n*s).natAbs<=s.natAbs:=by
 have:=mul_unit (b:=s) h1 h2;omega
structure SmInner (n:V3) (s:Nat->QI):Prop where
 p:∀ i,i<3->SmQ (s i)
 x:SmQ (mulQ (n.x,1) (s 0))
 y:SmQ (mulQ (n.y,1) (s 1))
 z:SmQ (mulQ (n.z,1) (s 2))
 one:SmQ (innerQ n s 1)
 two:SmQ (innerQ n s 2)
 three:SmQ (innerQ n s 3)
theorem Loc.Ok.small_in {l:Loc} (h:l.Ok):vIn l.p=true:=by
 simp only [vIn,Bool.and_eq_true,inB_iff];exact ⟨h.px,h.py,h.pz⟩
theorem inner_sm {x:Nat->QI} {N:Nat->Int} {D:Int} (h:MotZ x N D) {l:Loc} (hl:l.Ok) {w:Int} (hr:sumF (fun c=>iAt (locR l) c*N c) 6=D*w):SmInner l.n (shiftQ x l.p)/\innerQ l.n (shiftQ x l.p) 3=(w,1):=by
 have hD:=h.pos;have hD0:D≠0:=aO
 have hs:=fun i=>h.sm hl.small_in i
 obtain ⟨e1,e2,e3⟩:=inner_toQ hD0 l.n (s:=shiftQ x l.p) (S:=shN N l.p) (fun i _=>h.shift l.p i);have m1:=unit_mul (s:=shN N l.p 0) hl.nx.1 hl.nx.2;have m2:=unit_mul (s:=shN N l.p 1) hl.ny.1 hl.ny.2;have m3:=unit_mul (s:=shN N l.p 2) hl.nz.1 hl.nz.2;have s0:=hs 0;have s1:=hs 1;have s2:=hs 2;refine ⟨⟨fun i _=>?_,?_,?_,?_,?_,?_,?_⟩,?_⟩
 ·rw [h.shift]; exact sm_over hD h.dsm (by have:=hs i; omega)
 ·rw [h.shift,int_mul _ hD0]; exact sm_over hD h.dsm aO
 ·rw [h.shift,int_mul _ hD0]; exact sm_over hD h.dsm aO
 ·rw [h.shift,int_mul _ hD0]; exact sm_over hD h.dsm aO
 ·rw [e1]; exact sm_over hD h.dsm aO
 ·rw [e2]; exact sm_over hD h.dsm aO
 ·rw [e3]; exact sm_over hD h.dsm aO
 ·rw [e3,own_shift hl,hr,int_over hD0 w,Int.mul_comm]
theorem UnitZ.bd {M:List (List Int)} {xs:Nat->Nat->QI} {Ns:Nat->Nat->Int} {D:Int} (h:UnitZ M xs Ns D) {L:List Loc} (hL:∀ k,k<6->(-10000<=(lAt L k).lo/\(lAt L k).lo<=10000) /\ -10000<=(lAt L k).hi/\(lAt L k).hi<=10000) {vs:List V3} (hv:∀ v∈vs,vIn v=true) (i:Nat):bestQ xs L i vs<=4500000000000000:=by
 have hD:=h.pos;refine h.least aO fun v hvv w hw=>?_
 have:(wT Ns w v i).natAbs<=6*(10000*6742112993280):=sumF_abs fun k hk=>by
  rw [Int.natAbs_mul];have:=hL k hk;exact Nat.mul_le_mul (by rcases hw k with e | e <;> omega) (shN_le (h.nsm k) (hv v hvv) i)
 omega
theorem cmp_hundred {x:Nat->QI} {N:Nat->Int} {D:Int} (h:MotZ x N D) (v:V3) (i:Nat) (z:Int):cmpQ (shiftQ x v i) (z,1)=ordI (shN N v i) (z*D):=by
 have hD:=h.pos;rw [h.shift,int_over (D:=D) aO z,cmp_toQ hD]
theorem UnitZ.change {L:List Loc} (hC:locC L=0) {xs:Nat->Nat->QI} {Ns Ns':Nat->Nat->Int} {D D':Int} (h:UnitZ (locM L) xs Ns D) (hD':0<D') (hd:D'.natAbs<=137594142720) (hn:∀ k c,(Ns' k c).natAbs<=137594142720)
 (hr':∀ y,y<6->∀ k,k<6->sumF (fun c=>iAt (rAt (locM L) y) c*Ns' k c) 6=D'*(if y=k then 1 else 0)):UnitZ (locM L) xs Ns' D':=by
 obtain ⟨hl,he,hr⟩:=locC_zero hC;have hne:L≠[]:=fun e=>by subst e; simp at hl
 have hck:=check_locM he aO hne;have hc:=cols_locM hne;have hml:(locM L).length=6:=(locM_len L).trans hl;have hcm:=hc.trans hml.symm;have hle:rankZ (locM L)=6:=by
  have:=(rankZ_le hck).1;omega
 have hD:=h.pos;have key:∀ k,k<6->∀ c,c<6->Ns k c*D'=Ns' k c*D:=fun k hk c hcc=>by
  have hu:=full_unique hck hcm (hle.trans hml.symm) (fun c=>Ns k c*D' - Ns' k c*D) (fun y hy=>by
   rw [hml] at hy;rw [hc];have e:sumF (fun c=>iAt (rAt (locM L) y) c*(Ns k c*D' - Ns' k c*D)) 6=D'*sumF (fun c=>iAt (rAt (locM L) y) c*Ns k c) 6+(-D)*sumF (fun c=>iAt (rAt (locM L) y) c*Ns' k c) 6:=by
    rw [<- sumF_mul,<- sumF_mul,<- sumF_add];exact sumF_eq fun c _=>by grind
   rw [e,h.row y hy k hk,hr' y hy k hk];grind) c aO
  omega
 refine ⟨hD',hd,hn,fun k hk c hcc=>?_,h.fine,hr',fun w hw hb=>?_⟩
 ·rw [h.eq k hk c hcc];exact toQ_eq aO aO (key k hk c hcc)
 ·obtain ⟨x,h1,h2⟩:=h.mix w hw hb;refine ⟨x,h1,fun c hcc=>?_⟩;rw [h2 c hcc];refine toQ_eq aO aO ?_;rw [Int.mul_comm,<- sumF_mul,Int.mul_comm,<- sumF_mul];exact sumF_eq fun k hk=>by have:=key k hk c hcc; grind
def exL:List Loc:=[⟨⟨0,0,0⟩,⟨0,0,1⟩,-100,100⟩,⟨⟨4,0,0⟩,⟨0,0,1⟩,-100,100⟩,⟨⟨0,4,0⟩,⟨0,0,1⟩,-100,100⟩,⟨⟨0,0,0⟩,⟨0,1,0⟩,-100,100⟩,⟨⟨4,0,0⟩,⟨0,1,0⟩,-100,100⟩,⟨⟨0,0,0⟩,⟨1,0,0⟩,-100,100⟩]
def exLine:List Loc:=[⟨⟨0,0,0⟩,⟨0,0,1⟩,-100,100⟩,⟨⟨4,0,0⟩,⟨0,0,1⟩,-100,100⟩,⟨⟨2,0,0⟩,⟨0,0,1⟩,-100,100⟩,⟨⟨0,0,0⟩,⟨0,1,0⟩,-100,100⟩,⟨⟨4,0,0⟩,⟨0,1,0⟩,-100,100⟩,⟨⟨0,0,0⟩,⟨1,0,0⟩,-100,100⟩]
def exLong:List Loc:=[⟨⟨0,0,0⟩,⟨0,0,2⟩,-100,100⟩,⟨⟨4,0,0⟩,⟨0,0,1⟩,-100,100⟩,⟨⟨0,4,0⟩,⟨0,0,1⟩,-100,100⟩,⟨⟨0,0,0⟩,⟨0,1,0⟩,-100,100⟩,⟨⟨4,0,0⟩,⟨0,1,0⟩,-100,100⟩,⟨⟨0,0,0⟩,⟨1,0,0⟩,-100,100⟩]
theorem ex_C:locC exL=0:=by decide +kernel
theorem ex_line:locC exLine=20:=by decide +kernel
theorem ex_long:locC exLong=1:=by decide +kernel
theorem ex_few:locC (exL.take 5)=2:=by decide +kernel
theorem ex_F:locF exL=0/\¬ kernF (locZ exL)<6:=by decide +kernel
theorem ex_F5:locF (exL.take 5)=0/\kernF (locZ (exL.take 5))=0:=by decide +kernel
theorem ex_F0:locF []=0/\kernF (locZ [])=0:=by decide +kernel
theorem kerZ_zero {M:List (List Int)} {Z:List Int} (h:KerZ M Z 0) (hc:cols M=6):Z=[1,0,0,0,0,0]:=by
 have hl:=h.len;rw [hc] at hl;have hz:=h.zero;rw [hc] at hz;have h0:=h.pos;have hp:=h.prim (iAt Z 0).natAbs (fun i hi=>by
  cases i with
  | zero=>exact Nat.dvd_refl _
  | succ i=>rw [hz (i+1) aO aO]; exact Nat.dvd_zero _)
 match Z,hl with
 | [a,b,c,d,e,f],_ =>
  have h1:b=0:=hz 1 aO aO;have h2:c=0:=hz 2 aO aO;have h3:d=0:=hz 3 aO aO;have h4:e=0:=hz 4 aO aO;have h5:f=0:=hz 5 aO aO;have h6:0<a:=h0;have h7:a.natAbs=1:=hp;rw [h1,h2,h3,h4,h5,show a=1 by omega]
def exT:List (List Int):=[[0,0,4,-1,1,0],[0,0,0,0,-1,0],[0,0,0,1,0,0],[0,4,0,0,0,-1],[0,0,0,0,0,1],[4,0,0,0,0,0]]
def exN (k c:Nat):Int:=iAt (rAt exT k) c
theorem exN_le (k c:Nat):(exN k c).natAbs<=137594142720:=by
 unfold exN;have h:∀ r∈exT,∀ z∈r,z.natAbs<=4:=by decide
 have e:(iAt (rAt exT k) c).natAbs<=4:=by
  unfold iAt rAt;rw [Ze,Ze];cases h1:exT[k]? with
  | none=>simp
  | some r =>
   cases h2:r[c]? with
   | none=>simp [h2]
   | some z=>simp [h2]; exact h r (List.mem_of_getElem? h1) z (List.mem_of_getElem? h2)
 omega
theorem exN_row:∀ y,y<6->∀ k,k<6->sumF (fun c=>iAt (rAt (locM exL) y) c*exN k c) 6=4*(if y=k then 1 else 0):=by decide +kernel
theorem ex_unit:∃ xs,UnitZ (locM exL) xs exN 4:=by
 obtain ⟨xs,Ns,D,h⟩:=units_all ex_C;exact ⟨xs,h.change ex_C aO (by decide) exN_le exN_row⟩
theorem ex_best1 {xs:Nat->Nat->QI} (h:UnitZ (locM exL) xs exN 4):bestQ xs exL 0 (cornersL ⟨0,0,0⟩ ⟨0,0,0⟩)=1/\bestQ xs exL 1 (cornersL ⟨0,0,0⟩ ⟨0,0,0⟩)=1/\bestQ xs exL 2 (cornersL ⟨0,0,0⟩ ⟨0,0,0⟩)=1:=by
 have h1:=fun i=>(h.best exL (cornersL ⟨0,0,0⟩ ⟨0,0,0⟩) i 1).2
 have h2:=fun i=>mt (h.best exL (cornersL ⟨0,0,0⟩ ⟨0,0,0⟩) i 0).1
 have a0:=h1 0 (by decide +kernel);have a1:=h1 1 (by decide +kernel);have a2:=h1 2 (by decide +kernel);have b0:=h2 0 (by decide +kernel);have b1:=h2 1 (by decide +kernel);have b2:=h2 2 (by decide +kernel);omega
theorem ex_best2 {xs:Nat->Nat->QI} (h:UnitZ (locM exL) xs exN 4):bestQ xs exL 0 (cornersL ⟨0,0,0⟩ ⟨4,4,0⟩)=3/\bestQ xs exL 1 (cornersL ⟨0,0,0⟩ ⟨4,4,0⟩)=1/\bestQ xs exL 2 (cornersL ⟨0,0,0⟩ ⟨4,4,0⟩)=3:=by
 have h1:=fun i n=>(h.best exL (cornersL ⟨0,0,0⟩ ⟨4,4,0⟩) i n).2
 have h2:=fun i n=>mt (h.best exL (cornersL ⟨0,0,0⟩ ⟨4,4,0⟩) i n).1
 have a0:=h1 0 3 (by decide +kernel);have a1:=h1 1 1 (by decide +kernel);have a2:=h1 2 3 (by decide +kernel);have b0:=h2 0 2 (by decide +kernel);have b1:=h2 1 0 (by decide +kernel);have b2:=h2 2 2 (by decide +kernel);omega
def exV:List Int:=[0,0,100,0,0,0]
theorem ex_mot {xs:Nat->Nat->QI} (h:UnitZ (locM exL) xs exN 4):∃ x,FineS (locM exL) exV x/\SmShifts x ⟨1,2,4⟩/\(∀ c,c<6->x c=(if c=3 then 25 else 0,1))/\shiftQ x ⟨1,2,4⟩ 0=(0,1)/\shiftQ x ⟨1,2,4⟩ 1=(-100,1)/\shiftQ x ⟨1,2,4⟩ 2=(50,1):=by
 obtain ⟨x,h1,h2⟩:=h.mot (w:=exV) rfl (by decide);refine ⟨x,h1,h2.shifts rfl,fun c hc=>?_,?_,?_,?_⟩
 ·rw [h2.eq c hc,int_over (D:=4) aO];exact toQ_eq aO aO (by revert c; decide +kernel)
 ·rw [h2.shift,int_over (D:=4) aO];exact toQ_eq aO aO (by decide +kernel)
 ·rw [h2.shift,int_over (D:=4) aO];exact toQ_eq aO aO (by decide +kernel)
 ·rw [h2.shift,int_over (D:=4) aO];exact toQ_eq aO aO (by decide +kernel)
theorem late_append {P:Program} {w:World} {o:Oper} {a:Act} {K:Value->World->Prop} (s x:Operand) (t:TypeId)
 (ho:o.op = .call { callee:= .builtin .append,args:=#[s,x],argTypes:=#[t,t] })
 (base:Nat) (e:TypeId) (i:TypeInfo) (z:Value) (size bytes:Nat) (ht:P.underlying t=some (.slice e)) (hi:P.info? e=some i) (hz:i.zero=some z)
 (hsize:i.size=size) (hby:i.bytes=bytes) (hzs:z.cells.size=size) (hsz:0<size)
 (v:Value) (n:Nat) (xs:List Value) (hs:a.eval s=v) (hown:w.ownsRow base e size v n xs)
 (ad:Addr) (m c:Nat) (news:List Value) (hx:a.eval x = .slice (some ad) m c) (hl:news.length=m*size) (hnews:∀ j u,news[j]?=some u->w.cell? (ad.add j)=some u) (h1:∀ u∈news,u.oneCell'=true)
 (hm:0<m) (h63:n+m<=maxLen) (hbytes:(n+m)*bytes<=140737488355328) (hbase:base<=w.heap.size) (H:Nat) (hH:w.heap.size=H)
 (h:∀ g cap w',w'.ownsRow base e size (.slice (some ⟨g,0,none⟩) (n+m) cap) (n+m) (xs++news)->w.grownBy w' v.ownBlock->(v.ownBlock=some g\/g=H)->g<w'.heap.size->K (.slice (some ⟨g,0,none⟩) (n+m) cap) w'):lateOp P o a w K:=by
 obtain ⟨g,cap,w',hr,h2,h3,h4,h5⟩:=run_append_lies (P:=P) w t o.type base e i z size bytes ht hi hz hsize hby hzs hsz v n xs hown ad m c news hl hnews h1 hm h63 hbytes hbase H hH;unfold lateOp execOp;simp only [ho,resolve,invoke,builtin,Sem.run_bind,Sem.run_pure,Result.andThen_ok,List.map_toArray,List.map_cons,List.map_nil,hs,hx,hr,lateUpon];exact h g cap w' h2 h3 h4 h5
def appB (T:List Nat) (base n:Nat) (e:TypeId) (xs:List Value):EBS T where
 val p:= .slice (some ⟨p.1,0,none⟩) n p.2
 R p u:=p.1∉T/\u.ownsRow base e 1 (.slice (some ⟨p.1,0,none⟩) n p.2) n xs
 st _ _ _ h k:=⟨h.1,ownsRow_blk h.2 fun b hb hlt=>k.block b hlt (by cases hb; exact h.1)⟩
theorem appB_val {T:List Nat} {base n:Nat} {e:TypeId} {xs:List Value} {p:Nat×Nat}:(appB T base n e xs).val p = .slice (some ⟨p.1,0,none⟩) n p.2:=rfl
theorem upd_grown {T:List Nat} {u u':World} {v:Option Nat} (h:u.grownBy u' v) (hT:∀ b,v=some b->b∈T):Upd T u u':=
 ⟨h.os,h.tape,h.output,h.size,fun b hlt hb=>h.block b hlt fun e=>hb (hT b e.symm)⟩
end Go.Proofs.YtflolbnnkbdmfaaGreat
