import Derived.Test.YtflolbnnkbdmfaaGreatPlcD
set_option linter.all false
namespace Go.Proofs.YtflolbnnkbdmfaaGreat
def shiftC (t a b:QI) (x y:Int):QI:=addQ t (subQ (mulQ a (x,1)) (mulQ b (y,1)))
structure SmShift (t a b:QI) (x y:Int):Prop where
 ht:SmQ t
 ha:SmQ a
 hb:SmQ b
 p:SmQ (mulQ a (x,1))
 q:SmQ (mulQ b (y,1))
 d:SmQ (subQ (mulQ a (x,1)) (mulQ b (y,1)))
 s:SmQ (shiftC t a b x y)
def shiftQ (x:Nat->QI) (v:V3):Nat->QI
 | 0=>shiftC (x 0) (x 4) (x 5) v.z v.y
 | 1=>shiftC (x 1) (x 5) (x 3) v.x v.z
 | _=>shiftC (x 2) (x 3) (x 4) v.y v.x
structure SmShifts (x:Nat->QI) (v:V3):Prop where
 c0:SmShift (x 0) (x 4) (x 5) v.z v.y
 c1:SmShift (x 1) (x 5) (x 3) v.x v.z
 c2:SmShift (x 2) (x 3) (x 4) v.y v.x
theorem add_same {a b D:Int} (hD:D≠0):addQ (toQ a D) (toQ b D)=toQ (a+b) D:=by
 rw [add_toQ hD hD];exact toQ_eq (Int.mul_ne_zero hD hD) hD (by grind)
theorem sub_same {a b D:Int} (hD:D≠0):subQ (toQ a D) (toQ b D)=toQ (a - b) D:=by
 rw [sub_toQ hD hD];exact toQ_eq (Int.mul_ne_zero hD hD) hD (by grind)
theorem mul_int {a D:Int} (k:Int) (hD:D≠0):mulQ (toQ a D) (k,1)=toQ (a*k) D:=by
 rw [<- toQ_one k,mul_toQ hD aO,Int.mul_one]
theorem shiftC_toQ {T A B D:Int} (hD:D≠0) (x y:Int):shiftC (toQ T D) (toQ A D) (toQ B D) x y=toQ (T+(A*x - B*y)) D:=by
 unfold shiftC;rw [mul_int x hD,mul_int y hD,sub_same hD,add_same hD]
theorem abs_mul24 {a x:Int} {n:Nat} (ha:a.natAbs<n) (h1:-24<=x) (h2:x<=24):(a*x).natAbs<=n*24:=by
 rw [Int.natAbs_mul];exact Nat.mul_le_mul (Nat.le_of_lt ha) aO
theorem p_310:2^300*49<2^310:=by decide +kernel
theorem p_310s:2^310<2^1000:=by decide +kernel
theorem p_310a:2^300<2^310:=by decide +kernel
theorem sm_310 {z:Int} (h:z.natAbs<2^310):Sm z:=Nat.lt_trans h p_310s
theorem sm_shift {T A B D:Int} (hD:D≠0) (hd:D.natAbs<2^300) (hT:T.natAbs<2^300) (hA:A.natAbs<2^300) (hB:B.natAbs<2^300) {x y:Int} (hx:-24<=x/\x<=24) (hy:-24<=y/\y<=24):SmShift (toQ T D) (toQ A D) (toQ B D) x y:=by
 have e1:=abs_mul24 hA hx.1 hx.2;have e2:=abs_mul24 hB hy.1 hy.2;have hp:=p_310;have hDs:Sm D:=sm_310 (Nat.lt_trans hd p_310a);have k:∀ z:Int,z.natAbs<=2^300*49->SmQ (toQ z D):=fun z hz=>toQ_sm hD (sm_310 (Nat.lt_of_le_of_lt hz hp)) hDs
 generalize 2^300=n at *;refine ⟨k _ aO,k _ aO,k _ aO,?_,?_,?_,?_⟩
 ·rw [mul_int x hD]; exact k _ aO
 ·rw [mul_int y hD]; exact k _ aO
 ·rw [mul_int x hD,mul_int y hD,sub_same hD]; exact k _ aO
 ·rw [shiftC_toQ hD]; exact k _ aO
def shN (N:Nat->Int) (v:V3):Nat->Int
 | 0=>N 0+(N 4*v.z - N 5*v.y)
 | 1=>N 1+(N 5*v.x - N 3*v.z)
 | _=>N 2+(N 3*v.y - N 4*v.x)
theorem shift_toQ {x:Nat->QI} {N:Nat->Int} {D:Int} (hD:D≠0) (he:∀ c,x c=toQ (N c) D) (v:V3) (i:Nat):shiftQ x v i=toQ (shN N v i) D:=by
 match i with
 | 0=>show shiftC _ _ _ _ _=_; rw [he,he,he,shiftC_toQ hD]; rfl
 | 1=>show shiftC _ _ _ _ _=_; rw [he,he,he,shiftC_toQ hD]; rfl
 | n+2=>show shiftC _ _ _ _ _=_; rw [he,he,he,shiftC_toQ hD]; rfl
theorem shifts_sm {x:Nat->QI} {N:Nat->Int} {D:Int} (hD:D≠0) (hd:D.natAbs<2^300) (hN:∀ c,(N c).natAbs<2^300) (he:∀ c,x c=toQ (N c) D) {v:V3} (hv:vIn v=true):SmShifts x v:=by
 simp only [vIn,Bool.and_eq_true,inB_iff] at hv;refine ⟨?_,?_,?_⟩ <;> rw [he,he,he]
 ·exact sm_shift hD hd (hN _) (hN _) (hN _) hv.2.2 hv.2.1
 ·exact sm_shift hD hd (hN _) (hN _) (hN _) hv.1 hv.2.2
 ·exact sm_shift hD hd (hN _) (hN _) (hN _) hv.2.1 hv.1
end Go.Proofs.YtflolbnnkbdmfaaGreat
namespace Go.Proofs.YtflolbnnkbdmfaaGreat
open Go.RowKit
theorem locC_bad {L:List Loc} (h:locF L≠0):locC L≠0/\locC L≠20:=by
 unfold locF at h;unfold locC
 by_cases h1:L.length<=6
 ·rw [if_pos h1] at h
  by_cases h2:L.length=6
  ·rw [if_pos h2,if_neg h];unfold locE at h ⊢;split
   ·omega
   ·split
    ·omega
    ·rename_i a b; rw [if_neg a,if_neg b] at h; omega
  ·rw [if_neg h2]; omega
 ·rw [if_neg (by omega:¬ L.length=6)]; omega
theorem locF_ok {L:List Loc} (h:locF L=0):L.length<=6/\locE L=0:=by
 unfold locF at h;split at h
 ·exact ⟨by assumption,h⟩
 ·omega
theorem locC_six {L:List Loc} (h:locF L=0) (hn:L.length=6):locC L=0↔¬ kernF (locZ L)<6:=by
 obtain ⟨h1,h2⟩:=locF_ok h;rw [free_iff h2 h1];unfold locC;rw [if_pos hn,if_pos h2];split <;> simp_all
theorem locC_few {L:List Loc} (h:locF L=0) (hn:L.length≠6):locC L=2/\kernF (locZ L)<6:=by
 obtain ⟨h1,h2⟩:=locF_ok h;refine ⟨?_,free_few h2 aO⟩;unfold locC;rw [if_neg hn]
def locY (L:List Loc):List (List Int):=zero6::locM L
theorem rAt_cons_succ (r:List Int) (M:List (List Int)) (i:Nat):rAt (r::M) (i+1)=rAt M i:=rfl
theorem locY_len (L:List Loc):(locY L).length=L.length+1:=by unfold locY; rw [List.length_cons,locM_len]
theorem cols_locY (L:List Loc):cols (locY L)=6:=rfl
theorem check_locY {L:List Loc} (h:locE L=0) (hn:L.length<=6):matCheck (locY L)=0:=by
 rw [locE_zero] at h;have hc:=cols_locY L;have hl:=locY_len L;refine check_of aO aO (fun i hi=>?_) (fun i hi k _=>?_)
 ·cases i with
  | zero=>rfl
  | succ i =>
   obtain ⟨l,_,_,e2⟩:=rAt_locM (L:=L) (i:=i) aO;show (rAt (zero6::locM L) (i+1)).length=_;rw [rAt_cons_succ,e2,hc,locR_len]
 ·cases i with
  | zero =>
   show largeI (iAt zero6 k)=false;rw [zero6_at];exact not_large (B:=1) aO aO aO
  | succ i =>
   obtain ⟨l,hl,_,e2⟩:=rAt_locM (L:=L) (i:=i) aO;show largeI (iAt (rAt (zero6::locM L) (i+1)) k)=false;rw [rAt_cons_succ,e2];have:=locR_bd (h l hl) k;exact not_large this.1 this.2 aO
theorem locY_zero {L:List Loc} {Z:List Int} {f:Nat} (h:KerZ (locZ L) Z f) {k:Nat} (hk:k<(locY L).length):sumF (fun c=>iAt (rAt (locY L) k) c*iAt Z c) 6=0:=by
 have hl:=locY_len L;have hl2:(locZ L).length=L.length+1:=by unfold locZ; rw [List.length_append,locM_len]; rfl
 cases k with
 | zero=>exact sumF_zero fun c _=>by show iAt zero6 c*iAt Z c=0; rw [zero6_at,Int.zero_mul]
 | succ i =>
  have q:=h.rows i aO;rw [cols_locZ] at q;rcases rAt_locZ (L:=L) (i:=i) aO with ⟨_,e⟩ | ⟨e1,_⟩
  ·rw [e] at q; exact q
  ·omega
theorem p_650:2^650<2^700:=by decide +kernel
theorem p_one7:(1:Int).natAbs<2^700:=by decide +kernel
theorem locY_times {L:List Loc} (h:locE L=0) (hn:L.length<=6) {Z:List Int} {f:Nat} (hz:KerZ (locZ L) Z f):TimesQ (locY L) (fun c=>(iAt Z c,1)) 6/\∀ k,k<(locY L).length->sumT (rAt (locY L) k) (fun c=>(iAt Z c,1)) 6=(0,1):=by
 have q:=times_ok (check_locY h hn) (D:=1) aO p_one7 (N:=fun c=>iAt Z c) (x:=fun c=>(iAt Z c,1)) (fun c _=>Nat.lt_trans (hz.small c) p_650) (fun c _=>(toQ_one _).symm);rw [cols_locY] at q;refine ⟨q,fun k hk=>?_⟩;rw [sumT_toQ (D:=1) (N:=fun c=>iAt Z c) aO 6 (fun c _=>(toQ_one _).symm),locY_zero hz hk,toQ_one]
def zeroL:Loc:=⟨⟨0,0,0⟩,⟨0,0,0⟩,0,0⟩
def oddN (q:Int):Int:=[q,0,1,-1,2,24,25,-25,10000,10001,-10001].getD (q%11).toNat 0
def modN (q:Int) (n:Nat):Nat:=(q%(n:Int)).toNat
def oddL (L:List Loc) (q0 q1 q2:Int):List Loc:=
 if L.length=0 then [zeroL] else
 let k:=modN q1 L.length
 let x:=lAt L k
 let n:=oddN q2
 match modN q0 9 with
 | 0=>L.set k { x with p:={ x.p with x:=n } }
 | 1=>L.set k { x with p:={ x.p with z:=n } }
 | 2=>L.set k { x with n:={ x.n with y:=n } }
 | 3=>L.set k { x with n:=⟨0,0,1⟩ }
 | 4=>L.set k { x with lo:=n }
 | 5=>L.set k { x with hi:=n }
 | 6=>L.take k++L.drop (k+1)
 | 7=>L++[x]
 | _=>L.set k { x with p:=(lAt L ((k+1)%L.length)).p,n:=(lAt L ((k+1)%L.length)).n }
theorem encLs_cons (l:Loc) (ls:List Loc):encLs (l::ls)=encL l++encLs ls:=by unfold encLs; rw [List.flatMap_cons]
theorem encLs_put:∀ {L:List Loc} {k j:Nat} {v:Value} {l':Loc},k<L.length->j<8->(encL (lAt L k)).set j v=encL l'->(encLs L).set (k*8+j) v=encLs (L.set k l')
 | [],k,j,v,l',hk,_,_=>by simp at hk
 | l::ls,0,j,v,l',_,hj,h=>by
  rw [List.set_cons_zero,encLs_cons,encLs_cons,Nat.zero_mul,Nat.zero_add,List.set_append_left _ _ (show j<(encL l).length from hj)];exact congrArg (·++encLs ls) h
 | l::ls,k+1,j,v,l',hk,hj,h=>by
  have hl:(encL l).length=8:=rfl;rw [List.set_cons_succ,encLs_cons,encLs_cons,List.set_append_right _ _ (by rw [hl]; omega),hl,show (k+1)*8+j - 8=k*8+j by omega];rw [encLs_put (L:=ls) (k:=k) (by simpa using hk) hj h]
theorem lAt_set {L:List Loc} {k i:Nat} {l:Loc} (hk:k<L.length):lAt (L.set k l) i=if i=k then l else lAt L i:=by
 unfold lAt;rw [Ze,Ze,List.getElem?_set]
 by_cases e:i=k
 ·subst e;rw [if_pos rfl,if_pos rfl,if_pos hk];rfl
 ·rw [if_neg (Ne.symm e),if_neg e]
theorem set_same {L:List Loc} {k:Nat} {a b:Loc}:(L.set k a).set k b=L.set k b:=by rw [List.set_set]
theorem encLs_take (L:List Loc):∀ (k:Nat),k<=L.length->encLs (L.take k)=(encLs L).take (k*8)
 | 0,_=>by simp [encLs]
 | k+1,hk=>by
  cases L with
  | nil=>simp at hk
  | cons l ls =>
   have hl:(encL l).length=8:=rfl;rw [List.take_succ_cons,encLs_cons,encLs_cons,encLs_take ls k (by simpa using hk),List.take_append,hl,List.take_of_length_le (show (encL l).length<=(k+1)*8 by rw [hl]; omega),show (k+1)*8 - 8=k*8 by omega]
theorem encLs_drop (L:List Loc):∀ (k:Nat),k<=L.length->encLs (L.drop k)=(encLs L).drop (k*8)
 | 0,_=>aS
 | k+1,hk=>by
  cases L with
  | nil=>simp at hk
  | cons l ls =>
   have hl:(encL l).length=8:=rfl;rw [List.drop_succ_cons,encLs_cons,encLs_drop ls k (by simpa using hk),List.drop_append,hl,List.drop_of_length_le (show (encL l).length<=(k+1)*8 by rw [hl]; omega),show (k+1)*8 - 8=k*8 by omega,List.nil_append]
theorem encLs_add (A B:List Loc):encLs (A++B)=encLs A++encLs B:=by unfold encLs; rw [List.flatMap_append]
theorem row_take {w:World} {base:Nat} {e:TypeId} {size g cap n:Nat} {xs:List Value} (h:w.ownsRow base e size (.slice (some ⟨g,0,none⟩) n cap) n xs) {k:Nat} (hk:k<=n):w.ownsRow base e size (.slice (some ⟨g,0,none⟩) k cap) k (xs.take (k*size)):=by
 have hl:=h.1;have hks:k*size<=n*size:=Nat.mul_le_mul_right _ hk;refine ⟨by rw [List.length_take,hl,Nat.min_eq_left hks],?_⟩;rcases h.2 with ⟨h',_⟩ | ⟨g',cap',cur,h',hb,hg,hnc,hcm,hcs,ht⟩
 ·simp at h'
 ·simp only [Value.slice.injEq,Option.some.injEq,Addr.mk.injEq,and_true,true_and] at h';obtain ⟨rfl,rfl⟩:=h';refine .inr ⟨g,cap,cur,rfl,hb,hg,aO,hcm,hcs,?_⟩;rw [<- ht,List.take_take,Nat.min_eq_left hks]
theorem oddN_I {q:Int} (h:I64 q):I64 (oddN q):=by
 unfold oddN;have h2:(q%11).toNat<11:=aO
 generalize (q%11).toNat=k at *;have e:k=0\/k=1\/k=2\/k=3\/k=4\/k=5\/k=6\/k=7\/k=8\/k=9\/k=10:=aO
 rcases e with rfl | rfl | rfl | rfl | rfl | rfl | rfl | rfl | rfl | rfl | rfl
 ·exact h
 all_goals (clear h; refine ⟨?_,?_⟩ <;> (simp only [List.getD_cons_succ,List.getD_cons_zero]; omega))
theorem oddN_at {q:Int} {cs:Array Value} (hcs:cs=#[.int .i64 q,.int .i64 0,.int .i64 1,.int .i64 (-1),.int .i64 2,.int .i64 24,.int .i64 25,.int .i64 (-25),.int .i64 10000,.int .i64 10001,.int .i64 (-10001)]) {k:Nat} (hk:q%11=(k:Int)):cs[k]?=some (.int .i64 (oddN q)):=by
 unfold oddN;rw [show (q%11).toNat=k by omega];have h2:k<11:=aO
 have e:k=0\/k=1\/k=2\/k=3\/k=4\/k=5\/k=6\/k=7\/k=8\/k=9\/k=10:=aO
 rw [hcs];clear hk hcs;rcases e with rfl | rfl | rfl | rfl | rfl | rfl | rfl | rfl | rfl | rfl | rfl <;> rfl
def chg (m:Nat) (x y:Loc) (n:Int):Loc:=
 match m with
 | 0=>{ x with p:={ x.p with x:=n } }
 | 1=>{ x with p:={ x.p with z:=n } }
 | 2=>{ x with n:={ x.n with y:=n } }
 | 3=>{ x with n:=⟨0,0,1⟩ }
 | 4=>{ x with lo:=n }
 | 5=>{ x with hi:=n }
 | _=>{ x with p:=y.p,n:=y.n }
theorem chg_I {m:Nat} {x y:Loc} {n:Int} (hx:x.I) (hy:y.I) (hn:I64 n):(chg m x y n).I:=by
 have h1:I64 1:=by unfold I64; decide
 have h0:I64 0:=by unfold I64; decide
 obtain ⟨a0,a1,a2,a3,a4,a5,a6,a7⟩:=hx;obtain ⟨b0,b1,b2,b3,b4,b5,b6,b7⟩:=hy;unfold chg;split <;> exact ⟨by assumption,by assumption,by assumption,by assumption,by assumption,by assumption,by assumption,by assumption⟩
theorem set_I {L:List Loc} {k n:Nat} {l:Loc} (hn:L.length=n) (hk:k<n) (h:∀ i,i<n->(lAt L i).I) (hl:l.I):∀ i,i<n->(lAt (L.set k l) i).I:=fun i hi=>by
 rw [lAt_set aO];split
 ·exact hl
 ·exact h i hi
theorem lAt_app {A B:List Loc} {i:Nat}:lAt (A++B) i=if i<A.length then lAt A i else lAt B (i - A.length):=by
 unfold lAt;rw [Ze,Ze,Ze,List.getElem?_append];split <;> rfl
theorem lAt_drop {L:List Loc} {k i:Nat}:lAt (L.drop k) i=lAt L (k+i):=by
 unfold lAt;rw [Ze,Ze,List.getElem?_drop]
theorem lAt_tk {L:List Loc} {k i:Nat} (hi:i<k):lAt (L.take k) i=lAt L i:=by
 unfold lAt;rw [Ze,Ze,List.getElem?_take,if_pos hi]
theorem cut_I {L:List Loc} {k n:Nat} (hn:L.length=n) (hk:k<n) (h:∀ i,i<n->(lAt L i).I):(L.take k++L.drop (k+1)).length=n - 1/\∀ i,i<n - 1->(lAt (L.take k++L.drop (k+1)) i).I:=by
 have hl:(L.take k).length=k:=by rw [List.length_take]; omega
 refine ⟨by rw [List.length_append,hl,List.length_drop]; omega,fun i hi=>?_⟩;rw [lAt_app,hl];split
 ·rename_i h1
  rw [lAt_tk h1];exact h i aO
 ·rw [lAt_drop];exact h _ aO
theorem more_I {L:List Loc} {n:Nat} {l:Loc} (hn:L.length=n) (h:∀ i,i<n->(lAt L i).I) (hl:l.I):∀ i,i<n+1->(lAt (L++[l]) i).I:=fun i hi=>by
 rw [lAt_app,hn];split
 ·exact h i (by assumption)
 ·rw [show i - n=0 by omega];exact hl
theorem odd_chg {L:List Loc} {q0 q1 q2:Int} {m k:Nat} (h0:L.length≠0) (hm:modN q0 9=m) (hk:modN q1 L.length=k) (h6:m≠6) (h7:m≠7):oddL L q0 q1 q2=L.set k (chg m (lAt L k) (lAt L ((k+1)%L.length)) (oddN q2)):=by
 unfold oddL;rw [if_neg h0,hm,hk];unfold chg;rcases m with _ | _ | _ | _ | _ | _ | _ | _ | m <;> first | rfl | omega
theorem odd_six {L:List Loc} {q0 q1 q2:Int} {k:Nat} (h0:L.length≠0) (hm:modN q0 9=6) (hk:modN q1 L.length=k):oddL L q0 q1 q2=L.take k++L.drop (k+1):=by
 unfold oddL;rw [if_neg h0,hm,hk];rfl
theorem odd_seven {L:List Loc} {q0 q1 q2:Int} {k:Nat} (h0:L.length≠0) (hm:modN q0 9=7) (hk:modN q1 L.length=k):oddL L q0 q1 q2=L++[lAt L k]:=by
 unfold oddL;rw [if_neg h0,hm,hk];rfl
end Go.Proofs.YtflolbnnkbdmfaaGreat
namespace Go.Proofs.YtflolbnnkbdmfaaGreat
theorem ordI_of {a b c d:Int} (h1:a<b↔c<d) (h2:b<a↔d<c):ordI a b=ordI c d:=by
 rcases Int.lt_trichotomy a b with h | h | h
 ·rw [ordI_lt h,ordI_lt (h1.1 h)]
 ·subst h;have:c=d:=aO
  rw [this,ordI_eq,ordI_eq]
 ·rw [ordI_gt h,ordI_gt (h2.1 h)]
theorem ordI_swap (a b:Int):ordI a b=-ordI b a:=by
 rcases Int.lt_trichotomy a b with h | h | h
 ·rw [ordI_lt h,ordI_gt h]
 ·subst h; rw [ordI_eq]; omega
 ·rw [ordI_gt h,ordI_lt h]; omega
theorem cmp_parts {a b c d:Int} (hb:0<b) (hd:0<d):a*d=b*d*(a / b)+a%b*d/\c*b=b*d*(c / d)+c%d*b/\0<=a%b*d/\a%b*d<b*d/\0<=c%d*b/\c%d*b<b*d:=by
 have h1:=Int.emod_nonneg a (by omega:b≠0);have h2:=Int.emod_lt_of_pos a hb;have h3:=Int.emod_nonneg c (by omega:d≠0);have h4:=Int.emod_lt_of_pos c hd;refine ⟨?_,?_,Int.mul_nonneg h1 aO,Int.mul_lt_mul_of_pos_right h2 hd,Int.mul_nonneg h3 aO,?_⟩
 ·have e:=Int.mul_ediv_add_emod a b;have:a*d=(b*(a / b)+a%b)*d:=by rw [e]
  rw [this]; grind
 ·have e:=Int.mul_ediv_add_emod c d;have:c*b=(d*(c / d)+c%d)*b:=by rw [e]
  rw [this]; grind
 ·rw [Int.mul_comm b d]; exact Int.mul_lt_mul_of_pos_right h4 hb
theorem cmp_whole {a b c d:Int} (hb:0<b) (hd:0<d) (h:a / b≠c / d):ordI (a*d) (c*b)=ordI (a / b) (c / d):=by
 obtain ⟨e1,e2,e3,e4,e5,e6⟩:=cmp_parts (a:=a) (c:=c) hb hd;have hbd:0<b*d:=Int.mul_pos hb hd;rcases Int.lt_trichotomy (a / b) (c / d) with h1 | h1 | h1
 ·rw [ordI_lt h1];refine ordI_lt ?_;have:=Int.mul_le_mul_of_nonneg_left (show a / b+1<=c / d by omega) (Int.le_of_lt hbd);rw [Int.mul_add,Int.mul_one] at this;omega
 ·exact absurd h1 h
 ·rw [ordI_gt h1];refine ordI_gt ?_;have:=Int.mul_le_mul_of_nonneg_left (show c / d+1<=a / b by omega) (Int.le_of_lt hbd);rw [Int.mul_add,Int.mul_one] at this;omega
theorem cmp_rest {a b c d:Int} (hb:0<b) (hd:0<d) (h:a / b=c / d):ordI (a*d) (c*b)=ordI (a%b*d) (c%d*b):=by
 obtain ⟨e1,e2,e3,e4,e5,e6⟩:=cmp_parts (a:=a) (c:=c) hb hd;rw [h] at e1;exact ordI_of aO aO
theorem cmp_end {a b c d:Int} (hb:0<b) (hd:0<d) (h:a / b=c / d) (h0:a%b=0\/c%d=0):ordI (a*d) (c*b)=ordI (a%b) (c%d):=by
 rw [cmp_rest hb hd h];have h1:=Int.emod_nonneg a (by omega:b≠0);have h3:=Int.emod_nonneg c (by omega:d≠0);rcases h0 with h0 | h0
 ·rw [h0,Int.zero_mul];refine ordI_of ⟨fun h=>?_,fun h=>Int.mul_pos h hb⟩ ⟨fun h=>?_,fun h=>aO⟩
  ·rcases Int.lt_or_eq_of_le h3 with h4 | h4
   ·exact h4
   ·rw [<- h4,Int.zero_mul] at h; omega
  ·have:=Int.mul_nonneg h3 (Int.le_of_lt hb); omega
 ·rw [h0,Int.zero_mul];refine ordI_of ⟨fun h=>?_,fun h=>aO⟩ ⟨fun h=>?_,fun h=>Int.mul_pos h hd⟩
  ·have:=Int.mul_nonneg h1 (Int.le_of_lt hd); omega
  ·rcases Int.lt_or_eq_of_le h1 with h4 | h4
   ·exact h4
   ·rw [<- h4,Int.zero_mul] at h; omega
theorem cmp_next {a b c d:Int} (hb:0<b) (hd:0<d) (h:a / b=c / d):ordI (a*d) (c*b)=-ordI (b*(c%d)) (d*(a%b)):=by
 rw [cmp_rest hb hd h,ordI_swap,Int.mul_comm b,Int.mul_comm d]
end Go.Proofs.YtflolbnnkbdmfaaGreat
namespace Go.Proofs.YtflolbnnkbdmfaaGreat
open Go.RowKit
def cmpQ (a b:QI):Int:=ordI (a.1*b.2) (b.1*a.2)
def endsQ (r:QI) (lo hi:Int):QI×QI:=if 0<cmpQ (mulQ r (lo,1)) (mulQ r (hi,1)) then (mulQ r (hi,1),mulQ r (lo,1)) else (mulQ r (lo,1),mulQ r (hi,1))
structure SmEnds (r:QI) (lo hi:Int):Prop where
 hr:SmQ r
 a:SmQ (mulQ r (lo,1))
 b:SmQ (mulQ r (hi,1))
def ceilQ (a:QI):Int:=-((-a.1) / a.2)
def leastQ (e:Nat->QI×QI):Nat->QI
 | 0=>(0,1)
 | k+1=>addQ (leastQ e k) (e k).1
def mostQ (e:Nat->QI×QI):Nat->QI
 | 0=>(0,1)
 | k+1=>addQ (mostQ e k) (e k).2
def endsAt (xs:Nat->Nat->QI) (L:List Loc) (v:V3) (i k:Nat):QI×QI:=endsQ (shiftQ (xs k) v i) (lAt L k).lo (lAt L k).hi
def lowQ (xs:Nat->Nat->QI) (L:List Loc) (v:V3) (i:Nat):Int:=ceilQ (divQ (leastQ (endsAt xs L v i) 6) (-100,1))
def highQ (xs:Nat->Nat->QI) (L:List Loc) (v:V3) (i:Nat):Int:=ceilQ (divQ (mostQ (endsAt xs L v i) 6) (100,1))
def cornersL (lo hi:V3):List V3:=[⟨lo.x,lo.y,lo.z⟩,⟨lo.x,lo.y,hi.z⟩,⟨lo.x,hi.y,lo.z⟩,⟨lo.x,hi.y,hi.z⟩,⟨hi.x,lo.y,lo.z⟩,⟨hi.x,lo.y,hi.z⟩,⟨hi.x,hi.y,lo.z⟩,⟨hi.x,hi.y,hi.z⟩]
def bestQ (xs:Nat->Nat->QI) (L:List Loc) (i:Nat) (vs:List V3):Int:=vs.foldl (fun b v=>max (max b (lowQ xs L v i)) (highQ xs L v i)) 0
structure SmCorner (xs:Nat->Nat->QI) (L:List Loc) (v:V3):Prop where
 sh:∀ k,k<6->SmShifts (xs k) v
 en:∀ k,k<6->∀ i,i<3->SmEnds (shiftQ (xs k) v i) (lAt L k).lo (lAt L k).hi
 le:∀ k,k<=6->∀ i,i<3->SmQ (leastQ (endsAt xs L v i) k)
 mo:∀ k,k<=6->∀ i,i<3->SmQ (mostQ (endsAt xs L v i) k)
 lo:∀ i,i<3->SmQ (divQ (leastQ (endsAt xs L v i) 6) (-100,1)) /\ -9223372036854775808<=lowQ xs L v i/\lowQ xs L v i<=9223372036854775807
 hi:∀ i,i<3->SmQ (divQ (mostQ (endsAt xs L v i) 6) (100,1)) /\ -9223372036854775808<=highQ xs L v i/\highQ xs L v i<=9223372036854775807
def unitB (k:Nat):List Int:=(List.range 6).map fun i=>if i=k then 1 else 0
end Go.Proofs.YtflolbnnkbdmfaaGreat
namespace Go.Proofs.YtflolbnnkbdmfaaGreat
theorem sol_common {M:List (List Int)} {B:Nat} (hE:∀ y,y<M.length->∀ c,c<cols M->(iAt (rAt M y) c).natAbs<=B) (h:matCheck M=0) (hc:cols M=M.length) (hr:rankZ M=M.length) :
 ∃ D0:Int,D0≠0/\D0.natAbs<=fac M.length*B^M.length/\∀ b x N D,(∀ y,y<M.length->(iAt b y).natAbs<=B)->SolZ M b x N D->∃ N0:Nat->Int,(∀ c,(N0 c).natAbs<=fac M.length*B^M.length)/\(∀ c,c<cols M->x c=toQ (N0 c) D0)/\∀ y,y<M.length->sumF (fun c=>iAt (rAt M y) c*N0 c) (cols M)=D0*iAt b y:=by
 obtain ⟨_,h8,h3,h4⟩:=matCheck_ok h;obtain ⟨π,cs,hI⟩:=InvB.run (wide_sys h3) (cols M) (Zr _);have ha:(runB ⟨sysL M [] M.length,1,0⟩ (cols M)).a=M.length:=(rankZ_A h).symm.trans hr;have hnz:=hI.nz;have hcol:=hI.col;have hinc:=hI.inc;have hperm:=hI.perm;have hsur:=hI.sur;rw [ha] at hnz hcol hinc;rw [sysL_len] at hperm hsur;have hid:=inc_id (cs:=cs) (n:=M.length) (fun t ht=>by have:=hcol t ht; omega) hinc;have hnz2:∀ t,t<=M.length->minD t (fun i=>rowF (sysL M [] M.length) (π i)) id≠0:=fun t ht=>by
  have e:minD t (fun i=>rowF (sysL M [] M.length) (π i)) id=minD t (fun i=>rowF (sysL M [] M.length) (π i)) cs:=minD_eq (fun _ _=>rfl) (fun b hb=>(hid b aO).symm);rw [e];exact hnz t ht
 have hD:=transp_ne hnz2 M.length (Zr _);have hR:∀ i,i<M.length->∀ c,rowF (sysL M [] M.length) (π i) c=iAt (rAt M (π i)) c:=fun i hi c=>rowF_sys (hperm i hi) c
 have hB:∀ i,i<M.length->∀ c,c<M.length->(rowF (sysL M [] M.length) (π i) c).natAbs<=B:=fun i hi c hcc=>by
  rw [hR i hi c];exact hE _ (hperm i hi) c aO
 obtain ⟨O,hO⟩:∃ O,O=(fun c i=>rowF (sysL M [] M.length) (π i) c):=⟨_,rfl⟩;have hOB:∀ c,c<M.length->∀ i,i<M.length->(O c i).natAbs<=B:=fun c hcc i hi=>by rw [hO]; exact hB i hi c hcc
 have hOD:minD M.length O id≠0:=by rw [hO]; exact hD
 have hOR:∀ i,i<M.length->∀ c,O c i=iAt (rAt M (π i)) c:=fun i hi c=>by rw [hO]; exact hR i hi c
 clear hO hD hR hB;refine ⟨minD M.length O id,hOD,minD_abs hOB,fun b x N D hl hS=>?_⟩;have hrow:∀ y,y<M.length->sumF (fun c=>iAt (rAt M y) c*(-gamC M.length O id (fun i=>iAt b (π i)) c)) (cols M)=minD M.length O id*iAt b y:=fun y hy=>by
  obtain ⟨i,hi,rfl⟩:=hsur y hy;have e1:=minV_exp M.length O id (fun i=>iAt b (π i)) i;rw [show minV M.length O id (fun i=>iAt b (π i)) i=0 from minV_zero (cs:=id) (t:=i) hi] at e1;have e2:sumF (fun c=>iAt (rAt M (π i)) c*(-gamC M.length O id (fun i=>iAt b (π i)) c)) (cols M)=(-1)*sumF (fun c=>gamC M.length O id (fun i=>iAt b (π i)) c*O c i) M.length:=by
   rw [hc,<- sumF_mul];exact sumF_eq fun c _=>by rw [hOR i hi c]; grind
  rw [e2];omega
 have hu:=full_unique h hc hr (fun c=>(-gamC M.length O id (fun i=>iAt b (π i)) c)*D - N c*minD M.length O id) (fun y hy=>by
  have e:sumF (fun c=>iAt (rAt M y) c*((-gamC M.length O id (fun i=>iAt b (π i)) c)*D - N c*minD M.length O id)) (cols M)=D*sumF (fun c=>iAt (rAt M y) c*(-gamC M.length O id (fun i=>iAt b (π i)) c)) (cols M)+(-minD M.length O id)*sumF (fun c=>iAt (rAt M y) c*N c) (cols M):=by
   rw [<- sumF_mul,<- sumF_mul,<- sumF_add];exact sumF_eq fun c _=>by grind
  rw [e,hrow y hy,hS.row y hy];grind)
 refine ⟨fun c=>-gamC M.length O id (fun i=>iAt b (π i)) c,fun c=>?_,fun c hcc=>?_,hrow⟩
 ·rw [Int.natAbs_neg];exact gamC_abs hOB (fun i hi=>hl _ (hperm i hi))
 ·rw [hS.eq c];refine (toQ_eq hOD hS.ne ?_).symm;have h7:=hu c hcc;show (-gamC M.length O id (fun i=>iAt b (π i)) c)*D=N c*minD M.length O id;omega
end Go.Proofs.YtflolbnnkbdmfaaGreat
namespace Go.Proofs.YtflolbnnkbdmfaaGreat
open Go.RowKit
theorem ends_toQ {D:Int} (hD:D≠0) (s lo hi:Int):∃ a b,endsQ (toQ s D) lo hi=(toQ a D,toQ b D)/\((a=s*lo/\b=s*hi)\/(a=s*hi/\b=s*lo)):=by
 unfold endsQ;rw [mul_int lo hD,mul_int hi hD];split
 ·exact ⟨_,_,rfl,.inr ⟨rfl,rfl⟩⟩
 ·exact ⟨_,_,rfl,.inl ⟨rfl,rfl⟩⟩
theorem zero_toQ {D:Int} (hD:D≠0):((0,1):QI)=toQ 0 D:=by
 rw [<- toQ_one 0];exact toQ_eq aO hD aO
theorem least_toQ {e:Nat->QI×QI} {D:Int} {B n:Nat} (hD:D≠0) (h:∀ k,k<n->∃ a b,e k=(toQ a D,toQ b D)/\a.natAbs<=B/\b.natAbs<=B):∀ k,k<=n->∃ a b,leastQ e k=toQ a D/\mostQ e k=toQ b D/\a.natAbs<=k*B/\b.natAbs<=k*B
 | 0,_=>⟨0,0,zero_toQ hD,zero_toQ hD,aO,aO⟩
 | k+1,hk=>by
  obtain ⟨a,b,h1,h2,h3,h4⟩:=least_toQ hD h k aO;obtain ⟨c,d,h5,h6,h7⟩:=h k aO;refine ⟨a+c,b+d,?_,?_,?_,?_⟩
  ·show addQ (leastQ e k) (e k).1=_;rw [h1,h5];exact add_same hD
  ·show addQ (mostQ e k) (e k).2=_;rw [h2,h5];exact add_same hD
  ·rw [Nat.succ_mul]; omega
  ·rw [Nat.succ_mul]; omega
theorem shift_cut {x x':Nat->QI} (h:∀ c,c<6->x c=x' c) (v:V3) (i:Nat):shiftQ x v i=shiftQ x' v i:=by
 match i with
 | 0=>show shiftC _ _ _ _ _=shiftC _ _ _ _ _; rw [h 0 aO,h 4 aO,h 5 aO]
 | 1=>show shiftC _ _ _ _ _=shiftC _ _ _ _ _; rw [h 1 aO,h 5 aO,h 3 aO]
 | n+2=>show shiftC _ _ _ _ _=shiftC _ _ _ _ _; rw [h 2 aO,h 3 aO,h 4 aO]
theorem shifts_cut {x x':Nat->QI} (h:∀ c,c<6->x c=x' c) {v:V3} (hs:SmShifts x' v):SmShifts x v:=by
 obtain ⟨a,b,c⟩:=hs;rw [<- h 0 aO,<- h 4 aO,<- h 5 aO] at a;rw [<- h 1 aO,<- h 5 aO,<- h 3 aO] at b;rw [<- h 2 aO,<- h 3 aO,<- h 4 aO] at c;exact ⟨a,b,c⟩
theorem p_e30:(1000000000000000000000000000000:Nat)<2^1000:=by decide +kernel
theorem p_e300:(137594142720:Nat)<2^300:=by decide +kernel
theorem sm_e30 {z:Int} (h:z.natAbs<1000000000000000000000000000000):Sm z:=Nat.lt_trans h p_e30
theorem ceil_toQ {a d:Int} (hd:d≠0):(ceilQ (toQ a d)).natAbs<=a.natAbs:=by
 obtain ⟨_,_,h1,_⟩:=of_spec a hd;unfold ceilQ;rw [Int.natAbs_neg];refine Zm (Int.natAbs_ediv_le_natAbs _ _) ?_;rw [Int.natAbs_neg];exact h1
theorem mul_e4 {s x:Int} {n:Nat} (h:s.natAbs<=n) (h1:-10000<=x) (h2:x<=10000):(s*x).natAbs<=n*10000:=by
 rw [Int.natAbs_mul];exact Nat.mul_le_mul h aO
theorem shN_le {N:Nat->Int} (hN:∀ c,(N c).natAbs<=137594142720) {v:V3} (hv:vIn v=true) (i:Nat):(shN N v i).natAbs<=6742112993280:=by
 simp only [vIn,Bool.and_eq_true,inB_iff] at hv;have k:∀ (t a b:Nat) (x y:Int),(-24<=x/\x<=24)->(-24<=y/\y<=24)->(N t+(N a*x - N b*y)).natAbs<=6742112993280:=fun t a b x y hx hy=>by
  have e3:=hN t;have f1:(N a*x).natAbs<=137594142720*24:=by rw [Int.natAbs_mul]; exact Nat.mul_le_mul (hN a) aO
  have f2:(N b*y).natAbs<=137594142720*24:=by rw [Int.natAbs_mul]; exact Nat.mul_le_mul (hN b) aO
  omega
 match i with
 | 0=>exact k _ _ _ _ _ hv.2.2 hv.2.1
 | 1=>exact k _ _ _ _ _ hv.1 hv.2.2
 | n+2=>exact k _ _ _ _ _ hv.2.1 hv.1
theorem corner_sm {xs:Nat->Nat->QI} {L:List Loc} {v:V3} {D:Int} {Ns:Nat->Nat->Int} (hD:D≠0) (hd:D.natAbs<=137594142720) (hN:∀ k c,(Ns k c).natAbs<=137594142720) (he:∀ k,k<6->∀ c,c<6->xs k c=toQ (Ns k c) D) (hv:vIn v=true)
 (hL:∀ k,k<6->(-10000<=(lAt L k).lo/\(lAt L k).lo<=10000) /\ -10000<=(lAt L k).hi/\(lAt L k).hi<=10000):SmCorner xs L v:=by
 have hsm:∀ z:Int,z.natAbs<1000000000000000000000000000000->SmQ (toQ z D):=fun z hz=>toQ_sm hD (sm_e30 hz) (sm_e30 aO)
 have hsh:∀ k,k<6->∀ i,shiftQ (xs k) v i=toQ (shN (Ns k) v i) D:=fun k hk i=>by
  rw [shift_cut (x':=fun c=>toQ (Ns k c) D) (he k hk)];exact shift_toQ hD (fun _=>rfl) v i
 have hs:=fun k i=>shN_le (hN k) hv i
 have hen:∀ k,k<6->∀ i,∃ a b,endsAt xs L v i k=(toQ a D,toQ b D)/\a.natAbs<=67421129932800000/\b.natAbs<=67421129932800000:=fun k hk i=>by
  unfold endsAt;rw [hsh k hk i];obtain ⟨a,b,h1,h2⟩:=ends_toQ hD (shN (Ns k) v i) (lAt L k).lo (lAt L k).hi;have e1:=mul_e4 (hs k i) (hL k hk).1.1 (hL k hk).1.2;have e2:=mul_e4 (hs k i) (hL k hk).2.1 (hL k hk).2.2;rcases h2 with ⟨rfl,rfl⟩ | ⟨rfl,rfl⟩
  ·exact ⟨_,_,h1,aO,aO⟩
  ·exact ⟨_,_,h1,aO,aO⟩
 have hle:=fun i=>least_toQ hD (fun k hk=>hen k hk i)
 refine ⟨fun k hk=>?_,fun k hk i hi=>?_,fun k hk i hi=>?_,fun k hk i hi=>?_,fun i hi=>?_,fun i hi=>?_⟩
 ·exact shifts_cut (x':=fun c=>toQ (Ns k c) D) (he k hk) (shifts_sm hD (Nat.lt_of_le_of_lt hd p_e300) (fun c=>Nat.lt_of_le_of_lt (hN k c) p_e300) (fun _=>rfl) hv)
 ·have e1:=mul_e4 (hs k i) (hL k hk).1.1 (hL k hk).1.2;have e2:=mul_e4 (hs k i) (hL k hk).2.1 (hL k hk).2.2;have e3:=hs k i;rw [hsh k hk i];exact ⟨hsm _ aO,by rw [mul_int _ hD]; exact hsm _ aO,by rw [mul_int _ hD]; exact hsm _ aO⟩
 ·obtain ⟨a,b,h1,h2,h3,h4⟩:=hle i k hk;rw [h1];exact hsm _ (by have:k*67421129932800000<=6*67421129932800000:=Nat.mul_le_mul_right _ hk; omega)
 ·obtain ⟨a,b,h1,h2,h3,h4⟩:=hle i k hk;rw [h2];exact hsm _ (by have:k*67421129932800000<=6*67421129932800000:=Nat.mul_le_mul_right _ hk; omega)
 ·obtain ⟨a,b,h1,h2,h3,h4⟩:=hle i 6 (Zr _);have hc:=ceil_toQ (a:=a) (d:=D * -100) aO;have hq:lowQ xs L v i=ceilQ (toQ a (D * -100)):=by unfold lowQ; rw [h1,div_toQ hD aO]
  rw [h1,div_toQ hD aO,hq];exact ⟨toQ_sm aO (sm_e30 aO) (sm_e30 aO),aO,aO⟩
 ·obtain ⟨a,b,h1,h2,h3,h4⟩:=hle i 6 (Zr _);have hc:=ceil_toQ (a:=b) (d:=D*100) aO;have hq:highQ xs L v i=ceilQ (toQ b (D*100)):=by unfold highQ; rw [h2,div_toQ hD aO]
  rw [h2,div_toQ hD aO,hq];exact ⟨toQ_sm aO (sm_e30 aO) (sm_e30 aO),aO,aO⟩
theorem locR_24 {l:Loc} (h:l.Ok) (j:Nat):(iAt (locR l) j).natAbs<=24:=by
 obtain ⟨hc,_⟩:=h.cross;have h1:=h.nx;have h2:=h.ny;have h3:=h.nz;have h4:=h.px;have h5:=h.py;have h6:=h.pz;have h7:=h.one;unfold locR;rw [hc];obtain ⟨x,hx⟩:=Zx (l.n.x);obtain ⟨y,hy⟩:=Zx (l.n.y);obtain ⟨z,hz⟩:=Zx (l.n.z);rw [hx] at h1 h7;rw [hy] at h2 h7;rw [hz] at h3 h7;have x3:x=-1\/x=0\/x=1:=aO
 have y3:y=-1\/y=0\/y=1:=aO
 have z3:z=-1\/z=0\/z=1:=aO
 simp only [hx,hy,hz];rcases x3 with rfl | rfl | rfl <;> rcases y3 with rfl | rfl | rfl <;> rcases z3 with rfl | rfl | rfl <;> first
  | exact absurd h7 (by decide)
  | (match j with
   | 0=>simp [iAt]
   | 1=>simp [iAt]
   | 2=>simp [iAt]
   | 3=>simp [iAt]; try omega
   | 4=>simp [iAt]; try omega
   | 5=>simp [iAt]; try omega
   | n+6=>simp [iAt])
theorem unitB_at (k:Nat) {i:Nat} (hi:i<6):iAt (unitB k) i=if i=k then 1 else 0:=by
 unfold unitB iAt;rw [Ze,List.getElem?_map,List.getElem?_range hi];rfl
theorem unitB_len (k:Nat):(unitB k).length=6:=by unfold unitB; simp
end Go.Proofs.YtflolbnnkbdmfaaGreat
