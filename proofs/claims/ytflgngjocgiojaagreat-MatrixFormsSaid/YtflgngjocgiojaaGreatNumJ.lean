import Derived.Test.YtflgngjocgiojaaGreatNumI
set_option linter.all false
namespace Go.Proofs.YtflgngjocgiojaaGreat
open Go.RowKit
structure DivAt (U Q V:List Nat) (X j:Nat):Prop where
 val:vD U+4294967296^j*vD (Q.drop j)*vD V=X
 lt:vD U<4294967296^j*vD V
theorem vD_three (P W S:List Nat):vD (P++W++S)=vD P+4294967296^P.length*vD W+4294967296^(P.length+W.length)*vD S:=by
 rw [vD_append,vD_append,List.length_append]
theorem cut_three (U:List Nat) (k n:Nat) (h:k+n+1<=U.length):U=U.take k++(U.drop k).take (n+1)++U.drop (k+n+1)/\(U.take k).length=k/\((U.drop k).take (n+1)).length=n+1:=by
 refine ⟨?_,by rw [List.length_take]; omega,by rw [List.length_take,List.length_drop]; omega⟩;have e:U.drop (k+n+1)=(U.drop k).drop (n+1):=by rw [List.drop_drop]; congr 1
 rw [e,List.append_assoc,List.take_append_drop,List.take_append_drop]
theorem DivAt.step {P W W' S Q V:List Nat} {X k n g:Nat} (t:DivAt (P++W++S) Q V X (k+1)) (hP:P.length=k) (hW:W.length=n+1) (hW':W'.length=n+1) (hV:V.length=n) (gV:Dg V) (gP:Dg P) (hv:0<vD V)
 (hk:k<Q.length) (hg:g=min (vD W / vD V) 4294967295) (he:vD W'+g*vD V=vD W):DivAt (P++W'++S) (Q.set k g) V X k:=by
 have h1:=t.val;have h2:=t.lt;rw [vD_three,hP,hW] at h1 h2;have lV:=vD_lt gV;rw [hV] at lV;have lP:=vD_lt gP;rw [hP] at lP;have e1:4294967296^(k+1)=4294967296^k*4294967296:=Nat.pow_succ _ _;have e2:4294967296^(k+(n+1))=4294967296^(k+1)*4294967296^n:=by rw [<- Nat.pow_add]; congr 1; omega
 have hS:vD S=0:=by
  apply Classical.byContradiction;intro hne;have a1:=Nat.mul_le_mul_left (4294967296^(k+(n+1))) (show 1<=vD S by omega);have a2:=Nat.mul_lt_mul_of_pos_left lV (show 0<4294967296^(k+1) from Nat.pow_pos aO);rw [e2] at a1 h2;omega
 rw [hS,Nat.mul_zero,Nat.add_zero] at h1 h2;have hWB:vD W<4294967296*vD V:=by
  rw [e1,Nat.mul_assoc] at h2;have:4294967296^k*vD W<4294967296^k*(4294967296*vD V):=aO
  exact Nat.lt_of_mul_lt_mul_left this
 have hq:vD W / vD V<4294967296:=(Nat.div_lt_iff_lt_mul hv).2 hWB;have hg2:g=vD W / vD V:=by rw [hg]; omega
 have hW'2:vD W'<vD V:=by
  have a1:=Nat.div_add_mod (vD W) (vD V);have a2:=Nat.mod_lt (vD W) hv;rw [<- hg2,Nat.mul_comm] at a1;omega
 refine ⟨?_,?_⟩
 ·rw [vD_three,hP,hW',hS,Nat.mul_zero,Nat.add_zero,drop_set hk,vD_cons,<- h1,e1,<- he];generalize 4294967296^k=p at *;generalize vD (Q.drop (k+1))=q at *;grind
 ·rw [vD_three,hP,hW',hS,Nat.mul_zero,Nat.add_zero];have a1:=Nat.mul_le_mul_left (4294967296^k) (show vD W'+1<=vD V by omega);rw [Nat.mul_add] at a1;omega
theorem DivAt.start {U Q V:List Nat} {a b X s m n N:Nat} (hU:vD U=a*2^s) (hX:X=a*2^s) (hV:vD V=b*2^s) (hQ:Q.length=N) (hN:N=m - n+1) (hnm:n<=m) (hn:1<=n) (ha:a<4294967296^m) (hb:4294967296^(n - 1)<=b):DivAt U Q V X N:=by
 refine ⟨by rw [List.drop_of_length_le aO,vD_nil,Nat.mul_zero,Nat.zero_mul,Nat.add_zero,hU,hX],?_⟩;rw [hU,hV];have e:4294967296^N*4294967296^(n - 1)=4294967296^m:=by rw [<- Nat.pow_add]; congr 1; omega
 have a1:=Nat.mul_le_mul_left (4294967296^N) hb;rw [e] at a1;rw [<- Nat.mul_assoc];exact Nat.mul_lt_mul_of_pos_right aO (Nat.two_pow_pos s)
theorem DivAt.done {U Q V:List Nat} {a b X s:Nat} (t:DivAt U Q V X 0) (hX:X=a*2^s) (hV:vD V=b*2^s):vD Q=a / b/\vD U=a%b*2^s:=by
 have h1:=t.val;have h2:=t.lt;rw [List.drop_zero,Nat.pow_zero,Nat.one_mul] at h1;rw [Nat.pow_zero,Nat.one_mul] at h2;obtain ⟨d1,d2⟩:=div_of (u:=X) (v:=vD V) (q:=vD Q) (r:=vD U) aO h2;obtain ⟨s1,s2⟩:=div_shift (u:=a) (v:=b) (Nat.two_pow_pos s);rw [hX,hV] at d1 d2;rw [s1] at d1;rw [s2] at d2;exact ⟨d1.symm,d2.symm⟩
theorem top_fit {M p d s:Nat} (hs:s<32) (hd:d*2^s<4294967296) (hM:M<4294967296^p*(d+1)):M*2^s<4294967296^(p+1):=by
 have hp:2^s*2^(32 - s)=4294967296:=by rw [<- Nat.pow_add,show s+(32 - s)=32 by omega]
 have h1:d<2^(32 - s):=by
  have:d*2^s<2^(32 - s)*2^s:=by rw [Nat.mul_comm (2^(32 - s)),hp]; exact hd
  exact Nat.lt_of_mul_lt_mul_right this
 have h2:=Nat.mul_lt_mul_of_pos_right hM (Nat.two_pow_pos s);have h3:=Nat.mul_le_mul_left (4294967296^p) (Nat.mul_le_mul_right (2^s) (show d+1<=2^(32 - s) from h1));rw [Nat.mul_comm (2^(32 - s)),hp,<- Nat.pow_succ,<- Nat.mul_assoc] at h3;exact Zl h2 h3
theorem digs_top {M p:Nat} (h:(digs M).length=p+1):M<4294967296^p*(dAt (digs M) p+1)/\4294967296^p<=M:=by
 have h1:=vD_take' (digs M) p;rw [List.take_of_length_le aO,digs_val] at h1;have h2:=vD_lt ((digs_dg M).take p);rw [List.length_take,Nat.min_eq_left aO] at h2;have hne:digs M≠[]:=fun e=>by rw [e] at h; cases h
 have h3:=valD_ge (B:=4294967296) aO (digs M) hne (digs_canon M);have e:valD 4294967296 (digs M)=M:=digs_val M;rw [e,h,Nat.add_sub_cancel] at h3;exact ⟨by rw [Nat.mul_add]; omega,h3⟩
theorem top_pos {V:List Nat} {p:Nat} (gV:Dg V) (hl:V.length=p+1) (h:4294967296^p<=vD V):0<dAt V p:=by
 apply Classical.byContradiction;intro h0;have h1:=vD_take' V p;rw [List.take_of_length_le aO,show dAt V p=0 by omega,Nat.mul_zero,Nat.add_zero] at h1;have h2:=vD_lt (gV.take p);rw [List.length_take,Nat.min_eq_left aO] at h2;omega
structure RestAt (U R:List Nat) (s k:Nat):Prop where
 len:R.length=k
 dg:Dg R
 val:2^s*vD R+dAt U 0%2^s=vD (U.take k)+4294967296^k*(dAt U k%2^s)
theorem RestAt.start (U:List Nat) (s:Nat):RestAt U [] s 0:=⟨rfl,Dg.nil,by simp [vD_nil]⟩
theorem rest_digit {x y s:Nat} (hs:s<32) (hx:x<4294967296):x / 2^s+y*2^(32 - s)%4294967296<4294967296/\2^s*(x / 2^s+y*2^(32 - s)%4294967296)+x%2^s=x+4294967296*(y%2^s)/\y*2^(32 - s)%4294967296%2^(32 - s)=0/\x / 2^s<2^(32 - s):=by
 have hp:2^s*2^(32 - s)=4294967296:=by rw [<- Nat.pow_add,show s+(32 - s)=32 by omega]
 have e1:y*2^(32 - s)%4294967296=y%2^s*2^(32 - s):=by rw [<- hp,Nat.mul_mod_mul_right]
 have h1:=Nat.div_add_mod x (2^s);have ps:=Nat.two_pow_pos s;have h2:x / 2^s<2^(32 - s):=(Nat.div_lt_iff_lt_mul ps).2 (by rw [Nat.mul_comm,hp]; exact hx);have h3:=Nat.mod_lt y ps;rw [e1];refine ⟨?_,?_,by rw [Nat.mul_mod_left],h2⟩
 ·have:=Nat.mul_le_mul_right (2^(32 - s)) (show y%2^s+1<=2^s by omega);rw [hp,Nat.add_mul] at this;omega
 ·rw [<- hp];generalize y%2^s=z at *;generalize x / 2^s=q at *;generalize x%2^s=r at *;rw [<- h1];grind
theorem RestAt.step {U R:List Nat} {s k x y r:Nat} (t:RestAt U R s k) (hs:s<32) (hx:dAt U k=x) (hy:dAt U (k+1)=y) (hx1:x<4294967296) (hr:x / 2^s+y*2^(32 - s)%4294967296=r):RestAt U (R++[r]) s (k+1):=by
 obtain ⟨h1,h2,_,_⟩:=rest_digit (y:=y) hs hx1;rw [hr] at h1 h2;refine ⟨by rw [List.length_append,t.len]; rfl,t.dg.append (Dg.one h1),?_⟩;have h3:=t.val;rw [vD_snoc,t.len,vD_take',hx,hy,Nat.pow_succ];rw [hx] at h3;generalize 4294967296^k=p at *;generalize dAt U 0%2^s=u at *;have e2:p*(2^s*r+x%2^s)=p*(x+4294967296*(y%2^s)):=by rw [h2]
 generalize y%2^s=z at *;generalize x%2^s=w at *;generalize 2^s=c at *;grind
theorem RestAt.done {U R:List Nat} {s n r:Nat} (t:RestAt U R s n) (hs:s<32) (gU:Dg U) (hU:vD U=r*2^s) (hlt:vD U<4294967296^n) (hl:n<U.length):vD R=r:=by
 have h1:=t.val;have hsp:=vD_split U n hl;have h0:dAt U n=0:=by
  apply Classical.byContradiction;intro hne;have:=Nat.mul_le_mul_left (4294967296^n) (show 1<=dAt U n by omega);omega
 have hd:4294967296^(n+1)*vD (U.drop (n+1))=0:=by
  apply Classical.byContradiction;intro hne;have h5:0<vD (U.drop (n+1)):=by
   apply Classical.byContradiction;intro h6;apply hne;rw [show vD (U.drop (n+1))=0 by omega,Nat.mul_zero]
  have:=Nat.mul_le_mul_left (4294967296^(n+1)) (show 1<=vD (U.drop (n+1)) by omega);rw [Nat.pow_succ] at this;rw [Nat.pow_succ] at hsp;omega
 rw [h0,Nat.mul_zero,Nat.add_zero,hd,Nat.add_zero] at hsp;rw [h0,Nat.zero_mod,Nat.mul_zero,Nat.add_zero,<- hsp,hU] at h1;have hm:dAt U 0%2^s=0:=by
  have e1:U=dAt U 0::U.drop 1:=by
   have:=drop_dAt (D:=U) (j:=0) aO;rw [List.drop_zero] at this;exact this
  have hp:2^s*2^(32 - s)=4294967296:=by rw [<- Nat.pow_add,show s+(32 - s)=32 by omega]
  have e2:vD U=dAt U 0+4294967296*vD (U.drop 1):=by
   have:=vD_cons (dAt U 0) (U.drop 1);rw [<- e1] at this;exact this
  rw [hU,<- hp,Nat.mul_assoc] at e2;have e3:r*2^s%2^s=0:=Nat.mul_mod_left _ _;rw [e2,Nat.add_mul_mod_self_left] at e3;exact e3
 rw [hm,Nat.add_zero,Nat.mul_comm] at h1;exact Nat.eq_of_mul_eq_mul_right (Nat.two_pow_pos s) h1
end Go.Proofs.YtflgngjocgiojaaGreat
