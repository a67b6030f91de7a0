import Derived.Laws.CopyOwn
import Derived.Test.YtflgngjocgiojaaGreatNumF
set_option linter.all false
namespace Go.Proofs.YtflgngjocgiojaaGreat
open Go.RowKit
set_option maxHeartbeats 8000000
set_option maxRecDepth 100000
def cellU (d:Nat):Value:= .int .u32 ((d:Nat):Int)
theorem wpList_copy_digs {ops:Array Oper} {rest:List Oper} {o:Oper} {a:Act} {w:World} {Q:Exit->Act->World->Prop} (hgd:o.guard=none) (d s:Operand) (dT sT:TypeId)
 (ho:o.op = .call { callee:= .builtin .copy,args:=#[d,s],argTypes:=#[dT,sT] }) (hu:Tryz.prog.underlying dT=some (.slice 97)) (hsz:(Tryz.prog.info? 97).map (·.size)=some 1)
 (b n cd:Nat) (A:Option Addr) (m cs:Nat) (hd:a.eval d = .slice (some ⟨b,0,none⟩) n cd) (hs:a.eval s = .slice A m cs) (L D:List Nat) (hL:OwnD w b L) (hLn:L.length=n) (hv:DigsAt w A m D) (hm:m<=n)
 (B:Nat) (w0:World) (hb:Below B w0 w) (hB:B<=b) (h:∀ w',OwnD w' b (D++L.drop m)->Below B w0 w'->wpList Tryz.prog ops Q rest (a.put o.dst (goInt m)) w'):wpList Tryz.prog ops Q (o::rest) a w:=by
 obtain ⟨T,hT⟩:=hL;have hlD:=hv.len;refine wpList_copy_splice hgd d s dT sT ho 97 hu hsz (some ⟨b,0,none⟩) A n cd m cs hd hs b 0 (L.map cellU) T hT (D.map cellU) ?_ ?_ ?_ ?_ B w0 hb hB ?_
 ·rw [List.length_map,hlD]; exact (Nat.min_eq_left hm).symm
 ·intro h0;rw [List.length_map,hlD] at h0;obtain ⟨b',off,rfl,hlt,hc⟩:=hv.row h0;refine ⟨rfl,_,rfl,fun j v hj=>?_⟩;rw [List.getElem?_map] at hj;have hjl:j<D.length:=by
   rcases Nat.lt_or_ge j D.length with h | h
   ·exact h
   ·rw [List.getElem?_eq_none h] at hj; cases hj
  rw [List.getElem?_eq_getElem hjl,dAt_in hjl] at hj;obtain rfl:=Option.some.inj hj;have e:(⟨b',off,none⟩:Addr).add j=⟨b',off+j,none⟩:=by unfold Addr.add; split <;> simp_all
  rw [e];exact hc j aO
 ·rw [List.length_map,List.length_map,hlD,hLn]; omega
 ·intro v hv;obtain ⟨d,_,rfl⟩:=List.mem_map.1 hv;rfl
 ·intro w' hh hb';have e:splice (L.map cellU) 0 (D.map cellU)=(D++L.drop m).map cellU:=by
   unfold splice;rw [List.take_zero,List.nil_append,Nat.zero_add,List.length_map,hlD,<- List.map_drop,<- List.map_append]
  have hh2:=hh.out;rw [e] at hh2;rw [List.length_map,hlD];exact h w' ⟨T,hh2⟩ hb'
theorem shl_or {d c t:Nat} (by_:Nat) (ht:by_<32) (hc:c<2^by_):bits .or .u32 (((d*2^by_%4294967296:Nat):Int)) (c:Int)=((d*2^by_%4294967296+c:Nat):Int):=by
 have hp:2^by_*2^(32 - by_)=4294967296:=by rw [<- Nat.pow_add,show by_+(32 - by_)=32 by omega]
 have h1:d*2^by_%4294967296%2^by_=0:=by
  rw [<- hp,Nat.mod_mul_right_mod,Nat.mul_mod_left]
 have hle:2^by_<=2^31:=Nat.pow_le_pow_right aO aO;rw [u32_or_nat _ _ (Nat.mod_lt _ aO) aO,nat_join by_ _ _ h1 hc]
theorem set_drop {R D0:List Nat} {n k:Nat} (hR:R.length=k) (hD:D0.length=n) (hk:k<n) (r:Nat):(R++D0.drop k).set k r=(R++[r])++D0.drop (k+1):=by
 rw [List.set_append_right _ _ aO,hR,Nat.sub_self,drop_dAt aO,List.set_cons_zero,List.append_assoc];rfl
theorem up_step {s d cr v x p:Nat} (hs:s<32) (hval:v+p*cr=x*2^s):(v+p*(d*2^s%4294967296+cr))+p*4294967296*(d / 2^(32 - s))=(x+p*d)*2^s:=by
 have e:d / 2^(32 - s)=d*2^s / 4294967296:=by
  have hp:2^(32 - s)*2^s=4294967296:=by rw [<- Nat.pow_add,show 32 - s+s=32 by omega]
  rw [<- hp,Nat.mul_div_mul_right _ _ (Nat.two_pow_pos s)]
 rw [e];have h2:=Nat.div_add_mod (d*2^s) 4294967296;generalize d*2^s / 4294967296=q at *;generalize d*2^s%4294967296=r at *;have e2:(x+p*d)*2^s=x*2^s+p*(d*2^s):=by rw [Nat.add_mul,Nat.mul_assoc]
 rw [e2,<- h2,<- hval];grind
theorem mag_up {w:World} {A:Option Addr} {m:Nat} {D:List Nat} (c s n:Nat) (hv:DigsAt w A m D) (hm:m<=n) (hn:n<=1000) (hs:s<32) :
 Calls Tryz.prog 108 #[.slice A m c,.int .i64 (s:Nat),.int .i64 (n:Nat)] w fun e w'=>(e = .returned (.slice (some ⟨w.heap.size,0,none⟩) n n)/\∃ L cr,OwnD w' w.heap.size L/\L.length=n/\Dg L/\vD L+4294967296^n*cr=vD D*2^s)/\Below w.heap.size w w':=by
 have hl:=hv.len;have HV:=Zh hv;have HL:=Zh hl;clear hv hl;have hni:(n:Int)<=1000:=aO
 have hmk:=fun w=>make_mag n aO w
 go_enter Tryz.func108,Tryz.ntmps108;have hO:OwnD (w.alloc (.cells (encU (List.replicate n 0)) 97)) w.heap.size (List.replicate n 0):=OwnD.new _ _;have hW:=(Zb w.heap.size w).alloc (Zr _) (.cells (encU (List.replicate n 0)) 97);have HOW:=Zh (Zi hO (Zi hW (HV.out.below hW)));clear hO hW;go_wp2_with (refine wpList_copy_digs rfl (.tmp 13) (.tmp 14) 99 99 (by rfl) aK aK w.heap.size n n A m c (by rfl) (by rfl) (List.replicate n 0) D HOW.out.1 List.length_replicate HOW.out.2.2 hm w.heap.size w HOW.out.2.1 (Zr _) ?_);intro w1 oo hw;clear hmk HOW;obtain ⟨D0,hD0⟩:=Zx (D++List.replicate (n - m) 0);have hD0l:D0.length=n:=by rw [<- hD0,List.length_append,List.length_replicate,HL.out]; omega
 have hD0a:∀ k,dAt D0 k=dAt D k:=fun k=>by
  rw [<- hD0];rcases Nat.lt_or_ge k D.length with h | h
  ·unfold dAt; rw [Ze,Ze,List.getElem?_append_left h]
  ·rw [dAt_out h];unfold dAt;rw [Ze,List.getElem?_append_right h,List.getElem?_replicate];split <;> rfl
 rw [hD0] at oo;have HD0:=Zh (Zi hD0l hD0a);clear hD0 hD0l hD0a;go_wp2;go_loopw [8,18] (fun c i wr=>∃ (k cr:Nat) (R:List Nat),k<=n/\i = .int .i64 k/\c = .int .u32 cr/\cr<2^s/\R.length=k/\Dg R/\vD R+4294967296^k*cr=vD (D.take k)*2^s/\Below w.heap.size w wr/\OwnD wr w.heap.size (R++D0.drop k)) (fun _ i _=>n - (intOf i).toNat)
 case atStart=>exact ⟨0,0,[],aO,rfl,rfl,Nat.two_pow_pos _,rfl,Dg.nil,by simp [vD_nil],hw,oo⟩
 case round =>
  clear hw oo;obtain ⟨k,cr,R,hk,rfl,rfl,hcr,hR,hdg,hval,hw,oo⟩:=hrel;have HVL:=Zh hval;have HD:=Zh (Zi hR hdg);clear hval hR hdg;have oof:=Own.thaw oo
  by_cases hlt:k<n
  ·have hlt2:(k:Int)<(n:Int):=aO
   obtain ⟨d,hd⟩:=Zx (dAt D k);have hd1:d<4294967296:=by rw [<- hd]; exact HV.out.dg.at_ k
   have hdL:dAt (R++D0.drop k) k=d:=by
    unfold dAt;rw [Ze,List.getElem?_append_right (by rw [HD.out.1]; exact Zr _),HD.out.1,Nat.sub_self,List.getElem?_drop,Nat.add_zero];have:=HD0.out.2 k;unfold dAt at this hd;rw [Ze] at this;rw [this]; exact hd
   have oc:=oo.cell (by rw [List.length_append,List.length_drop,HD.out.1,HD0.out.1]; omega) hdL;have HDD:=Zh hd;clear hd hdL;obtain ⟨r,hr⟩:=Zx (d*2^s%4294967296+cr);obtain ⟨t,ht⟩:=Zx (d / 2^(32 - s));have hor:bits .or .u32 ((d:Int)*2^s%4294967296) (cr:Int)=(r:Int):=by
    have e:(d:Int)*2^s%4294967296=((d*2^s%4294967296:Nat):Int):=by rw [Int.natCast_emod,Int.natCast_mul,Int.natCast_pow]; rfl
    rw [e,shl_or (t:=0) s hs hcr,hr]
   have hsh:(d:Int) / 2^(32 - s)=(t:Int):=by rw [<- ht,Int.natCast_ediv,Int.natCast_pow]; rfl
   have ht1:t<2^s:=by
    rw [<- ht];have hp:2^s*2^(32 - s)=4294967296:=by rw [<- Nat.pow_add,show s+(32 - s)=32 by omega]
    exact (Nat.div_lt_iff_lt_mul (Nat.two_pow_pos _)).2 (by rw [hp]; exact hd1)
   have hr1:r<4294967296:=by
    have hp:2^s*2^(32 - s)=4294967296:=by rw [<- Nat.pow_add,show s+(32 - s)=32 by omega]
    have h1:d*2^s%4294967296%2^s=0:=by rw [<- hp,Nat.mod_mul_right_mod,Nat.mul_mod_left]
    have h2:d*2^s%4294967296<2^32:=Nat.mod_lt _ aO;have h3:cr<2^32:=Zl hcr (Nat.pow_le_pow_right aO aO);have h4:=Nat.or_lt_two_pow h2 h3;rw [nat_join s _ _ h1 hcr,hr] at h4;exact h4
   have HT1:=Zh ht1;have hst:=up_step (d:=d) (p:=4294967296^k) hs HVL.out;rw [hr,ht] at hst;have HNV:Hid (vD (R++[r])+4294967296^(k+1)*t=vD (D.take (k+1))*2^s):=Zh (by
    rw [vD_snoc,vD_take',HD.out.1,HDD.out,Nat.pow_succ]; exact hst)
   have HNR:Hid ((R++[r]).length=k+1/\Dg (R++[r])):=Zh ⟨by rw [List.length_append,HD.out.1]; rfl,HD.out.2.append (Dg.one hr1)⟩;have HSE:=Zh (set_drop (r:=r) HD.out.1 HD0.out.1 hlt);clear hr ht ht1 hst hr1 hcr HVL HD HDD;go_wp2;go_roundw
   case rel=>exact ⟨k+1,t,R++[r],aO,by go_num,rfl,HT1.out,HNR.out.1,HNR.out.2,HNV.out,hw.setCell (Zr _) _,oo.set HSE.out⟩
   case measure=>simp [intOf]; omega
  ·obtain rfl:k=n:=aO
   have hval:=HVL.out;rw [List.take_of_length_le (by rw [HL.out]; exact hm)] at hval;rw [List.drop_of_length_le (by rw [HD0.out.1]; exact Zr _),List.append_nil] at oo;have HVV:=Zh hval;clear hval HVL;go_wp2;go_ret;exact ⟨⟨rfl,R,cr,oo,HD.out.1,HD.out.2,HVV.out⟩,hw⟩
end Go.Proofs.YtflgngjocgiojaaGreat
namespace Go.Proofs.YtflgngjocgiojaaGreat
structure SubAt (W0 W V:List Nat) (n k g cb:Nat):Prop where
 len:W.length=n+1
 dg:Dg W
 val:vD W+g*vD (V.take k)=vD W0+4294967296^k*cb
 same:∀ j,k<=j->dAt W j=dAt W0 j
theorem SubAt.start {W V:List Nat} {n g:Nat} (hl:W.length=n+1) (hd:Dg W):SubAt W W V n 0 g 0:=⟨hl,hd,by simp [vD_nil],fun _ _=>rfl⟩
theorem SubAt.step {W0 W V:List Nat} {n k g c b d u r lo hi b':Nat} (t:SubAt W0 W V n k g (c+b)) (hk:k<n) (hd:dAt V k=d) (hu:dAt W k=u) (hr:r<4294967296) (hc:c+g*d=lo+4294967296*hi) (hs:r+lo+b=u+4294967296*b') :
 SubAt W0 (W.set k r) V n (k+1) g (hi+b'):=by
 have hkl:k<W.length:=by rw [t.len]; omega
 refine ⟨by rw [List.length_set]; exact t.len,t.dg.set _ _ hr,?_,fun j hj=>?_⟩
 ·have h1:=vD_set (L:=W) (j:=k) r hkl;rw [hu] at h1;have h2:=t.val;rw [vD_take',hd,Nat.pow_succ];generalize 4294967296^k=p at *;generalize vD (W.set k r)=x at *;generalize vD (V.take k)=y at *;have e1:p*(c+g*d)=p*(lo+4294967296*hi):=by rw [hc]
  have e2:p*(r+lo+b)=p*(u+4294967296*b'):=by rw [hs]
  grind
 ·rw [dAt_set hkl,if_neg aO];exact t.same j aO
theorem SubAt.top {W0 W V:List Nat} {n g c u r neg:Nat} (t:SubAt W0 W V n n g c) (hV:V.length=n) (hu:dAt W n=u) (hr:r<4294967296) (hs:r+c=u+4294967296*neg) :
 (W.set n r).length=n+1/\Dg (W.set n r)/\vD (W.set n r)+g*vD V=vD W0+4294967296^(n+1)*neg:=by
 have hkl:n<W.length:=by rw [t.len]; omega
 refine ⟨by rw [List.length_set]; exact t.len,t.dg.set _ _ hr,?_⟩;have h1:=vD_set (L:=W) (j:=n) r hkl;rw [hu] at h1;have h2:=t.val;rw [List.take_of_length_le aO] at h2;rw [Nat.pow_succ];generalize 4294967296^n=p at *;generalize vD (W.set n r)=x at *;have e2:p*(r+c)=p*(u+4294967296*neg):=by rw [hs]
 grind
structure AddAt (W0 W V:List Nat) (n k m:Nat):Prop where
 len:W.length=n+1
 dg:Dg W
 val:vD W+4294967296^k*m=vD W0+vD (V.take k)
 same:∀ j,k<=j->dAt W j=dAt W0 j
theorem AddAt.start {W V:List Nat} {n:Nat} (hl:W.length=n+1) (hd:Dg W):AddAt W W V n 0 0:=⟨hl,hd,by simp [vD_nil],fun _ _=>rfl⟩
theorem AddAt.step {W0 W V:List Nat} {n k m d u r m':Nat} (t:AddAt W0 W V n k m) (hk:k<=n) (hd:dAt V k=d) (hu:dAt W k=u) (hr:r<4294967296) (hs:r+4294967296*m'=u+d+m) :
 AddAt W0 (W.set k r) V n (k+1) m':=by
 have hkl:k<W.length:=by rw [t.len]; omega
 refine ⟨by rw [List.length_set]; exact t.len,t.dg.set _ _ hr,?_,fun j hj=>?_⟩
 ·have h1:=vD_set (L:=W) (j:=k) r hkl;rw [hu] at h1;have h2:=t.val;rw [vD_take',hd,Nat.pow_succ];generalize 4294967296^k=p at *;generalize vD (W.set k r)=x at *;generalize vD (V.take k)=y at *;have e2:p*(r+4294967296*m')=p*(u+d+m):=by rw [hs]
  grind
 ·rw [dAt_set hkl,if_neg aO];exact t.same j aO
structure EstAt (W0 W V:List Nat) (n g neg:Nat):Prop where
 len:W.length=n+1
 dg:Dg W
 val:vD W+g*vD V=vD W0+4294967296^(n+1)*neg
 ge:min (vD W0 / vD V) 4294967295<=g
 le:g<=4294967295
theorem EstAt.less {W0 W V:List Nat} {n g:Nat} (t:EstAt W0 W V n g 1) (hv:0<vD V):vD W0 / vD V<g/\0<g:=by
 have h1:=vD_lt t.dg;rw [t.len] at h1;have h2:=t.val;have h3:vD W0<g*vD V:=aO
 have h4:vD W0 / vD V<g:=(Nat.div_lt_iff_lt_mul hv).2 h3;exact ⟨h4,Nat.lt_of_le_of_lt (Nat.zero_le _) h4⟩
theorem EstAt.back {W0 W W' V:List Nat} {n g m:Nat} (t:EstAt W0 W V n g 1) (hv:0<vD V) (a:AddAt W W' V n (n+1) m) (hV:V.length=n) (hm:m<=1):EstAt W0 W' V n (g - 1) (1 - m):=by
 obtain ⟨h1,h2⟩:=t.less hv;refine ⟨a.len,a.dg,?_,by have:=t.ge; omega,by have:=t.le; omega⟩;have h3:=a.val;rw [List.take_of_length_le aO] at h3;have h4:=t.val;have e:g*vD V=(g - 1)*vD V+vD V:=by
  have:g=(g - 1)+1:=aO
  rw [this,Nat.add_mul,Nat.one_mul]; rfl
 rw [e] at h4;generalize 4294967296^(n+1)=p at *;have h5:m=0\/m=1:=aO
 rcases h5 with rfl | rfl
 ·omega
 ·simp at h3 ⊢; omega
theorem EstAt.done {W0 W V:List Nat} {n g:Nat} (t:EstAt W0 W V n g 0) (hv:0<vD V):g=min (vD W0 / vD V) 4294967295/\vD W+g*vD V=vD W0:=by
 have h:=t.val;rw [Nat.mul_zero,Nat.add_zero] at h;have h1:g<=vD W0 / vD V:=(Nat.le_div_iff_mul_le hv).2 aO;have h2:=t.ge;have h3:=t.le;exact ⟨aO,h⟩
theorem est_first {W V:List Nat} {n:Nat} (hW:W.length=n+1) (hV:V.length=n) (hn:1<=n) (gW:Dg W) (gV:Dg V) (hv:0<dAt V (n - 1)):vD W / vD V<=(dAt W n*4294967296+dAt W (n - 1)) / dAt V (n - 1):=by
 have sW:vD W=(dAt W n*4294967296+dAt W (n - 1))*4294967296^(n - 1)+vD (W.take (n - 1)):=by
  have h1:=vD_take' W n;rw [List.take_of_length_le aO] at h1;have h2:=vD_take' W (n - 1);rw [show n - 1+1=n by omega] at h2;rw [h1,h2];have e:4294967296^n=4294967296*4294967296^(n - 1):=by rw [<- Nat.pow_succ',show (n - 1).succ=n by omega]
  rw [e];grind
 have sV:vD V=dAt V (n - 1)*4294967296^(n - 1)+vD (V.take (n - 1)):=by
  have h2:=vD_take' V (n - 1);rw [show n - 1+1=n by omega,List.take_of_length_le aO] at h2;rw [h2,Nat.mul_comm]; omega
 have hl:=vD_lt (gW.take (n - 1));rw [List.length_take,Nat.min_eq_left aO] at hl;exact guess_hi sV sW hl hv
theorem val_pos {V:List Nat} {k:Nat} (hk:k<V.length) (h:0<dAt V k):0<vD V:=by
 rw [vD_split V k hk];have:=Nat.mul_pos (Nat.pow_pos (n:=k) (show 0<4294967296 by omega)) h;omega
end Go.Proofs.YtflgngjocgiojaaGreat
namespace Go.Proofs.YtflgngjocgiojaaGreat
open Go.RowKit
set_option maxHeartbeats 8000000
set_option maxRecDepth 100000
theorem mid_at {P W S:List Nat} {k0 j:Nat} (hP:P.length=k0) (hj:j<W.length):dAt (P++W++S) (k0+j)=dAt W j:=by
 unfold dAt;rw [Ze,Ze,List.append_assoc,List.getElem?_append_right aO,List.getElem?_append_left aO,hP,Nat.add_sub_cancel_left]
theorem mid_set {P W S:List Nat} {k0 j:Nat} (hP:P.length=k0) (hj:j<W.length) (r:Nat):(P++W++S).set (k0+j) r=P++W.set j r++S:=by
 rw [List.append_assoc,List.set_append_right _ _ aO,hP,Nat.add_sub_cancel_left,List.set_append_left _ _ hj,List.append_assoc]
theorem mid_len {P W S:List Nat} {k0 j:Nat} (hP:P.length=k0) (hj:j<W.length):k0+j<(P++W++S).length:=by
 rw [List.length_append,List.length_append,hP]; omega
theorem OwnD.keeps {T:List Nat} {w w':World} {b:Nat} {L:List Nat} (h:OwnD w b L) (hk:Keeps T w w') (hb:b∉T):OwnD w' b L:=Own.keeps h hk hb
theorem mask32 {C:Nat} (h:C<18446744073709551616):bits .and .u64 (C:Int) 4294967295=((C%4294967296:Nat):Int):=by
 have q:=u64_and_nat C 4294967295 h aO;have e:C &&& 4294967295=C%4294967296:=Nat.and_two_pow_sub_one_eq_mod C 32;rw [e] at q;exact q
theorem sub64 {x lo bb:Nat} (hx:x<4294967296) (hlo:lo<4294967296) (hb:bb<=1):∃ X1 X2 r b':Nat,IntKind.u64.wrap ((x:Int) - (lo:Int))=(X1:Int)/\IntKind.u64.wrap ((X1:Int) - (bb:Int))=(X2:Int)/\(X2:Int)%4294967296=(r:Int)/\(X2:Int) / 9223372036854775808=(b':Int) /\
 X1<18446744073709551616/\X2<18446744073709551616/\r<4294967296/\b'<=1/\r+lo+bb=x+4294967296*b':=by
 simp only [IntKind.wrap_u64];obtain ⟨X1,h1⟩:∃ X1:Nat,((x:Int) - (lo:Int))%18446744073709551616=(X1:Int):=⟨(((x:Int) - (lo:Int))%18446744073709551616).toNat,aO⟩;obtain ⟨X2,h2⟩:∃ X2:Nat,((X1:Int) - (bb:Int))%18446744073709551616=(X2:Int):=⟨(((X1:Int) - (bb:Int))%18446744073709551616).toNat,aO⟩;exact ⟨X1,X2,X2%4294967296,X2 / 9223372036854775808,h1,h2,aO,aO,aO,aO,aO,aO,aO⟩
theorem num_step {w:World} {P W S V:List Nat} (bu bv k0 n N cu cv:Nat) (hN:n+1=N) (hu:OwnD w bu (P++W++S)) (hP:P.length=k0) (hv:OwnD w bv V) (hne:bv≠bu) (hW:W.length=n+1) (hV:V.length=n) (hn1:1<=n) (hn:n<=1000) (hk:k0<=1000) (gW:Dg W) (gV:Dg V) (htop:0<dAt V (n - 1)) :
 Calls Tryz.prog 110 #[.slice (some ⟨bu,k0,none⟩) N cu,.slice (some ⟨bv,0,none⟩) n cv] w fun e w'=>(∃ W' g,e = .returned (.int .u32 (g:Nat))/\OwnD w' bu (P++W'++S)/\W'.length=N/\Dg W'/\g=min (vD W / vD V) 4294967295/\vD W'+g*vD V=vD W)/\Keeps [bu] w w'/\Below bu w w':=by
 have hvpos:0<vD V:=val_pos (k:=n - 1) aO htop;have hest:=est_first hW hV hn1 gW gV htop;have hni:(n:Int)<=1000:=aO
 have hn1i:(1:Int)<=(n:Int):=aO
 obtain ⟨m,hm⟩:∃ m,m+1=n:=⟨n - 1,aO⟩;have hmi:(n:Int) - 1=(m:Int):=aO
 have hmn:(m:Int)<(n:Int):=aO
 have hmn2:m<n:=aO
 have hm1:n - 1=m:=aO
 rw [hm1] at hest htop;obtain ⟨un,hun⟩:=Zx (dAt W n);obtain ⟨um,hum⟩:=Zx (dAt W m);obtain ⟨vm,hvm⟩:=Zx (dAt V m);rw [hun,hum,hvm] at hest;rw [hvm] at htop;have cun:=hu.cell (mid_len (S:=S) hP (show n<W.length by omega)) ((mid_at hP aO).trans hun);have cum:=hu.cell (mid_len (S:=S) hP (show m<W.length by omega)) ((mid_at hP aO).trans hum);have cvm:=hv.cell (show m<V.length by omega) hvm;have bum:um<4294967296:=by rw [<- hum]; exact gW.at_ m
 have bvm:vm<4294967296:=by rw [<- hvm]; exact gV.at_ m
 have HU:=Zh hu;have HVO:=Zh hv;have HP:=Zh (Zi hP (Zi hW hV));have HG:=Zh (Zi gW gV);have HVP:=Zh hvpos;have ltu:=ownD_lt hu;have ltv:=ownD_lt hv;clear hun hum hvm hP hW hV gW gV hvpos hm hm1 hu hv;have hNi:(n:Int)<(N:Int):=aO
 have hmNi:(m:Int)<(N:Int):=aO
 have HN:=Zh hN;clear hN;go_enter Tryz.func110,Tryz.ntmps110;go_wp2
 by_cases hlt:un<vm
 ·have hlti:(un:Int)<(vm:Int):=aO
  obtain ⟨g,hg⟩:=Zx ((un*4294967296+um) / vm);have hdiv:=fun W=>bits_Div32 un um vm hlt bum bvm W
  obtain ⟨rm,hrm⟩:=Zx ((un*4294967296+um)%vm);rw [hg,hrm] at hdiv;rw [hg] at hest;have hg1:g<=4294967295:=by
   have:g<4294967296:=by rw [<- hg]; exact (Nat.div_lt_iff_lt_mul htop).2 (by have:=Nat.mul_le_mul_right 4294967296 (show un+1<=vm by omega); omega)
   omega
  have HEST:Hid (min (vD W / vD V) 4294967295<=g/\g<=4294967295):=Zh ⟨by have:=hest; omega,hg1⟩;have HDIV:=Zh hdiv;clear hg hdiv hest hrm;go_wp2_with fail;refine region_late 10 [] aK aK (by rfl) ?_;apply Zs;refine ⟨fun v hv hne=>?_,fun u hu=>?_⟩
  ·simp only [TK];have d1:=later_cell (v:=v) (T:=[]) ltu aS cun;have d3:=later_cell (v:=v) (T:=[]) ltv aS cvm;exact qz
  ·simp only [TK];refine late_nil ?_
   (try simp only [LN])
   have hkp:Keeps [bu] w u:=Keeps.of_below hu;have hbl:Below bu w u:=hu.mono aO;replace cun:=(hu.cell (p:=⟨bu,_,none⟩) ltu).trans cun;replace cum:=(hu.cell (p:=⟨bu,_,none⟩) ltu).trans cum;replace cvm:=(hu.cell (p:=⟨bv,_,none⟩) ltv).trans cvm;have luu:bu<u.heap.size:=Zl ltu hu.size;have lvu:bv<u.heap.size:=Zl ltv hu.size;have oo:OwnD u bu (P++W++S):=HU.out.below hu;clear hu;go_wp2;refine region_late 20 [] aK aK (by rfl) ?_;apply Zs;refine ⟨fun v hv hne=>?_,fun u2 hu=>?_⟩
   ·simp only [TK];have d1:=later_cell (v:=v) (T:=[]) luu aS cun;have d2:=later_cell (v:=v) (T:=[]) luu aS cum;have d3:=later_cell (v:=v) (T:=[]) lvu aS cvm
    repeat (go_big_quiet_step ((go_at_call 130; with_reducible exact lateB (HDIV.out _))))
    refine wpQuiet_nil ?_;exact rfl
   ·simp only [TK];refine late_nil ?_
    (try simp only [LN])
    replace hkp:=hkp.later hu;replace hbl:=hbl.trans (hu.mono aO);replace oo:=oo.below hu;clear hu cun cum cvm luu lvu HDIV;generalize u2=u at *;clear hlti;go_wp2;go_loopw [9,10,53] (fun c b i wr=>∃ (k cc bb:Nat) (X:List Nat),k<=n/\i = .int .i64 k/\c = .int .u64 cc/\b = .int .u64 bb/\cc<4294967296/\bb<=1/\SubAt W X V n k g (cc+bb)/\Keeps [bu] w wr/\Below bu w wr/\OwnD wr bu (P++X++S)) (fun _ _ i _=>n - (intOf i).toNat)
    case atStart=>exact ⟨0,0,0,W,aO,rfl,rfl,rfl,aO,aO,SubAt.start HP.out.2.1 HG.out.1,hkp,hbl,oo⟩
    case round =>
     clear hkp hbl oo;obtain ⟨k,cc,bb,X,hk',rfl,rfl,rfl,hcc,hbb,hsub,hkp,hbl,oo⟩:=hrel;have HS:=Zh hsub;clear hsub;have oov:=HVO.out.keeps hkp (by simp; exact hne);have oof:=Own.thaw oo
     by_cases hlk:k<n
     ·have hlki:(k:Int)<(n:Int):=aO
      have hlkN:(k:Int)<(N:Int):=aO
      obtain ⟨d,hd⟩:=Zx (dAt V k);obtain ⟨x,hx⟩:=Zx (dAt X k);have cd:=oov.cell (by rw [HP.out.2.2]; exact hlk) hd;have cx:=oo.cell (mid_len HP.out.1 (by rw [HS.out.len]; omega)) ((mid_at HP.out.1 (by rw [HS.out.len]; omega)).trans hx);have hd1:d<4294967296:=by rw [<- hd]; exact HG.out.2.at_ k
      have hx1:x<4294967296:=by rw [<- hx]; exact HS.out.dg.at_ k
      have hg1:g<4294967296:=aO
      obtain ⟨p,hp⟩:=Zx (g*d);have hpb:p<=18446744065119617025:=by rw [<- hp]; exact prod_lt hg1 hd1
      have hpi:(g:Int)*(d:Int)=(p:Int):=by rw [<- hp]; exact (Int.natCast_mul g d).symm
      obtain ⟨C,hC⟩:=Zx (cc+p);have hCi:(cc:Int)+(p:Int)=(C:Int):=aO
      have hCb:C<18446744073709551616:=aO
      obtain ⟨lo,hlo⟩:=Zx (C%4294967296);obtain ⟨hi,hhi⟩:=Zx (C / 4294967296);have hand:bits .and .u64 (C:Int) 4294967295=(lo:Int):=by rw [mask32 hCb,hlo]
      have hshr:(C:Int) / 4294967296=(hi:Int):=aO
      have hlo1:lo<4294967296:=aO
      have hhi1:hi<4294967296:=aO
      obtain ⟨X1,X2,r,b1,hX1,hX2,hX3,hX4,hX5,hX6,hr1,hb1,hsum⟩:=sub64 (bb:=bb) hx1 hlo1 hbb;have HNS:=Zh (HS.out.step (hi:=hi) (lo:=lo) hlk hd hx hr1 (by rw [hp]; omega) hsum);have HMS:=Zh (mid_set (S:=S) (r:=r) HP.out.1 (show k<X.length by rw [HS.out.len]; omega));clear hd hx hp hC hlo hhi hsum HS;go_wp2;go_roundw
      case rel=>exact ⟨k+1,hi,b1,X.set k r,aO,by go_num,rfl,rfl,hhi1,hb1,HNS.out,hkp.set aS _,hbl.setCell (Zr _) _,oo.set HMS.out⟩
      case measure=>simp [intOf]; omega
     ·obtain rfl:k=n:=aO
      obtain ⟨x,hx⟩:=Zx (dAt X k);have cx:=oo.cell (mid_len (S:=S) HP.out.1 (by rw [HS.out.len]; omega)) ((mid_at HP.out.1 (by rw [HS.out.len]; omega)).trans hx);have hx1:x<4294967296:=by rw [<- hx]; exact HS.out.dg.at_ k
      obtain ⟨X1,X2,r,b1,hX1,hX2,hX3,hX4,hX5,hX6,hr1,hb1,hsum⟩:=sub64 (bb:=bb) hx1 hcc hbb;obtain ⟨t1,t2,t3⟩:=HS.out.top (r:=r) (neg:=b1) HP.out.2.2 hx hr1 aO;have HE0:Hid (EstAt W (X.set k r) V k g b1):=Zh ⟨t1,t2,t3,HEST.out.1,HEST.out.2⟩;have HMS:=Zh (mid_set (S:=S) (r:=r) HP.out.1 (show k<X.length by rw [HS.out.len]; omega));obtain ⟨q,hq⟩:=Zx (decide ((0:Int)<(b1:Int)));have hq2:(b1=1/\q=true)\/(b1=0/\q=false):=by
       have:b1=0\/b1=1:=aO
       rcases this with h | h
       ·exact .inr ⟨h,by rw [<- hq,h]; rfl⟩
       ·exact .inl ⟨h,by rw [<- hq,h]; rfl⟩
      have HQ2:=Zh hq2;have hq3:decide (0<b1)=q:=by rw [<- hq]; simp
      clear hx t1 t2 t3 hsum hq2 HS;go_wp2;have hkp2:Keeps [bu] w (wr.setCell ⟨bu,k0+k,none⟩ (.int .u32 (r:Nat))):=hkp.set aS _;have hbl2:Below bu w (wr.setCell ⟨bu,k0+k,none⟩ (.int .u32 (r:Nat))):=hbl.setCell (Zr _) _;have oo2:OwnD (wr.setCell ⟨bu,k0+k,none⟩ (.int .u32 (r:Nat))) bu (P++X.set k r++S):=oo.set HMS.out;clear cx hkp hbl oo oof oov hX1 hX2 hX3 hX4 hX5 hX6 hq hq3 HMS hcc;generalize (wr.setCell ⟨bu,k0+k,none⟩ (.int .u32 (r:Nat)))=w2 at *;go_loopw [6,15] (fun e s wr=>∃ (g:Nat) (neg:Nat) (q:Bool) (X:List Nat),e = .int .u64 g/\s = .bool q/\((neg=1/\q=true)\/(neg=0/\q=false))/\EstAt W X V k g neg/\Keeps [bu] w wr/\Below bu w wr/\OwnD wr bu (P++X++S)) (fun e _ _=>(intOf e).toNat)
      case atStart=>exact ⟨g,b1,q,X.set k r,rfl,rfl,HQ2.out,HE0.out,hkp2,hbl2,oo2⟩
      case round =>
       clear hkp2 hbl2 oo2 HE0 HQ2 HEST;obtain ⟨g,neg,q,X,rfl,rfl,hq,hE,hkp,hbl,oo⟩:=hrel;have HE:=Zh hE;have hg1:=hE.le;clear hE;rcases hq with ⟨rfl,rfl⟩ | ⟨rfl,rfl⟩
       ·have hg0:=(HE.out.less HVP.out).2;obtain ⟨h,hh⟩:=Zx (g - 1);have hhi:(g:Int) - 1=(h:Int):=aO
        have hhw:IntKind.u64.wrap ((g:Int) - 1)=(h:Int):=by rw [IntKind.wrap_u64]; omega
        have HH:=Zh hh;have HG0:=Zh hg0;have hel:=HE.out.len;have hed:=HE.out.dg;have HEL:=Zh (Zi hel hed);clear hh hg0 hel hed;go_wp2;go_loopw [16,106] (fun c i wr=>∃ (j mm:Nat) (Y:List Nat),j<=k/\i = .int .i64 j/\c = .int .u32 mm/\mm<=1/\AddAt X Y V k j mm/\Keeps [bu] w wr/\Below bu w wr/\OwnD wr bu (P++Y++S)) (fun _ i _=>k - (intOf i).toNat)
        case atStart=>exact ⟨0,0,X,aO,rfl,rfl,aO,AddAt.start HEL.out.1 HEL.out.2,hkp,hbl,oo⟩
        case round =>
         clear hkp hbl oo;obtain ⟨j,mm,Y,hj,rfl,rfl,hmm,hA,hkp,hbl,oo⟩:=hrel;have HA:=Zh hA;clear hA;have oov:=HVO.out.keeps hkp (by simp; exact hne);have oof:=Own.thaw oo;obtain ⟨x,hx⟩:=Zx (dAt Y j);have cx:=oo.cell (mid_len (S:=S) HP.out.1 (by rw [HA.out.len]; omega)) ((mid_at HP.out.1 (by rw [HA.out.len]; omega)).trans hx);have hx1:x<4294967296:=by rw [<- hx]; exact HA.out.dg.at_ j
         have HMS:=fun r=>Zh (mid_set (S:=S) (r:=r) HP.out.1 (show j<Y.length by rw [HA.out.len]; omega))
         obtain ⟨d,hd⟩:=Zx (dAt V j);have hd1:d<4294967296:=by rw [<- hd]; exact HG.out.2.at_ j
         have hadd:=fun W=>bits_Add32 x d mm hx1 hd1 hmm W
         obtain ⟨r,hr⟩:=Zx ((x+d+mm)%4294967296);obtain ⟨s,hs⟩:=Zx ((x+d+mm) / 4294967296);have hr1:r<4294967296:=aO
         have hs1:s<=1:=aO
         rw [hr,hs] at hadd;have HADD:=Zh hadd;have HNA:=Zh (HA.out.step hj hd hx hr1 (m':=s) aO)
         by_cases hlj:j<k
         ·have hlji:(j:Int)<(k:Int):=aO
          have hljN:(j:Int)<(N:Int):=aO
          have cd:=oov.cell (by rw [HP.out.2.2]; exact hlj) hd;clear hx hd hr hs hadd HA;go_wp2_with fail;refine Zd (HADD.out _) ?_;rintro e w5 ⟨rfl,rfl⟩;go_wp2;go_roundw
          case rel=>exact ⟨j+1,s,Y.set j r,aO,by go_num,rfl,hs1,HNA.out,hkp.set aS _,hbl.setCell (Zr _) _,oo.set (HMS r).out⟩
          case measure=>simp [intOf]; omega
         ·obtain rfl:j=k:=aO
          obtain rfl:0=d:=by rw [<- hd,dAt_out (by rw [HP.out.2.2]; exact Zr _)]
          have HNE:=Zh (HE.out.back HVP.out HNA.out HP.out.2.2 hs1);rw [HH.out] at HNE;clear hx hd hr hs hadd HA;go_wp2_with fail;refine Zd (HADD.out _) ?_;rintro e w5 ⟨rfl,rfl⟩;have hs2:s=0\/s=1:=aO
          rcases hs2 with rfl | rfl
          ·go_wp2;go_roundw
           case rel=>exact ⟨h,1,true,Y.set j r,rfl,rfl,.inl ⟨rfl,rfl⟩,HNE.out,hkp.set aS _,hbl.setCell (Zr _) _,oo.set (HMS r).out⟩
           case measure=>have:=HH.out; have:=HG0.out; simp [intOf]; omega
          ·go_wp2;go_roundw
           case rel=>exact ⟨h,0,false,Y.set j r,rfl,rfl,.inr ⟨rfl,rfl⟩,HNE.out,hkp.set aS _,hbl.setCell (Zr _) _,oo.set (HMS r).out⟩
           case measure=>have:=HH.out; have:=HG0.out; simp [intOf]; omega
       ·obtain ⟨d1,d2⟩:=HE.out.done HVP.out;have HD1:=Zh (Zi d1 d2);clear d1 d2;go_wp2;go_ret;exact ⟨⟨X,g,rfl,oo,by rw [<- HN.out]; exact HE.out.len,HE.out.dg,HD1.out.1,HD1.out.2⟩,hkp,hbl⟩
 ·have hlti:¬ (un:Int)<(vm:Int):=aO
  obtain ⟨g,hg⟩:=Zx (4294967295);have HEST:Hid (min (vD W / vD V) 4294967295<=g/\g<=4294967295):=Zh ⟨aO,aO⟩;have hgi:(g:Int)<4294967296:=aO
  have hgc:(4294967295:Int)=(g:Int):=aO
  clear hest hg;refine region_late 10 [] aK aK (by rfl) ?_;apply Zs;refine ⟨fun v hv hne=>?_,fun u hu=>?_⟩
  ·simp only [TK];have d1:=later_cell (v:=v) (T:=[]) ltu aS cun;have d3:=later_cell (v:=v) (T:=[]) ltv aS cvm;exact qz
  ·simp only [TK];refine late_nil ?_
   (try simp only [LN])
   have hkp:Keeps [bu] w u:=Keeps.of_below hu;have hbl:Below bu w u:=hu.mono aO;have oo:OwnD u bu (P++W++S):=HU.out.below hu;clear hu cun cum cvm;rw [hgc];clear hgc;clear hlti;go_wp2;go_loopw [9,10,53] (fun c b i wr=>∃ (k cc bb:Nat) (X:List Nat),k<=n/\i = .int .i64 k/\c = .int .u64 cc/\b = .int .u64 bb/\cc<4294967296/\bb<=1/\SubAt W X V n k g (cc+bb)/\Keeps [bu] w wr/\Below bu w wr/\OwnD wr bu (P++X++S)) (fun _ _ i _=>n - (intOf i).toNat)
   case atStart=>exact ⟨0,0,0,W,aO,rfl,rfl,rfl,aO,aO,SubAt.start HP.out.2.1 HG.out.1,hkp,hbl,oo⟩
   case round =>
    clear hkp hbl oo;obtain ⟨k,cc,bb,X,hk',rfl,rfl,rfl,hcc,hbb,hsub,hkp,hbl,oo⟩:=hrel;have HS:=Zh hsub;clear hsub;have oov:=HVO.out.keeps hkp (by simp; exact hne);have oof:=Own.thaw oo
    by_cases hlk:k<n
    ·have hlki:(k:Int)<(n:Int):=aO
     have hlkN:(k:Int)<(N:Int):=aO
     obtain ⟨d,hd⟩:=Zx (dAt V k);obtain ⟨x,hx⟩:=Zx (dAt X k);have cd:=oov.cell (by rw [HP.out.2.2]; exact hlk) hd;have cx:=oo.cell (mid_len HP.out.1 (by rw [HS.out.len]; omega)) ((mid_at HP.out.1 (by rw [HS.out.len]; omega)).trans hx);have hd1:d<4294967296:=by rw [<- hd]; exact HG.out.2.at_ k
     have hx1:x<4294967296:=by rw [<- hx]; exact HS.out.dg.at_ k
     have hg1:g<4294967296:=aO
     obtain ⟨p,hp⟩:=Zx (g*d);have hpb:p<=18446744065119617025:=by rw [<- hp]; exact prod_lt hg1 hd1
     have hpi:(g:Int)*(d:Int)=(p:Int):=by rw [<- hp]; exact (Int.natCast_mul g d).symm
     obtain ⟨C,hC⟩:=Zx (cc+p);have hCi:(cc:Int)+(p:Int)=(C:Int):=aO
     have hCb:C<18446744073709551616:=aO
     obtain ⟨lo,hlo⟩:=Zx (C%4294967296);obtain ⟨hi,hhi⟩:=Zx (C / 4294967296);have hand:bits .and .u64 (C:Int) 4294967295=(lo:Int):=by rw [mask32 hCb,hlo]
     have hshr:(C:Int) / 4294967296=(hi:Int):=aO
     have hlo1:lo<4294967296:=aO
     have hhi1:hi<4294967296:=aO
     obtain ⟨X1,X2,r,b1,hX1,hX2,hX3,hX4,hX5,hX6,hr1,hb1,hsum⟩:=sub64 (bb:=bb) hx1 hlo1 hbb;have HNS:=Zh (HS.out.step (hi:=hi) (lo:=lo) hlk hd hx hr1 (by rw [hp]; omega) hsum);have HMS:=Zh (mid_set (S:=S) (r:=r) HP.out.1 (show k<X.length by rw [HS.out.len]; omega));clear hd hx hp hC hlo hhi hsum HS;go_wp2;go_roundw
     case rel=>exact ⟨k+1,hi,b1,X.set k r,aO,by go_num,rfl,rfl,hhi1,hb1,HNS.out,hkp.set aS _,hbl.setCell (Zr _) _,oo.set HMS.out⟩
     case measure=>simp [intOf]; omega
    ·obtain rfl:k=n:=aO
     obtain ⟨x,hx⟩:=Zx (dAt X k);have cx:=oo.cell (mid_len (S:=S) HP.out.1 (by rw [HS.out.len]; omega)) ((mid_at HP.out.1 (by rw [HS.out.len]; omega)).trans hx);have hx1:x<4294967296:=by rw [<- hx]; exact HS.out.dg.at_ k
     obtain ⟨X1,X2,r,b1,hX1,hX2,hX3,hX4,hX5,hX6,hr1,hb1,hsum⟩:=sub64 (bb:=bb) hx1 hcc hbb;obtain ⟨t1,t2,t3⟩:=HS.out.top (r:=r) (neg:=b1) HP.out.2.2 hx hr1 aO;have HE0:Hid (EstAt W (X.set k r) V k g b1):=Zh ⟨t1,t2,t3,HEST.out.1,HEST.out.2⟩;have HMS:=Zh (mid_set (S:=S) (r:=r) HP.out.1 (show k<X.length by rw [HS.out.len]; omega));obtain ⟨q,hq⟩:=Zx (decide ((0:Int)<(b1:Int)));have hq2:(b1=1/\q=true)\/(b1=0/\q=false):=by
      have:b1=0\/b1=1:=aO
      rcases this with h | h
      ·exact .inr ⟨h,by rw [<- hq,h]; rfl⟩
      ·exact .inl ⟨h,by rw [<- hq,h]; rfl⟩
     have HQ2:=Zh hq2;have hq3:decide (0<b1)=q:=by rw [<- hq]; simp
     clear hx t1 t2 t3 hsum hq2 HS;go_wp2;have hkp2:Keeps [bu] w (wr.setCell ⟨bu,k0+k,none⟩ (.int .u32 (r:Nat))):=hkp.set aS _;have hbl2:Below bu w (wr.setCell ⟨bu,k0+k,none⟩ (.int .u32 (r:Nat))):=hbl.setCell (Zr _) _;have oo2:OwnD (wr.setCell ⟨bu,k0+k,none⟩ (.int .u32 (r:Nat))) bu (P++X.set k r++S):=oo.set HMS.out;clear cx hkp hbl oo oof oov hX1 hX2 hX3 hX4 hX5 hX6 hq hq3 HMS hcc;generalize (wr.setCell ⟨bu,k0+k,none⟩ (.int .u32 (r:Nat)))=w2 at *;go_loopw [6,15] (fun e s wr=>∃ (g:Nat) (neg:Nat) (q:Bool) (X:List Nat),e = .int .u64 g/\s = .bool q/\((neg=1/\q=true)\/(neg=0/\q=false))/\EstAt W X V k g neg/\Keeps [bu] w wr/\Below bu w wr/\OwnD wr bu (P++X++S)) (fun e _ _=>(intOf e).toNat)
     case atStart=>exact ⟨g,b1,q,X.set k r,rfl,rfl,HQ2.out,HE0.out,hkp2,hbl2,oo2⟩
     case round =>
      clear hkp2 hbl2 oo2 HE0 HQ2 hgi HEST;obtain ⟨g,neg,q,X,rfl,rfl,hq,hE,hkp,hbl,oo⟩:=hrel;have HE:=Zh hE;have hg1:=hE.le;clear hE;rcases hq with ⟨rfl,rfl⟩ | ⟨rfl,rfl⟩
      ·have hg0:=(HE.out.less HVP.out).2;obtain ⟨h,hh⟩:=Zx (g - 1);have hhi:(g:Int) - 1=(h:Int):=aO
       have hhw:IntKind.u64.wrap ((g:Int) - 1)=(h:Int):=by rw [IntKind.wrap_u64]; omega
       have HH:=Zh hh;have HG0:=Zh hg0;have hel:=HE.out.len;have hed:=HE.out.dg;have HEL:=Zh (Zi hel hed);clear hh hg0 hel hed;go_wp2;go_loopw [16,106] (fun c i wr=>∃ (j mm:Nat) (Y:List Nat),j<=k/\i = .int .i64 j/\c = .int .u32 mm/\mm<=1/\AddAt X Y V k j mm/\Keeps [bu] w wr/\Below bu w wr/\OwnD wr bu (P++Y++S)) (fun _ i _=>k - (intOf i).toNat)
       case atStart=>exact ⟨0,0,X,aO,rfl,rfl,aO,AddAt.start HEL.out.1 HEL.out.2,hkp,hbl,oo⟩
       case round =>
        clear hkp hbl oo;obtain ⟨j,mm,Y,hj,rfl,rfl,hmm,hA,hkp,hbl,oo⟩:=hrel;have HA:=Zh hA;clear hA;have oov:=HVO.out.keeps hkp (by simp; exact hne);have oof:=Own.thaw oo;obtain ⟨x,hx⟩:=Zx (dAt Y j);have cx:=oo.cell (mid_len (S:=S) HP.out.1 (by rw [HA.out.len]; omega)) ((mid_at HP.out.1 (by rw [HA.out.len]; omega)).trans hx);have hx1:x<4294967296:=by rw [<- hx]; exact HA.out.dg.at_ j
        have HMS:=fun r=>Zh (mid_set (S:=S) (r:=r) HP.out.1 (show j<Y.length by rw [HA.out.len]; omega))
        obtain ⟨d,hd⟩:=Zx (dAt V j);have hd1:d<4294967296:=by rw [<- hd]; exact HG.out.2.at_ j
        have hadd:=fun W=>bits_Add32 x d mm hx1 hd1 hmm W
        obtain ⟨r,hr⟩:=Zx ((x+d+mm)%4294967296);obtain ⟨s,hs⟩:=Zx ((x+d+mm) / 4294967296);have hr1:r<4294967296:=aO
        have hs1:s<=1:=aO
        rw [hr,hs] at hadd;have HADD:=Zh hadd;have HNA:=Zh (HA.out.step hj hd hx hr1 (m':=s) aO)
        by_cases hlj:j<k
        ·have hlji:(j:Int)<(k:Int):=aO
         have hljN:(j:Int)<(N:Int):=aO
         have cd:=oov.cell (by rw [HP.out.2.2]; exact hlj) hd;clear hx hd hr hs hadd HA;go_wp2_with fail;refine Zd (HADD.out _) ?_;rintro e w5 ⟨rfl,rfl⟩;go_wp2;go_roundw
         case rel=>exact ⟨j+1,s,Y.set j r,aO,by go_num,rfl,hs1,HNA.out,hkp.set aS _,hbl.setCell (Zr _) _,oo.set (HMS r).out⟩
         case measure=>simp [intOf]; omega
        ·obtain rfl:j=k:=aO
         obtain rfl:0=d:=by rw [<- hd,dAt_out (by rw [HP.out.2.2]; exact Zr _)]
         have HNE:=Zh (HE.out.back HVP.out HNA.out HP.out.2.2 hs1);rw [HH.out] at HNE;clear hx hd hr hs hadd HA;go_wp2_with fail;refine Zd (HADD.out _) ?_;rintro e w5 ⟨rfl,rfl⟩;have hs2:s=0\/s=1:=aO
         rcases hs2 with rfl | rfl
         ·go_wp2;go_roundw
          case rel=>exact ⟨h,1,true,Y.set j r,rfl,rfl,.inl ⟨rfl,rfl⟩,HNE.out,hkp.set aS _,hbl.setCell (Zr _) _,oo.set (HMS r).out⟩
          case measure=>have:=HH.out; have:=HG0.out; simp [intOf]; omega
         ·go_wp2;go_roundw
          case rel=>exact ⟨h,0,false,Y.set j r,rfl,rfl,.inr ⟨rfl,rfl⟩,HNE.out,hkp.set aS _,hbl.setCell (Zr _) _,oo.set (HMS r).out⟩
          case measure=>have:=HH.out; have:=HG0.out; simp [intOf]; omega
      ·obtain ⟨d1,d2⟩:=HE.out.done HVP.out;have HD1:=Zh (Zi d1 d2);clear d1 d2;go_wp2;go_ret;exact ⟨⟨X,g,rfl,oo,by rw [<- HN.out]; exact HE.out.len,HE.out.dg,HD1.out.1,HD1.out.2⟩,hkp,hbl⟩
end Go.Proofs.YtflgngjocgiojaaGreat
