import Derived.Test.YtflgngjocgiojaaGreatNumM
import Derived.OwnWalkIn
import Derived.TacticsInMore
import Derived.LoopNIn
import Derived.LoopIn
import Derived.Shelf.Small.Bits
set_option linter.all false
namespace Go.Proofs.YtflgngjocgiojaaGreat
def Dg (D:List Nat):Prop:=∀ d∈D,d<4294967296
def vD (D:List Nat):Nat:=valD 4294967296 D
def dAt (D:List Nat) (i:Nat):Nat:=D.getD i 0
theorem vD_nil:vD []=0:=rfl
theorem vD_cons (d:Nat) (D:List Nat):vD (d::D)=d+4294967296*vD D:=rfl
theorem vD_append (l m:List Nat):vD (l++m)=vD l+4294967296^l.length*vD m:=valD_append _ l m
theorem vD_lt {D:List Nat} (h:Dg D):vD D<4294967296^D.length:=valD_lt aO D h
theorem vD_take {D:List Nat} {k:Nat} (h:k<D.length):vD (D.take (k+1))=vD (D.take k)+4294967296^k*dAt D k:=by
 unfold vD dAt;rw [valD_take _ h,Ze,List.getElem?_eq_getElem h]; rfl
theorem Dg.nil:Dg []:=fun _ h=>by cases h
theorem Dg.at_ {D:List Nat} (h:Dg D) (i:Nat):dAt D i<4294967296:=by
 unfold dAt;rw [Ze];cases e:D[i]? with
 | none=>simp
 | some d=>exact h d (List.mem_of_getElem? e)
theorem Dg.take {D:List Nat} (h:Dg D) (k:Nat):Dg (D.take k):=fun d hd=>h d (List.mem_of_mem_take hd)
theorem Dg.append {D E:List Nat} (h:Dg D) (k:Dg E):Dg (D++E):=fun d hd=>by
 rcases List.mem_append.1 hd with h1 | h1
 ·exact h d h1
 ·exact k d h1
theorem Dg.one {d:Nat} (h:d<4294967296):Dg [d]:=fun x hx=>by rw [List.mem_singleton] at hx; rw [hx]; exact h
theorem dAt_out {D:List Nat} {i:Nat} (h:D.length<=i):dAt D i=0:=by
 unfold dAt; rw [Ze,List.getElem?_eq_none h]; rfl
theorem dAt_in {D:List Nat} {i:Nat} (h:i<D.length):D[i]=dAt D i:=by
 unfold dAt; rw [Ze,List.getElem?_eq_getElem h]; rfl
def Canon (D:List Nat):Prop:=∀ h:D≠[],D.getLast h≠0
def trimN (D:List Nat):Nat->Nat
 | 0=>0
 | n+1=>if dAt D n=0 then trimN D n else n+1
def trimL (D:List Nat):List Nat:=D.take (trimN D D.length)
theorem trimN_zero (D:List Nat):trimN D 0=0:=rfl
theorem trimN_yes {D:List Nat} {n:Nat} (h:dAt D n=0):trimN D (n+1)=trimN D n:=if_pos h
theorem trimN_no {D:List Nat} {n:Nat} (h:dAt D n≠0):trimN D (n+1)=n+1:=if_neg h
theorem trimN_le (D:List Nat):∀ n,trimN D n<=n
 | 0=>Zr _
 | n+1=>by
  unfold trimN;split
  ·exact Nat.le_succ_of_le (trimN_le D n)
  ·exact Zr _
theorem trimN_val (D:List Nat):∀ n,n<=D.length->vD (D.take (trimN D n))=vD (D.take n)
 | 0,_=>rfl
 | n+1,h=>by
  unfold trimN;split
  ·rename_i e
   rw [trimN_val D n aO,vD_take h,e,Nat.mul_zero,Nat.add_zero]
  ·rfl
theorem trimN_last (D:List Nat):∀ n,trimN D n≠0->dAt D (trimN D n - 1)≠0
 | 0,h=>absurd rfl h
 | n+1,h=>by
  unfold trimN at h ⊢;split
  ·rename_i e
   rw [if_pos e] at h;exact trimN_last D n h
  ·rename_i e; exact e
theorem trimL_val (D:List Nat):vD (trimL D)=vD D:=by unfold trimL; rw [trimN_val D _ (Zr _),List.take_length]
theorem trimL_canon (D:List Nat):Canon (trimL D):=fun h=>by
 have hl:=trimN_le D D.length;have h0:trimN D D.length≠0:=fun e=>h (by unfold trimL; rw [e]; rfl)
 have hlen:(trimL D).length=trimN D D.length:=by unfold trimL; rw [List.length_take]; omega
 rw [List.getLast_eq_getElem,dAt_in];have e:dAt (trimL D) ((trimL D).length - 1)=dAt D (trimN D D.length - 1):=by
  rw [hlen];unfold trimL dAt;rw [Ze,Ze,List.getElem?_take,if_pos aO]
 rw [e];exact trimN_last D _ h0
theorem trimL_dg {D:List Nat} (h:Dg D):Dg (trimL D):=h.take _
theorem Canon.tail {d:Nat} {D:List Nat} (h:Canon (d::D)):Canon D:=fun hD=>by
 have:=h aS;rw [List.getLast_cons hD] at this;exact this
theorem canon_eq:∀ {D E:List Nat},Dg D->Dg E->Canon D->Canon E->vD D=vD E->D=E
 | [],[],_,_,_,_,_=>rfl
 | [],e::E,_,_,_,hE,h=>by
  exfalso;have q:=valD_ge (B:=4294967296) aO (e::E) aS hE;have p:=Nat.pow_pos (n:=(e::E).length - 1) (show 0<4294967296 by omega);have h':0=valD 4294967296 (e::E):=h;omega
 | d::D,[],_,_,hD,_,h=>by
  exfalso;have q:=valD_ge (B:=4294967296) aO (d::D) aS hD;have p:=Nat.pow_pos (n:=(d::D).length - 1) (show 0<4294967296 by omega);have h':valD 4294967296 (d::D)=0:=h;omega
 | d::D,e::E,gD,gE,hD,hE,h=>by
  rw [vD_cons,vD_cons] at h;have d1:=gD d List.mem_cons_self;have e1:=gE e List.mem_cons_self;have h1:d=e:=aO
  have h2:vD D=vD E:=aO
  rw [h1,canon_eq (fun x hx=>gD x (List.mem_cons_of_mem _ hx)) (fun x hx=>gE x (List.mem_cons_of_mem _ hx)) hD.tail hE.tail h2]
def digsF:Nat->Nat->List Nat
 | 0,_=>[]
 | f+1,n=>if n=0 then [] else (n%4294967296)::digsF f (n / 4294967296)
def digs (n:Nat):List Nat:=digsF n n
theorem digsF_spec:∀ f n,n<=f->vD (digsF f n)=n/\Dg (digsF f n)/\Canon (digsF f n)
 | 0,n,h=>by
  obtain rfl:n=0:=aO
  exact ⟨rfl,Dg.nil,fun h=>absurd rfl h⟩
 | f+1,n,h=>by
  unfold digsF;split
  ·rename_i e; exact ⟨e.symm,Dg.nil,fun h=>absurd rfl h⟩
  ·rename_i e
   obtain ⟨h1,h2,h3⟩:=digsF_spec f (n / 4294967296) aO;refine ⟨by rw [vD_cons,h1]; omega,fun d hd=>?_,fun hne=>?_⟩
   ·cases hd with
    | head=>omega
    | tail _ hd=>exact h2 d hd
   ·by_cases e2:digsF f (n / 4294967296)=[]
    ·simp only [e2,List.getLast_singleton];rw [e2] at h1;have:n / 4294967296=0:=h1.symm;omega
    ·rw [List.getLast_cons e2];exact h3 e2
theorem digs_val (n:Nat):vD (digs n)=n:=(digsF_spec n n (Zr _)).1
theorem digs_dg (n:Nat):Dg (digs n):=(digsF_spec n n (Zr _)).2.1
theorem digs_canon (n:Nat):Canon (digs n):=(digsF_spec n n (Zr _)).2.2
theorem canon_digs {D:List Nat} (h:Dg D) (k:Canon D):D=digs (vD D):=canon_eq h (digs_dg _) k (digs_canon _) (digs_val _).symm
theorem trim_digs {D:List Nat} (h:Dg D):trimL D=digs (vD D):=by
 have:=canon_digs (trimL_dg h) (trimL_canon D);rw [trimL_val] at this;exact this
theorem digs_zero:digs 0=[]:=rfl
theorem digs_nil {n:Nat}:digs n=[]↔n=0:=⟨fun h=>by have:=digs_val n; rw [h] at this; exact this.symm,fun h=>by rw [h]; rfl⟩
theorem digs_len {n k:Nat}:(digs n).length<=k↔n<4294967296^k:=by
 constructor
 ·intro h;have q:=vD_lt (digs_dg n);rw [digs_val] at q;exact Zl q (Nat.pow_le_pow_right aO h)
 ·intro h;rcases Nat.lt_or_ge k (digs n).length with h1 | h1
  ·exfalso;have hne:digs n≠[]:=fun e=>by rw [e] at h1; simp at h1
   have q:=valD_ge (B:=4294967296) aO (digs n) hne (digs_canon n);have e:valD 4294967296 (digs n)=n:=digs_val n;rw [e] at q;have p:=Nat.pow_le_pow_right (n:=4294967296) aO (show k<=(digs n).length - 1 by omega);omega
  ·exact h1
theorem digs_lt {m n:Nat} (h:(digs m).length<(digs n).length):m<n:=by
 have h1:=(digs_len (n:=m) (k:=(digs m).length)).1 (Zr _);rcases Nat.lt_or_ge m n with h2 | h2
 ·exact h2
 ·exfalso;have:=(digs_len (n:=n) (k:=(digs m).length)).2 (Nat.lt_of_le_of_lt h2 h1);omega
end Go.Proofs.YtflgngjocgiojaaGreat
namespace Go.Proofs.YtflgngjocgiojaaGreat
open Go.RowKit
set_option maxHeartbeats 8000000
set_option maxRecDepth 100000
structure DigsAt (w:World) (A:Option Addr) (n:Nat) (D:List Nat):Prop where
 len:D.length=n
 dg:Dg D
 row:0<n->∃ b off,A=some ⟨b,off,none⟩/\b<w.heap.size/\∀ i,i<n->w.cell? ⟨b,off+i,none⟩=some (.int .u32 (dAt D i:Nat))
theorem DigsAt.same {w w':World} {A:Option Addr} {n:Nat} {D:List Nat} (h:DigsAt w A n D) (hs:w.heap.size<=w'.heap.size) (e:∀ a,A=some a->w'.heap[a.block]?=w.heap[a.block]?):DigsAt w' A n D:=
 ⟨h.len,h.dg,fun h1=>by
  obtain ⟨b,off,rfl,hb,hc⟩:=h.row h1;exact ⟨b,off,rfl,aO,fun i hi=>(Zc (w:=w) (w':=w') (a:=⟨b,off+i,none⟩) (e ⟨b,off,none⟩ rfl)).trans (hc i hi)⟩⟩
theorem DigsAt.below {w w':World} {A:Option Addr} {n:Nat} {D:List Nat} (h:DigsAt w A n D) (hb:Below w.heap.size w w'):DigsAt w' A n D:=
 ⟨h.len,h.dg,fun h1=>by
  obtain ⟨b,off,rfl,hlt,hc⟩:=h.row h1;exact ⟨b,off,rfl,Zl hlt hb.size,fun i hi=>(hb.cell (p:=⟨b,_,none⟩) hlt).trans (hc i hi)⟩⟩
theorem DigsAt.later {w v:World} {A:Option Addr} {n:Nat} {D:List Nat} (h:DigsAt w A n D) (x:Later [] w v):DigsAt x.u A n D:=
 ⟨h.len,h.dg,fun h1=>by
  obtain ⟨b,off,rfl,hlt,hc⟩:=h.row h1;exact ⟨b,off,rfl,Zl hlt x.h.1,fun i hi=>(Zc (w:=w) (a:=⟨b,_,none⟩) (x.h.2 b hlt aS)).trans (hc i hi)⟩⟩
theorem DigsAt.cells {w:World} {A:Option Addr} {n:Nat} {D:List Nat} (h:DigsAt w A n D) {k d:Nat} (hk:k<n) (hd:dAt D k=d) :
 ∃ b off,A=some ⟨b,off,none⟩/\b<w.heap.size/\w.cell? ⟨b,off+k,none⟩=some (.int .u32 (d:Nat)):=by
 obtain ⟨b,off,e,hb,hc⟩:=h.row aO;exact ⟨b,off,e,hb,by rw [<- hd]; exact hc k hk⟩
theorem DigsAt.take {w:World} {A:Option Addr} {n:Nat} {D:List Nat} (h:DigsAt w A n D) {m:Nat} (hm:m<=n):DigsAt w A m (D.take m):=
 ⟨by rw [List.length_take,h.len]; omega,h.dg.take _,fun h1=>by
  obtain ⟨b,off,e,hb,hc⟩:=h.row aO;refine ⟨b,off,e,hb,fun i hi=>?_⟩;have e2:dAt (D.take m) i=dAt D i:=by
   unfold dAt; rw [Ze,Ze,List.getElem?_take,if_pos hi]
  rw [e2]; exact hc i aO⟩
theorem DigsAt.nil (w:World) (A:Option Addr):DigsAt w A 0 []:=⟨rfl,Dg.nil,fun h=>aO⟩
def lenOf:Value->Nat
 | .slice _ n _=>n
 | _=>0
theorem mag_trim {w:World} {A:Option Addr} {n:Nat} {D:List Nat} (c:Nat) (hv:DigsAt w A n D) (hnc:n<=c) (hc:c<=9223372036854775807) :
 Calls Tryz.prog 103 #[.slice A n c] w fun e w'=>e = .returned (.slice A (trimN D n) c)/\Below w.heap.size w w':=by
 have HV:=Zh hv;clear hv;go_enter Tryz.func103,Tryz.ntmps103;go_wp2;have hw:=Zb w.heap.size w;go_loopw [0] (fun s wr=>∃ k:Nat,k<=n/\s = .slice A k c/\trimN D k=trimN D n/\Below w.heap.size w wr) (fun s _=>lenOf s)
 case atStart=>exact ⟨n,Zr _,rfl,rfl,hw⟩
 case round =>
  clear hw;obtain ⟨k,hk,rfl,ht,hw⟩:=hrel;have HT:=Zh ht;clear ht;have hkm:(k:Int)<=9223372036854775807:=aO
  by_cases hk0:k=0
  ·subst hk0;go_wp2;go_ret;exact ⟨by rw [<- HT.out,trimN_zero]; rfl,hw⟩
  ·obtain ⟨j,hj⟩:∃ j,j+1=k:=⟨k - 1,aO⟩;have HJ:=Zh hj;have hj1:(0:Int)<(k:Int):=aO
   have hj2:(k:Int) - 1=(j:Int):=aO
   have hj3:(j:Int)<(k:Int):=aO
   have hjc:(j:Int)<=(c:Int):=aO
   obtain ⟨d,hd⟩:=Zx (dAt D j);obtain ⟨b,off,hA,hb,a1⟩:=(HV.out.below hw).cells (show j<n by omega) hd;subst hA
   by_cases h0:d=0
   ·subst h0;have HT2:=Zh (show trimN D j=trimN D n by rw [<- HT.out,<- hj,trimN_yes hd]);clear hd HT hj hk0;go_wp2;go_roundw
    case rel=>exact ⟨j,by have:=HJ.out; omega,rfl,HT2.out,hw⟩
    case measure=>have:=HJ.out; simp [lenOf]; omega
   ·have hdi:¬ (d:Int)=0:=aO
    have HT2:=Zh (show k=trimN D n by rw [<- HT.out,<- hj,trimN_no (by rw [hd]; exact h0)]);clear hd HT h0 hj hk0;go_wp2;go_ret;exact ⟨by rw [<- HT2.out]; rfl,hw⟩
theorem or_shift (a b i m:Nat) (hm:m=2^i) (h:b<m):(a*m) ||| b=a*m+b:=by
 subst hm;rw [<- Nat.shiftLeft_eq,Nat.shiftLeft_add_eq_or_of_lt h]
theorem or64 {x y:Nat} (hx:x<4294967296) (hy:y<4294967296):bits .or .u64 ((x:Int)*4294967296) (y:Int)=((x*4294967296+y:Nat):Int):=by
 have e:(x:Int)*4294967296=((x*4294967296:Nat):Int):=aO
 rw [e,u64_or_nat _ _ aO aO,or_shift x y 32 4294967296 (by decide) hy]
theorem bits_Add32 (x y c:Nat) (hx:x<4294967296) (hy:y<4294967296) (hc:c<=1) (w:World) :
 Calls Tryz.prog 133 #[.int .u32 x,.int .u32 y,.int .u32 c] w fun e w'=>e = .returned (.tuple #[.int .u32 (((x+y+c)%4294967296:Nat):Int),.int .u32 (((x+y+c) / 4294967296:Nat):Int)])/\w=w':=by
 go_enter Tryz.func133,Tryz.ntmps133;go_wp2;go_ret2;refine ⟨?_,rfl⟩;congr 3 <;> omega
theorem nat_bit31 {z:Nat} (h:z<4294967296):z / 2147483648=(z.testBit 31).toNat:=by
 rw [Nat.testBit_eq_decide_div_mod_eq];have e:(2:Nat)^31=2147483648:=by decide
 rw [e]
 by_cases k:z / 2147483648%2=1
 ·rw [decide_eq_true k]; simp; omega
 ·rw [decide_eq_false k]; simp; omega
theorem sub_borrow {x y c d:Nat} (hx:x<4294967296) (hy:y<4294967296) (hc:c<=1) (hd:d<4294967296) (e:(d:Int)=((x:Int) - y - c)%4294967296) :
 bits .or .u32 (bits .and .u32 (bits .xor .u32 IntKind.u32.max x) y) (bits .and .u32 (bits .xor .u32 IntKind.u32.max (bits .xor .u32 x y)) d) / 2147483648=if x<y+c then 1 else 0:=by
 have em:IntKind.u32.max=((4294967295:Nat):Int):=rfl;have lx:∀ a b:Nat,a<4294967296->b<4294967296->a ^^^ b<4294967296:=fun a b ha hb=>Nat.xor_lt_two_pow (n:=32) ha hb
 have la:∀ a b:Nat,b<4294967296->a &&& b<4294967296:=fun a b hb=>Nat.and_lt_two_pow (n:=32) a hb
 have lo:∀ a b:Nat,a<4294967296->b<4294967296->a ||| b<4294967296:=fun a b ha hb=>Nat.or_lt_two_pow (n:=32) ha hb
 have hm:4294967295<4294967296:=aO
 rw [em,u32_xor_nat _ _ hm hx,u32_xor_nat _ _ hx hy,u32_xor_nat _ _ hm (lx _ _ hx hy),u32_and_nat _ _ (lx _ _ hm hx) hy,u32_and_nat _ _ (lx _ _ hm (lx _ _ hx hy)) hd,u32_or_nat _ _ (la _ _ hy) (la _ _ hd)];have key:=nat_bit31 (lo _ _ (la (4294967295 ^^^ x) y hy) (la (4294967295 ^^^ (x ^^^ y)) d hd));rw [Nat.testBit_or,Nat.testBit_and,Nat.testBit_and,Nat.testBit_xor,Nat.testBit_xor,Nat.testBit_xor] at key;have e1:Nat.testBit 4294967295 31=true:=by decide
 rw [e1] at key;have bx:=nat_bit31 hx;have by_:=nat_bit31 hy;have bd:=nat_bit31 hd;have goal:∀ z:Nat,(z:Int) / 2147483648=((z / 2147483648:Nat):Int):=fun z=>aO
 rw [goal,key];generalize x.testBit 31=p at *;generalize y.testBit 31=q at *;generalize d.testBit 31=r at *;clear key lx la lo goal;cases p <;> cases q <;> cases r <;> simp at bx by_ bd ⊢ <;> first | omega | (split <;> first | rfl | (exfalso; omega) | omega)
theorem bits_Sub32 (x y c s:Nat) (hx:x<4294967296) (hy:y<4294967296) (hc:c<=1) (hs:(s:Int)=if x<y+c then 1 else 0) (w:World) :
 Calls Tryz.prog 145 #[.int .u32 x,.int .u32 y,.int .u32 c] w fun e w'=>e = .returned (.tuple #[.int .u32 (((4294967296+x - y - c)%4294967296:Nat):Int),.int .u32 s])/\w=w':=by
 obtain ⟨d,hd⟩:∃ d:Nat,(d:Int)=((x:Int) - y - c)%4294967296:=⟨(((x:Int) - y - c)%4294967296).toNat,aO⟩;have hb:=sub_borrow hx hy hc aO hd;rw [<- hs,hd] at hb;have HS:=Zh hb;have hsg:IntKind.u32.signed=false:=rfl;clear hs hb hd d;go_enter Tryz.func145,Tryz.ntmps145;go_wp2;go_ret2;refine ⟨?_,rfl⟩;have e2:((x:Int) - y - c)%4294967296=((4294967296+x - y - c)%4294967296:Nat):=aO
 have e3:(((x:Int) - y)%4294967296 - c)%4294967296=((4294967296+x - y - c)%4294967296:Nat):=aO
 rw [<- HS.out]
 first | rw [e3,e2] | rw [e2]
 rfl
theorem bits_Div32 (x y v:Nat) (hx:x<v) (hy:y<4294967296) (hv:v<4294967296) (w:World) :
 Calls Tryz.prog 130 #[.int .u32 x,.int .u32 y,.int .u32 v] w fun e w'=>e = .returned (.tuple #[.int .u32 (((x*4294967296+y) / v:Nat):Int),.int .u32 (((x*4294967296+y)%v:Nat):Int)])/\Below w.heap.size w w':=by
 have hor:=or64 (x:=x) (y:=y) aO hy;obtain ⟨N,hN⟩:=Zx (x*4294967296+y);rw [hN] at hor ⊢;have hNv:N<v*4294967296:=aO
 have HN:=Zh (show (0:Int)<=(N:Int)/\(N:Int)<18446744073709551616 by omega);have hq:N / v<4294967296:=(Nat.div_lt_iff_lt_mul aO).2 aO;have hr:N%v<v:=Nat.mod_lt _ aO;have hf:(N:Int).tdiv (v:Int)=((N / v:Nat):Int)/\(N:Int).tmod (v:Int)=((N%v:Nat):Int):=⟨by rw [Int.tdiv_eq_ediv_of_nonneg aO]; exact (Int.natCast_ediv N v).symm,by rw [Int.tmod_eq_emod_of_nonneg aO]; exact (Int.natCast_emod N v).symm⟩;clear hNv hN;generalize N / v=Q at *;generalize N%v=R at *;have HF:=Zh hf;have HQ:=Zh (show (0:Int)<=(Q:Int)/\(Q:Int)<4294967296 by omega);have HR:=Zh (show (0:Int)<=(R:Int)/\(R:Int)<4294967296 by omega);clear hf hq hr;go_enter Tryz.func130,Tryz.ntmps130;go_wp2;obtain ⟨q1,q2⟩:=HF.out;obtain ⟨q3,q4⟩:=HQ.out;obtain ⟨q5,q6⟩:=HR.out;obtain ⟨q7,q8⟩:=HN.out;refine region_late 12 [] aK aK (by rfl) ?_;apply Zs;refine ⟨fun v hv hne=>?_,fun u hu=>?_⟩
 ·simp only [TK];exact qz
 ·simp only [TK];refine late_nil ?_
  (try simp only [LN])
  go_wp2;go_ret2;exact ⟨rfl,hu⟩
theorem bits_Len32 (x:Int) (h0:0<=x) (h1:x<=4294967295) (w:World) :
 Calls Tryz.prog 131 #[.int .u32 x] w fun e w'=>e = .returned (.int .i64 (Lib.bitLen x.toNat))/\w=w':=by
 by_cases ha:65536<=x
 ·by_cases hb:16777216<=x
  ·have i0:0<=x / 65536 / 256:=aO
   have i1:x / 65536 / 256<=255:=aO
   have i3:256<=x / 65536:=aO
   have e:(x / 65536 / 256).toNat=x.toNat / 16777216:=aO
   have l:=Lib.bitLen_le8' (x / 65536 / 256) i0 i1;have s:=Lib.bitLen_shift24 x.toNat aO aO;have v:=Lib.len8_of (x / 65536 / 256) i0 i1;rw [<- e] at s;rw [s];generalize Lib.bitLen (x / 65536 / 256).toNat=t at *;clear s e;go_enter Tryz.func131,Tryz.ntmps131;go_wp2;go_ret;exact ⟨by first | rfl | (congr 2; omega),rfl⟩
  ·skip;have i3:¬ 256<=x / 65536:=aO
   have i0:0<=x / 65536:=aO
   have i1:x / 65536<=255:=aO
   have e:(x / 65536).toNat=x.toNat / 65536:=aO
   have l:=Lib.bitLen_le8' (x / 65536) i0 i1;have v:=Lib.len8_of (x / 65536) i0 i1;have s:=Lib.bitLen_shift16 x.toNat aO aO;rw [<- e] at s;rw [s];clear s;generalize Lib.bitLen (x / 65536).toNat=t at *;clear e;go_enter Tryz.func131,Tryz.ntmps131;go_wp2;go_ret;exact ⟨by first | rfl | (congr 2; omega),rfl⟩
 ·by_cases hb:256<=x
  ·skip;have i0:0<=x / 256:=aO
   have i1:x / 256<=255:=aO
   have e:(x / 256).toNat=x.toNat / 256:=aO
   have l:=Lib.bitLen_le8' (x / 256) i0 i1;have v:=Lib.len8_of (x / 256) i0 i1;have s:=Lib.bitLen_shift8 x.toNat aO aO;rw [<- e] at s;rw [s];clear s;generalize Lib.bitLen (x / 256).toNat=t at *;clear e;go_enter Tryz.func131,Tryz.ntmps131;go_wp2;go_ret;exact ⟨by first | rfl | (congr 2; omega),rfl⟩
  ·skip;have i0:0<=x:=aO
   have i1:x<=255:=aO
   have l:=Lib.bitLen_le8' (x) i0 i1;have v:=Lib.len8_of (x) i0 i1;generalize Lib.bitLen (x).toNat=t at *;go_enter Tryz.func131,Tryz.ntmps131;go_wp2;go_ret;exact ⟨by first | rfl | (congr 2; omega),rfl⟩
theorem bitLen_two:∀ (n x:Nat),x<=n->0<x->x<2^64->0<Lib.bitLen x/\x<2^Lib.bitLen x/\2^(Lib.bitLen x - 1)<=x
 | 0,x,h,h0,_=>aO
 | n+1,x,h,h0,hx=>by
  by_cases e:x=1
  ·subst e; decide
  ·have e2:0<x / 2:=aO
   obtain ⟨a,b,c⟩:=bitLen_two n (x / 2) aO e2 aO;rw [Lib.bitLen_half x aO hx];have p1:2^(1+Lib.bitLen (x / 2))=2*2^Lib.bitLen (x / 2):=by rw [Nat.pow_add]
   have p2:2^(1+Lib.bitLen (x / 2) - 1)=2*2^(Lib.bitLen (x / 2) - 1):=by rw [<- Nat.pow_add_one']; congr 1; omega
   rw [p1,p2];omega
theorem bitLen_spec {x:Nat} (hx:x<4294967296) (h0:0<x):Lib.bitLen x<=32/\0<Lib.bitLen x/\x*2^(32 - Lib.bitLen x)<4294967296/\2147483648<=x*2^(32 - Lib.bitLen x):=by
 have hl:=Lib.bitLen_le x 32 aO aO;obtain ⟨a,b,c⟩:=bitLen_two x x (Zr _) h0 aO;generalize Lib.bitLen x=L at *;refine ⟨hl,a,?_,?_⟩
 ·have p:2^L*2^(32 - L)=4294967296:=by rw [<- Nat.pow_add,show L+(32 - L)=32 by omega]
  rw [<- p];exact Nat.mul_lt_mul_of_pos_right b (Nat.two_pow_pos _)
 ·have p:2^(L - 1)*2^(32 - L)=2147483648:=by rw [<- Nat.pow_add,show L - 1+(32 - L)=31 by omega]
  rw [<- p];exact Nat.mul_le_mul_right _ c
theorem bits_LeadingZeros32 (x:Nat) (hx:x<4294967296) (h0:0<x) (w:World) :
 Calls Tryz.prog 107 #[.int .u32 x] w fun e w'=>∃ k:Nat,e = .returned (.int .i64 k)/\k<32/\x*2^k<4294967296/\2147483648<=x*2^k/\w=w':=by
 obtain ⟨b1,b2,b3,b4⟩:=bitLen_spec hx h0;have hl:=fun w=>bits_Len32 (x:Int) aO aO w
 have e:((x:Int)).toNat=x:=aO
 rw [e] at hl;generalize Lib.bitLen x=t at *;have HL:=Zh hl;have HF:=Zh (Zi b3 b4);clear hl b3 b4 e;go_enter Tryz.func107,Tryz.ntmps107;go_wp2_with fail;refine Zd (HL.out _) ?_;rintro e w1 ⟨rfl,rfl⟩;go_wp2;go_ret;refine ⟨32 - t,?_,aO,HF.out.1,HF.out.2,rfl⟩;have e:((32 - t:Nat):Int)=32 - (t:Int):=aO
 rw [e];rfl
def encU (L:List Nat):Array Value:=(L.map fun d=>Value.int .u32 ((d:Nat):Int)).toArray
theorem encU_at {L:List Nat} {i:Nat} (h:i<L.length):(encU L)[i]?=some (.int .u32 (dAt L i:Nat)):=by
 unfold encU;rw [List.getElem?_toArray,List.getElem?_map,List.getElem?_eq_getElem h,dAt_in h]; rfl
theorem encU_set (L:List Nat) (i d:Nat):(encU L).setIfInBounds i (.int .u32 (d:Nat))=encU (L.set i d):=by
 unfold encU;rw [List.setIfInBounds_toArray,List.map_set]
def OwnD (w:World) (b:Nat) (L:List Nat):Prop:=Own w b (encU L)
theorem OwnD.cell {w:World} {b:Nat} {L:List Nat} (h:OwnD w b L) {i d:Nat} (hi:i<L.length) (hd:dAt L i=d):w.cell? ⟨b,i,none⟩=some (.int .u32 (d:Nat)):=by
 rw [Own.cell h i,encU_at hi,hd]
theorem OwnD.set {w:World} {b:Nat} {L L':List Nat} (h:OwnD w b L) {i d:Nat} (e:L.set i d=L'):OwnD (w.setCell ⟨b,i,none⟩ (.int .u32 (d:Nat))) b L':=by
 unfold OwnD;rw [<- e,<- encU_set];exact Own.set h i _
theorem OwnD.below {w w':World} {b:Nat} {L:List Nat} (h:OwnD w b L) (hb:Below w.heap.size w w'):OwnD w' b L:=Own.below h hb
theorem OwnD.digs {w:World} {b:Nat} {L:List Nat} (h:OwnD w b L) (hd:Dg L):DigsAt w (some ⟨b,0,none⟩) L.length L:=
 ⟨rfl,hd,fun _=>⟨b,0,rfl,Own.lt h,fun i hi=>by rw [Nat.zero_add]; exact h.cell hi rfl⟩⟩
theorem infoU:(Tryz.prog.info? 97).map (fun i=>(i.zero,i.size,i.bytes))=some (some (.int .u32 0),1,4):=aK
theorem infoU_parts:∃ i,Tryz.prog.info? 97=some i/\i.zero=some (.int .u32 0)/\i.size=1/\i.bytes=4:=by
 have h:=infoU;cases e:Tryz.prog.info? 97 with
 | none=>rw [e] at h; cases h
 | some i =>
  rw [e] at h;simp only [Option.map_some,Option.some.injEq,Prod.mk.injEq] at h;exact ⟨i,rfl,h.1,h.2.1,h.2.2⟩
theorem made_encU (n:Nat):madeCells (Value.int .u32 0).cells (n*1)=encU (List.replicate n 0):=by
 unfold madeCells encU;apply Array.ext
 ·simp
 ·intro i h1 h2;simp [Value.cells,Nat.mod_one]
theorem make_mag (n:Nat) (h:n<=100000) (w:World):(Instr.makeSlice 99 (.int .i64 (n:Nat)) (.int .i64 (n:Nat))).run Tryz.prog w = .ok (.slice (some ⟨w.heap.size,0,none⟩) n n) (w.alloc (.cells (encU (List.replicate n 0)) 97)):=by
 obtain ⟨i,hi,hz,hs,hb⟩:=infoU_parts;have q:=run_make (P:=Tryz.prog) w 99 97 i (.int .u32 0) aK hi hz .i64 .i64 n n aO (Int.le_refl _) (by rw [hb]; omega) aO;rw [hs] at q;simp only [Int.toNat_natCast] at q;rw [made_encU] at q;exact q
theorem OwnD.new {w:World} (L:List Nat) (T:TypeId):OwnD (w.alloc (.cells (encU L) T)) w.heap.size L:=Own.new rfl
theorem set_rep {R:List Nat} {n k:Nat} (hR:R.length=k) (hk:k<n) (r:Nat):(R++List.replicate (n - k) 0).set k r=(R++[r])++List.replicate (n - (k+1)) 0:=by
 rw [List.set_append_right _ _ aO,hR,Nat.sub_self,show n - k=(n - (k+1))+1 by omega,List.replicate_succ,List.set_cons_zero,List.append_assoc];rfl
theorem vD_take' (D:List Nat) (k:Nat):vD (D.take (k+1))=vD (D.take k)+4294967296^k*dAt D k:=by
 rcases Nat.lt_or_ge k D.length with h | h
 ·exact vD_take h
 ·rw [List.take_of_length_le h,List.take_of_length_le aO,dAt_out h,Nat.mul_zero,Nat.add_zero]
theorem vD_snoc (R:List Nat) (r:Nat):vD (R++[r])=vD R+4294967296^R.length*r:=by
 rw [vD_append,vD_cons,vD_nil]; simp
def SlD (w:World) (v:Value) (N:Nat):Prop:=∃ A n c,v = .slice A n c/\n<=c/\c<=9223372036854775807/\DigsAt w A n (digs N)
theorem trim_sl {w:World} {A:Option Addr} {n c:Nat} {D:List Nat} (h:DigsAt w A n D) (hc:n<=c) (hm:c<=9223372036854775807):SlD w (.slice A (trimN D n) c) (vD D):=by
 have hl:=trimN_le D n;refine ⟨A,_,c,rfl,aO,hm,?_⟩;have e:=trim_digs h.dg;unfold trimL at e;rw [h.len] at e;rw [<- e];exact h.take hl
theorem trim_len {n:Nat} {D:List Nat} (h:Dg D) (hl:D.length=n):trimN D n=(digs (vD D)).length:=by
 have e:=trim_digs h;unfold trimL at e;rw [<- e,List.length_take,hl];have:=trimN_le D n;omega
def NewD (w:World) (N:Nat) (e:Ending) (w':World):Prop:=∃ C,e = .returned (.slice (some ⟨w.heap.size,0,none⟩) (digs N).length C)/\(digs N).length<=C/\C<=2001/\DigsAt w' (some ⟨w.heap.size,0,none⟩) (digs N).length (digs N)/\w.heap.size<w'.heap.size
theorem NewD.of {w w':World} {D:List Nat} {n N:Nat} (h:DigsAt w' (some ⟨w.heap.size,0,none⟩) n D) (hn:n<=2001) (hN:vD D=N) (hs:w.heap.size<w'.heap.size):NewD w N (.returned (.slice (some ⟨w.heap.size,0,none⟩) (trimN D n) n)) w':=by
 have hl:=trimN_le D n;have e:=trim_len h.dg h.len;have e2:=trim_digs h.dg;unfold trimL at e2;rw [h.len] at e2;subst hN;have ht:=h.take hl;rw [e2] at ht;rw [e] at ht hl ⊢;exact ⟨n,rfl,hl,hn,ht,hs⟩
theorem SlD.below {w w':World} {v:Value} {N:Nat} (h:SlD w v N) (hb:Below w.heap.size w w'):SlD w' v N:=by
 obtain ⟨A,n,c,rfl,h1,h2,h3⟩:=h;exact ⟨A,n,c,rfl,h1,h2,h3.below hb⟩
theorem mag_minus {w:World} {A1 A2:Option Addr} {n1 n2:Nat} {D1 D2:List Nat} (c1 c2:Nat) (h1:DigsAt w A1 n1 D1) (h2:DigsAt w A2 n2 D2) (hm:n1<=1000) (hn:n2<=n1) (hle:vD D2<=vD D1) :
 Calls Tryz.prog 129 #[.slice A1 n1 c1,.slice A2 n2 c2] w fun e w'=>NewD w (vD D1 - vD D2) e w'/\Below w.heap.size w w':=by
 have hl1:=h1.len;have hl2:=h2.len;have H1:=Zh h1;have H2:=Zh h2;have HL:=Zh (Zi hl1 hl2);have HLE:=Zh hle;clear h1 h2 hl1 hl2 hle;have hmk:=fun w=>make_mag n1 aO w
 go_enter Tryz.func129,Tryz.ntmps129;go_wp2;have hw:=(Zb w.heap.size w).alloc (Zr _) (.cells (encU (List.replicate n1 0)) 97);have oo:OwnD (w.alloc (.cells (encU (List.replicate n1 0)) 97)) w.heap.size (List.replicate n1 0):=OwnD.new _ _;generalize (w.alloc (.cells (encU (List.replicate n1 0)) 97))=w1 at *;clear hmk;go_loopw [6,15] (fun c i wr=>∃ (k s:Nat) (R:List Nat),k<=n1/\i = .int .i64 k/\c = .int .u32 s/\s<=1/\R.length=k/\Dg R/\vD R+vD (D2.take k)=vD (D1.take k)+4294967296^k*s/\Below w.heap.size w wr/\OwnD wr w.heap.size (R++List.replicate (n1 - k) 0)) (fun _ i _=>n1 - (intOf i).toNat)
 case atStart=>exact ⟨0,0,[],aO,rfl,rfl,aO,rfl,Dg.nil,by simp [vD_nil],hw,by simpa using oo⟩
 case round =>
  clear hw oo;obtain ⟨k,s,R,hk,rfl,rfl,hs1,hR,hdg,hval,hw,oo⟩:=hrel;have HV:=Zh hval;have HD:=Zh (Zi hR hdg);clear hval hR hdg;have oof:=Own.thaw oo
  by_cases hlt:k<n1
  ·have hlt2:(k:Int)<(n1:Int):=aO
   obtain ⟨d,hd⟩:=Zx (dAt D1 k);obtain ⟨e,he⟩:=Zx (dAt D2 k);obtain ⟨b,off,hA,hb,a1⟩:=(H1.out.below hw).cells hlt hd;subst hA;have hd1:d<4294967296:=by rw [<- hd]; exact H1.out.dg.at_ k
   have he1:e<4294967296:=by rw [<- he]; exact H2.out.dg.at_ k
   obtain ⟨t,ht⟩:∃ t:Nat,(t:Int)=if d<e+s then 1 else 0:=⟨if d<e+s then 1 else 0,by split <;> rfl⟩
   have ht1:t<=1:=by split at ht <;> omega
   have hsub:=fun W=>bits_Sub32 d e s t hd1 he1 hs1 ht W
   obtain ⟨r,hr⟩:=Zx ((4294967296+d - e - s)%4294967296);have hrs:r+e+s=d+4294967296*t:=by split at ht <;> omega
   have hr1:r<4294967296:=aO
   rw [hr] at hsub;have HSUB:=Zh hsub;have HN:=Zh (sub_step (B:=4294967296) (k:=k) rfl HV.out hrs);have HNV:Hid (vD (R++[r])+vD (D2.take (k+1))=vD (D1.take (k+1))+4294967296^(k+1)*t):=Zh (by
    rw [vD_snoc,vD_take',vD_take',hd,he,HD.out.1]; exact HN.out)
   have HNR:Hid ((R++[r]).length=k+1/\Dg (R++[r])):=Zh ⟨by rw [List.length_append,HD.out.1]; rfl,HD.out.2.append (Dg.one hr1)⟩;have HSE:=Zh (set_rep (r:=r) HD.out.1 hlt);have ooL:k<(R++List.replicate (n1 - k) 0).length:=by rw [List.length_append,List.length_replicate,HD.out.1]; omega
   obtain ⟨z,hz⟩:=Zx (dAt (R++List.replicate (n1 - k) 0) k);have oc:=oo.cell ooL hz;clear hr ht hd hsub hrs HN hz ooL HV HD
   by_cases hk2:k<n2
   ·have hk2i:(k:Int)<(n2:Int):=aO
    obtain ⟨b2,off2,hA,hb2,a2⟩:=(H2.out.below hw).cells hk2 he;subst hA;clear he;go_wp2_with fail;refine Zd (HSUB.out _) ?_;rintro e w2 ⟨rfl,rfl⟩;go_wp2;go_roundw
    case rel=>exact ⟨k+1,t,R++[r],aO,by go_num,rfl,ht1,HNR.out.1,HNR.out.2,HNV.out,hw.setCell (Zr _) _,oo.set HSE.out⟩
    case measure=>simp [intOf]; omega
   ·have hk2i:¬ (k:Int)<(n2:Int):=aO
    obtain rfl:0=e:=by rw [<- he,dAt_out (by rw [HL.out.2]; omega)]
    clear he;go_wp2_with fail;refine Zd (HSUB.out _) ?_;rintro e w2 ⟨rfl,rfl⟩;go_wp2;go_roundw
    case rel=>exact ⟨k+1,t,R++[r],aO,by go_num,rfl,ht1,HNR.out.1,HNR.out.2,HNV.out,hw.setCell (Zr _) _,oo.set HSE.out⟩
    case measure=>simp [intOf]; omega
  ·obtain rfl:k=n1:=aO
   obtain ⟨hR,hdg⟩:=HD.out;have hval:=HV.out;rw [List.take_of_length_le (by rw [HL.out.2]; exact hn),List.take_of_length_le (by rw [HL.out.1]; exact Zr _)] at hval;rw [Nat.sub_self,List.replicate_zero,List.append_nil] at oo;have hlt:=vD_lt hdg;rw [hR] at hlt;have hle:=HLE.out;have hs0:s=0:=by
    have:s=0\/s=1:=aO
    rcases this with h | h
    ·exact h
    ·subst h; omega
   subst hs0;have hvR:vD R=vD D1 - vD D2:=aO
   have hdig:=oo.digs hdg;rw [hR] at hdig;have HT:=Zh (mag_trim k hdig (Zr _) aO);have HG:=Zh hdig;have HVR:=Zh hvR;have HLT:=Zh (Own.lt oo);clear hval hlt hle hvR hdig hR hdg HV HD oof;go_wp2_with fail;refine Zd HT.out ?_;rintro e w2 ⟨rfl,hbx⟩;have hwe:=hw.trans (hbx.mono hw.size);go_wp2;go_ret;exact ⟨NewD.of (HG.out.below hbx) aO HVR.out (Zl HLT.out hbx.size),hwe⟩
end Go.Proofs.YtflgngjocgiojaaGreat
