import Derived.Test.YtflgngjocgiojaaGreatRefO9
set_option linter.all false
namespace Go.Proofs.YtflgngjocgiojaaGreat
open Go.RowKit
set_option maxHeartbeats 8000000
set_option maxRecDepth 100000
theorem ref3_OfA {w:World} {v1 v2:Value} {z1 z2:Int} (h1:NumAt w v1 z1) (h2:NumAt w v2 z2) (h0:z2≠0) :
 Calls Tryz.prog 44 #[v1,v2] w fun r w'=>(∃ b1 C1 b2 C2,r = .returned (.tuple #[ratC (ofN z1 z2) (ofD z1 z2) b1 C1 b2 C2,.bool true])/\NumC w' b1 C1 (ofN z1 z2)/\NumC w' b2 C2 (ofD z1 z2)/\w.heap.size<=b1/\b1<w'.heap.size/\w.heap.size<=b2/\b2<w'.heap.size)/\Below w.heap.size w w':=by
 by_cases h:0<z2
 ·exact ref3_OfG h1 h2 h1.easy h2.easy h
 ·exact ref3_OfB h1 h2 h1.easy h2.easy aO
set_option maxRecDepth 100000 in
set_option maxHeartbeats 4000000 in
theorem ref3_Div {w:World} {v1 v2:Value} {p q p' q':Int} (h1:RatAt w v1 p q) (h2:RatAt w v2 p' q') (hne:p'≠0) (e1:goodQ p q=true) (e2:goodQ p' q'=true) (f1:fits (p*q')=true) (f2:fits (q*p')=true) :
 Calls Tryz.prog 143 #[v1,v2] w fun r w'=>(∃ b1 C1 b2 C2,r = .returned (.tuple #[ratC (ofN (p*q') (q*p')) (ofD (p*q') (q*p')) b1 C1 b2 C2,.bool true])/\NumC w' b1 C1 (ofN (p*q') (q*p'))/\NumC w' b2 C2 (ofD (p*q') (q*p'))/\w.heap.size<=b1/\b1<w'.heap.size/\w.heap.size<=b2/\b2<w'.heap.size)/\Below w.heap.size w w':=by
 obtain ⟨s1,A1,n1,c1,s2,A2,n2,c2,rfl,g1,g2⟩:=h1;obtain ⟨s3,A3,n3,c3,s4,A4,n4,c4,rfl,g3,g4⟩:=h2;have H1:RatAt w (.agg #[.bool s1,.slice A1 n1 c1,.bool s2,.slice A2 n2 c2]) p q:=⟨s1,A1,n1,c1,s2,A2,n2,c2,rfl,g1,g2⟩;have H2:RatAt w (.agg #[.bool s3,.slice A3 n3 c3,.bool s4,.slice A4 n4 c4]) p' q':=⟨s3,A3,n3,c3,s4,A4,n4,c4,rfl,g3,g4⟩;have I1:=Zh H1;have I2:=Zh H2;have G1:=Zh g1;have G2:=Zh g2;have G3:=Zh g3;have G4:=Zh g4;have hd0:q*p'≠0:=Int.mul_ne_zero (by have:=good_pos e1; omega) hne;have HE3:=Zh e2;obtain ⟨os,hos⟩:=Zx (ordI p' 0);have hos0:os≠0:=by
  rw [<- hos];unfold ordI;split
  ·omega
  ·rw [if_pos aO];omega
 have HOS:=Zh hos;clear hos hne;obtain ⟨x,hx⟩:=Zx (p*q');obtain ⟨y,hy⟩:=Zx (q*p');rw [hx] at f1 ⊢;rw [hy] at f2 hd0 ⊢;obtain ⟨rz,hrz⟩:=Zx (ofN x y);obtain ⟨ry,hry⟩:=Zx (ofD x y);rw [hrz,hry];have HX:=Zh (Zi hx (Zi hy (Zi f1 (Zi f2 (Zi hd0 (Zi hrz hry))))));have HE1:=Zh (congrArg Value.bool e1);have HE2:=Zh (congrArg Value.bool e2);clear g1 g2 g3 g4 H1 H2 hd0 hx hy f1 f2 hrz hry e1 e2;go_enter Tryz.func143,Tryz.ntmps143;have hW:=((((Zb w.heap.size w).alloc (Zr _) (.cells #[.bool s1,.slice A1 n1 c1,.bool s2,.slice A2 n2 c2] 37)).alloc aS (.cells #[.bool s3,.slice A3 n3 c3,.bool s4,.slice A4 n4 c4] 37)).alloc aT (.cells #[.bool false,.slice none 0 0,.bool false,.slice none 0 0] 37));have o1:Own (((w.alloc (.cells #[.bool s1,.slice A1 n1 c1,.bool s2,.slice A2 n2 c2] 37)).alloc (.cells #[.bool s3,.slice A3 n3 c3,.bool s4,.slice A4 n4 c4] 37)).alloc (.cells #[.bool false,.slice none 0 0,.bool false,.slice none 0 0] 37)) w.heap.size #[.bool s1,.slice A1 n1 c1,.bool s2,.slice A2 n2 c2]:=aOwn;have o2:Own (((w.alloc (.cells #[.bool s1,.slice A1 n1 c1,.bool s2,.slice A2 n2 c2] 37)).alloc (.cells #[.bool s3,.slice A3 n3 c3,.bool s4,.slice A4 n4 c4] 37)).alloc (.cells #[.bool false,.slice none 0 0,.bool false,.slice none 0 0] 37)) (w.heap.size+1) #[.bool s3,.slice A3 n3 c3,.bool s4,.slice A4 n4 c4]:=aOwn;have o3:Own (((w.alloc (.cells #[.bool s1,.slice A1 n1 c1,.bool s2,.slice A2 n2 c2] 37)).alloc (.cells #[.bool s3,.slice A3 n3 c3,.bool s4,.slice A4 n4 c4] 37)).alloc (.cells #[.bool false,.slice none 0 0,.bool false,.slice none 0 0] 37)) (w.heap.size+1+1) #[.bool false,.slice none 0 0,.bool false,.slice none 0 0]:=aOwn;go_wp2_with fail;generalize (((w.alloc (.cells #[.bool s1,.slice A1 n1 c1,.bool s2,.slice A2 n2 c2] 37)).alloc (.cells #[.bool s3,.slice A3 n3 c3,.bool s4,.slice A4 n4 c4] 37)).alloc (.cells #[.bool false,.slice none 0 0,.bool false,.slice none 0 0] 37))=W0 at *;refine Zd (callv (ref3_Right (I1.out.below hW)) HE1.out) ?_;rintro e u1 ⟨rfl,hb1⟩;have hW1:=hW.trans (hb1.mono hW.size);replace o1:=o1.below hb1;replace o2:=o2.below hb1;replace o3:=o3.below hb1;clear hb1 hW;have o1c:=o1.cell;have o2c:=o2.cell;go_wp2_with fail;refine Zd (callv (ref3_Right (I2.out.below hW1)) HE2.out) ?_;rintro e u2 ⟨rfl,hb1⟩;have hW2:=hW1.trans (hb1.mono hW1.size);replace o1:=o1.below hb1;replace o2:=o2.below hb1;replace o3:=o3.below hb1;clear hb1 hW1;replace o1c:=o1.cell;replace o2c:=o2.cell;go_wp2_with fail;refine Zd (callv (ref3_Sign (I2.out.below hW2) HE3.out) (congrArg (Value.int IntKind.i64) HOS.out)) ?_;rintro e u9 ⟨rfl,hb1⟩;have hW9:=hW2.trans (hb1.mono hW2.size);replace o1:=o1.below hb1;replace o2:=o2.below hb1;replace o3:=o3.below hb1;clear hb1 hW2;have hW2:=hW9;clear hW9;replace o1c:=o1.cell;replace o2c:=o2.cell;go_wp2_with fail;have qm:=ref1_Mul (G1.out.below hW2) (G4.out.below hW2);unfold RetM at qm;rw [HX.out.1] at qm;simp only [HX.out.2.2.1] at qm;refine Zd qm ?_;clear qm;rintro e u3 ⟨⟨b5,C5,rfl,q1,q2,q3⟩,hb1⟩;obtain ⟨A5,n5,c5,hsl⟩:=slC_form x b5 C5;simp only [numC];rw [hsl];have M3:=Zh (q1.at2 HX.out.2.2.1 hsl);have hW3:=hW2.trans (hb1.mono hW2.size);replace o1:=o1.below hb1;replace o2:=o2.below hb1;replace o3:=o3.below hb1;clear hb1 hW2 q1 q2 q3 hsl;clear o1c o2c;have hal:=(Zb u3.heap.size u3).alloc (Zr _) (.cells #[.bool (sgnN x),.slice A5 n5 c5] 35);have o5:Own (u3.alloc (.cells #[.bool (sgnN x),.slice A5 n5 c5] 35)) u3.heap.size #[.bool (sgnN x),.slice A5 n5 c5]:=Own.new rfl;have hW4:=hW3.trans (hal.mono hW3.size);replace o1:=o1.below hal;replace o2:=o2.below hal;replace o3:=o3.below hal;have M3x:=Zh (M3.out.below hal);clear M3;have M3:=M3x;clear M3x;have u3z:=hal.size;clear hal hW3;have o1c:=o1.cell;have o2c:=o2.cell;have o3c:=o3.cell;have o5c:=o5.cell;go_wp2_with fail;generalize (u3.alloc (.cells #[.bool (sgnN x),.slice A5 n5 c5] 35))=U3 at *;have qm:=ref1_Mul (G2.out.below hW4) (G3.out.below hW4);unfold RetM at qm;rw [HX.out.2.1] at qm;simp only [HX.out.2.2.2.1] at qm;refine Zd qm ?_;clear qm;rintro e u4 ⟨⟨b6,C6,rfl,q1,q2,q3⟩,hb1⟩;obtain ⟨A6,n6,c6,hsl⟩:=slC_form y b6 C6;simp only [numC];rw [hsl];have M4:=Zh (q1.at2 HX.out.2.2.2.1 hsl);have hW5:=hW4.trans (hb1.mono hW4.size);replace o1:=o1.below hb1;replace o2:=o2.below hb1;replace o3:=o3.below hb1;replace o5:=o5.below hb1;have M3x:=Zh (M3.out.below hb1);clear M3;have M3:=M3x;clear hb1 hW4 q1 q2 q3 hsl M3x o1c o2c o3c o5c;have hal:=(Zb u4.heap.size u4).alloc (Zr _) (.cells #[.bool (sgnN y),.slice A6 n6 c6] 35);have o6:Own (u4.alloc (.cells #[.bool (sgnN y),.slice A6 n6 c6] 35)) u4.heap.size #[.bool (sgnN y),.slice A6 n6 c6]:=Own.new rfl;have hW6:=hW5.trans (hal.mono hW5.size);replace o1:=o1.below hal;replace o2:=o2.below hal;replace o3:=o3.below hal;replace o5:=o5.below hal;have M3x:=Zh (M3.out.below hal);clear M3;have M3:=M3x;clear M3x;have M4x:=Zh (M4.out.below hal);clear M4;have M4:=M4x;clear M4x;have u4z:=hal.size;clear hal hW5;have o1c:=o1.cell;have o2c:=o2.cell;have o3c:=o3.cell;have o5c:=o5.cell;have o6c:=o6.cell;go_wp2_with fail;generalize (u4.alloc (.cells #[.bool (sgnN y),.slice A6 n6 c6] 35))=U4 at *;have qo:=ref3_OfA M3.out M4.out HX.out.2.2.2.2.1;rw [HX.out.2.2.2.2.2.1,HX.out.2.2.2.2.2.2] at qo;refine Zd qo ?_;clear qo;rintro e u5 ⟨⟨b7,C7,b8,C8,rfl,q1,q2,q3,q4,q5,q6⟩,hb1⟩;obtain ⟨A7,n7,c7,hs7⟩:=slC_form rz b7 C7;obtain ⟨A8,n8,c8,hs8⟩:=slC_form ry b8 C8;simp only [ratC];rw [hs7,hs8];have HSL:=Zh (Zi hs7 hs8);have hW7:=hW6.trans (hb1.mono hW6.size);have hz6:=hW6.size;have hz3:=o3.lt;replace o3:=o3.below hb1;have HQ:=Zh (Zi q1 q2);clear hb1 q1 q2 hs7 hs8 o1c o2c o3c o5c o6c hW6;have o3c:=o3.cell;have o3f:=o3.thaw;have o3z:=o3.lt;go_wp2;have hq3:b7<u5.heap.size/\b8<u5.heap.size/\w.heap.size+1+1<b7/\w.heap.size+1+1<b8:=⟨q4,q6,aO,aO⟩;refine retC (b:=w.heap.size+1+1) (v:= .tuple #[.agg #[.bool (sgnN rz),.slice A7 n7 c7,.bool (sgnN ry),.slice A8 n8 c8],.bool true]) ((((o3.set 0 _).set 1 _).set 2 _).set 3 _) (fun w' hw'=>by simp [results,Tryz.results143,go_sem,hw']) rfl ⟨⟨b7,C7,b8,C8,by rw [ratC,HSL.out.1,HSL.out.2],((((HQ.out.1.far (p:=⟨w.heap.size+1+1,0,none⟩) aT (.bool (sgnN rz))).far (p:=⟨w.heap.size+1+1,1,none⟩) aT (.slice A7 n7 c7)).far (p:=⟨w.heap.size+1+1,2,none⟩) aT (.bool (sgnN ry))).far (p:=⟨w.heap.size+1+1,3,none⟩) aT (.slice A8 n8 c8)),((((HQ.out.2.far (p:=⟨w.heap.size+1+1,0,none⟩) aT (.bool (sgnN rz))).far (p:=⟨w.heap.size+1+1,1,none⟩) aT (.slice A7 n7 c7)).far (p:=⟨w.heap.size+1+1,2,none⟩) aT (.bool (sgnN ry))).far (p:=⟨w.heap.size+1+1,3,none⟩) aT (.slice A8 n8 c8)),aO,by simp [World.setCell]; omega,aO,by simp [World.setCell]; omega⟩,((((hW7.setCell (p:=⟨w.heap.size+1+1,0,none⟩) aT (.bool (sgnN rz))).setCell (p:=⟨w.heap.size+1+1,1,none⟩) aT (.slice A7 n7 c7)).setCell (p:=⟨w.heap.size+1+1,2,none⟩) aT (.bool (sgnN ry))).setCell (p:=⟨w.heap.size+1+1,3,none⟩) aT (.slice A8 n8 c8))⟩
def capB:Nat->Int
 | 0=>24072
 | k+1=>4*capB k
theorem capB_pos:∀ k,24072<=capB k
 | 0=>by decide
 | k+1=>by have:=capB_pos k; rw [capB]; omega
theorem capB_le:∀ {k},k<8->capB k<=400000000:=by decide +kernel
theorem capB_two (k:Nat):2*capB (k+1)+2*capB k<=capB (k+2):=by
 have:=capB_pos k;have e1:capB (k+1)=4*capB k:=rfl;have e2:capB (k+2)=4*capB (k+1):=rfl;omega
theorem mul_two {a x B:Int} (h1:-2<=a) (h2:a<=2) (h3:-B<=x) (h4:x<=B):-(2*B)<=a*x/\a*x<=2*B:=by
 rcases (show a=-2\/a=-1\/a=0\/a=1\/a=2 by omega) with rfl | rfl | rfl | rfl | rfl <;> omega
theorem mul_four {a x:Int} (h1:-4<=x) (h2:x<=4) (h3:-6<=a) (h4:a<=6):-24<=x*a/\x*a<=24:=by
 rcases (show x=-4\/x=-3\/x=-2\/x=-1\/x=0\/x=1\/x=2\/x=3\/x=4 by omega) with rfl | rfl | rfl | rfl | rfl | rfl | rfl | rfl | rfl <;> omega
theorem ownsRow_blk {w w':World} {base:Nat} {e:TypeId} {size:Nat} {v:Value} {n:Nat} {xs:List Value} (h:w.ownsRow base e size v n xs) (hk:∀ b,v.ownBlock=some b->b<w.heap.size->w'.heap[b]?=w.heap[b]?):w'.ownsRow base e size v n xs:=by
 refine ⟨h.1,?_⟩;rcases h.2 with h1 | ⟨g,cap,cur,rfl,e2,e3,e4⟩
 ·exact .inl h1
 ·have hg:g<w.heap.size:=by
   rcases Nat.lt_or_ge g w.heap.size with h | h
   ·exact h
   ·rw [Array.getElem?_eq_none h] at e3; cases e3
  exact .inr ⟨g,cap,cur,rfl,e2,(hk g rfl hg).trans e3,e4⟩
theorem row_cell {w:World} {base:Nat} {X:Nat->Prop} {v:Value} {M:List (List Int)} {k:Nat} {xs:List Value} (h:w.ownsRow base 22 1 v k xs) (hr:RowsW X w xs M) (hM:M.length=k) {j c:Nat} (hj:j<k) (hc:c<(rAt M j).length) :
 ∃ g cap B off mm cc,v = .slice (some ⟨g,0,none⟩) k cap/\base<=g/\g<w.heap.size/\v.ownBlock=some g/\w.cell? ⟨g,j,none⟩=some (.slice (some ⟨B,off,none⟩) mm cc)/\mm=(rAt M j).length/\B<w.heap.size/\X B/\w.cell? ⟨B,off+c,none⟩=some (.int .i64 (iAt (rAt M j) c)):=by
 obtain ⟨B,m,c',e1,e2,e3,e4,e5⟩:=hr.2 j aO;have hl:=e5.len;obtain ⟨b,off,rfl,hlt,hc2⟩:=e5.row aO;rcases h.2 with ⟨rfl,h0⟩ | ⟨g,cap,cur,rfl,h1,h2,h3,h4,h5,h6⟩
 ·omega
 ·have q:=ownsRow_cell (xs:=xs) (size:=1) (e:=22) ⟨h.1,.inr ⟨g,cap,cur,rfl,h1,h2,h3,h4,h5,h6⟩⟩ aO;exact ⟨g,cap,b,off,m,c',rfl,h1,q.2.1,rfl,(q.2.2.2.2 j aO).trans e1,hl.symm,hlt,(e4 b off rfl).2,hc2 c aO⟩
theorem ref5_Made (A:Option Addr) (n cap:Nat) (l:List Int) (r m:Nat) (hr1:1<=r) (hr8:r<=8) (hm1:1<=m) (hm8:m<=8) (w:World) (hl:SliceI w A n l) :
 Calls Tryz.prog 12 #[.slice A n cap,.int .i64 r,.int .i64 m] w fun e w'=>(∃ g c M,e = .returned (.slice (some ⟨g,0,none⟩) r c)/\r<=c/\c<=9223372036854775807/\RowsAt w' (some ⟨g,0,none⟩) r M/\(∀ i,i<r->(rAt M i).length=m/\BdI (capB i) (rAt M i))/\w.heap.size<=g/\OwnRows (w.heap.size+1) w' (.slice (some ⟨g,0,none⟩) r c) M)/\Below w.heap.size w w':=by
 obtain ⟨i0,hi,hz0,hz1,hz2⟩:=info_parts infoIs;have hmin:(if (8:Int)<(m:Int) then 8 else (m:Int))=(m:Int):=by split <;> omega
 have hmin2:min (m:Int) 8=(m:Int):=aO
 have hmi:(m:Int)<=8:=aO
 have hri:(r:Int)<=8:=aO
 have HLI:=Zh hl;clear hl;obtain ⟨bd,hbd⟩:=Zx (w.heap.size);have hW0:=(Zb w.heap.size w).alloc (Zr _) (.cells #[.slice A n cap,.int .i64 0] 75);have hD0:=DrawAt.start (cap:=cap) (T:=75) HLI.out;have hz0':w.heap.size+1<=(w.alloc (.cells #[.slice A n cap,.int .i64 0] 75)).heap.size:=aS
 go_enter Tryz.func12,Tryz.ntmps12;go_wp2;generalize (w.alloc (.cells #[.slice A n cap,.int .i64 0] 75))=W0 at *;rw [hbd] at hD0 hz0';have HD0:=Zh hD0;have HBD:=Zh hbd;clear hD0 HLI hbd;have hw:=hW0;have hws:=hz0';clear hW0 hz0';go_loopw [8,9] (fun v i wr=>∃ (k:Nat) (xs:List Value) (M:List (List Int)) (d:List Int),k<=r/\i = .int .i64 k/\Below w.heap.size w wr/\bd+1<=wr.heap.size/\DrawAt wr bd d/\wr.ownsRow (bd+1) 22 1 v k xs/\RowsW (fun b=>bd+1<=b/\some b≠v.ownBlock) wr xs M/\M.length=k/\∀ i,i<k->(rAt M i).length=m/\BdI (capB i) (rAt M i)) (fun _ i _=>r - (intOf i).toNat)
 case atStart=>exact ⟨0,[],[],_,aO,rfl,hw,hws,HD0.out,⟨rfl,.inl ⟨rfl,rfl⟩⟩,RowsW.nil _ _,rfl,fun i h=>absurd h (Nat.not_lt_zero i)⟩
 case round =>
  clear hw hws HD0;obtain ⟨k,xs,M,d0,hk,rfl,hw,hws,hd,hrow,hrw,hMl,hMb⟩:=hrel;have HD:=Zh hd;have HO:=Zh hrow;have HR:=Zh hrw;have HM:=Zh (Zi hMl hMb);have OV:Hid (∀ b,u8.ownBlock=some b->b<wr.heap.size):=Zh (fun b hb=>ownBlock_lt hrow hb);clear hd hrow hrw hMl hMb
  by_cases hkr:k<r
  ·have hkri:(k:Int)<(r:Int):=aO
   have hk8:(k:Int)<8:=aO
   have hmk:=make_ints m aO;have hz:=hw.size;obtain ⟨rb,hrb⟩:=Zx (wr.heap.size);obtain ⟨Z0,hZ0⟩:=Zx (cellsI (List.replicate m 0));rw [hZ0] at hmk;have hwa:=hw.alloc hz (.cells Z0 3);have oR:Own (wr.alloc (.cells Z0 3)) wr.heap.size Z0:=Own.new rfl;have hal:Below wr.heap.size wr (wr.alloc (.cells Z0 3)):=(Zb _ _).alloc (Zr _) _;have HDa:=Zh (HD.out.below hal);have HOa:=Zh (ownsRow_stay HO.out hal);have HRa:Hid (RowsW (fun b=>bd+1<=b/\some b≠u8.ownBlock/\b≠rb) (wr.alloc (.cells Z0 3)) xs M):=Zh (HR.out.move hal.size fun b hlt hX=>⟨hal.block b hlt,hX.1,hX.2,aO⟩);have hrbd:bd<rb:=aO
   have hov:∀ b,u8.ownBlock=some b->b≠rb:=fun b hb=>by have:=OV.out b hb; omega
   have HOV:=Zh hov;have HZ0:=Zh hZ0;have hsz:(wr.alloc (.cells Z0 3)).heap.size=rb+1:=by simp; exact hrb
   rw [hrb] at oR;have HRB:=Zh hrb;clear hal HD HO HR hov hZ0;go_wp2_with fail;clear hrb;generalize (wr.alloc (.cells Z0 3))=wa at *;clear hmk hw hz hws HRB OV;obtain ⟨kd,hkd⟩:=Zx (nextV d0 4);obtain ⟨d1,hd1⟩:=Zx ((d0:List Int).tail);have nb0:=nextV_bd d0 4 aO;rw [hkd] at nb0;have q:=callv (ref1_Next bd _ 4 aO aO _ HDa.out) (congrArg (Value.int IntKind.i64) hkd);have HDT:=Zh hd1;clear hkd hd1;refine Zd q ?_;clear q;rintro e wd1 ⟨rfl,hu,hdd⟩;rw [HDT.out] at hdd;have HDa':=Zh hdd;have HOa':=Zh (ownsRow_upd HOa.out hu aO);have HRa':=Zh (HRa.out.move (Y:=fun b=>bd+1<=b/\some b≠u8.ownBlock/\b≠rb) hu.size fun b hlt hX=>⟨hu.block b hlt aT,hX⟩);have oR':=oR.upd hu aT;have hsz':=hu.size;have hwa':=Upd.below hwa hu (by simp; have:=HBD.out; omega);clear HDa HOa HRa oR hwa hu hdd HDT;have HDa:=HDa';have HOa:=HOa';have HRa:=HRa';have oR:=oR';have hwa:=hwa';clear HDa' HOa' HRa' oR' hwa';go_wp2_with fail;obtain ⟨qa,hqa⟩:=Zx (nextV d1 5);obtain ⟨d2,hd2⟩:=Zx ((d1:List Int).tail);have nb1:=nextV_bd d1 5 aO;rw [hqa] at nb1;have q:=callv (ref1_Next bd _ 5 aO aO _ HDa.out) (congrArg (Value.int IntKind.i64) hqa);have HDT:=Zh hd2;clear hqa hd2;refine Zd q ?_;clear q;rintro e wd2 ⟨rfl,hu,hdd⟩;rw [HDT.out] at hdd;have HDa':=Zh hdd;have HOa':=Zh (ownsRow_upd HOa.out hu aO);have HRa':=Zh (HRa.out.move (Y:=fun b=>bd+1<=b/\some b≠u8.ownBlock/\b≠rb) hu.size fun b hlt hX=>⟨hu.block b hlt aT,hX⟩);have oR':=oR.upd hu aT;have hsz':=hu.size;have hwa':=Upd.below hwa hu (by simp; have:=HBD.out; omega);clear HDa HOa HRa oR hwa hu hdd HDT;have HDa:=HDa';have HOa:=HOa';have HRa:=HRa';have oR:=oR';have hwa:=hwa';clear HDa' HOa' HRa' oR' hwa';obtain ⟨a,ha⟩:=Zx (qa - 2);have hba:-2<=a/\a<=2:=aO
   go_wp2_with fail;obtain ⟨qb,hqb⟩:=Zx (nextV d2 5);obtain ⟨d3,hd3⟩:=Zx ((d2:List Int).tail);have nb2:=nextV_bd d2 5 aO;rw [hqb] at nb2;have q:=callv (ref1_Next bd _ 5 aO aO _ HDa.out) (congrArg (Value.int IntKind.i64) hqb);have HDT:=Zh hd3;clear hqb hd3;refine Zd q ?_;clear q;rintro e wd3 ⟨rfl,hu,hdd⟩;rw [HDT.out] at hdd;have HDa':=Zh hdd;have HOa':=Zh (ownsRow_upd HOa.out hu aO);have HRa':=Zh (HRa.out.move (Y:=fun b=>bd+1<=b/\some b≠u8.ownBlock/\b≠rb) hu.size fun b hlt hX=>⟨hu.block b hlt aT,hX⟩);have oR':=oR.upd hu aT;have hsz':=hu.size;have hwa':=Upd.below hwa hu (by simp; have:=HBD.out; omega);clear HDa HOa HRa oR hwa hu hdd HDT;have HDa:=HDa';have HOa:=HOa';have HRa:=HRa';have oR:=oR';have hwa:=hwa';clear HDa' HOa' HRa' oR' hwa';obtain ⟨b,hb⟩:=Zx (qb - 2);have hbb:-2<=b/\b<=2:=aO
   go_wp2;have hsz3:rb+1<=wd3.heap.size:=aO
   clear ha hb nb1 nb2 hsz hsz';have hB0:(0:Int)<=capB k:=by have:=capB_pos k; omega
   have hwB:Below w.heap.size w wd3:=hwa;have HWB:=Zh hwB;have HDb:=HDa;have hoR0:Own wd3 rb (cellsI (List.replicate m 0)):=by rw [HZ0.out]; exact oR
   clear hwB hwa HDa oR;go_loopw [14] (fun i wr=>∃ (c:Nat) (R d:List Int),c<=m/\i = .int .i64 c/\Upd [bd,rb] wd3 wr/\DrawAt wr bd d/\Own wr rb (cellsI R)/\R.length=m/\BdI (capB k) R) (fun i _=>m - (intOf i).toNat)
   case atStart=>exact ⟨0,_,_,aO,rfl,Upd.refl _ _,HDb.out,hoR0,List.length_replicate,BdI.rep hB0 m⟩
   case round =>
    clear HDb hoR0;obtain ⟨c,R,d,hc,rfl,hU,hd,ho,hRl,hRb⟩:=hrel;have HD:=Zh hd;have HRL:=Zh (Zi hRl hRb);clear hd hRl hRb
    by_cases hcm:c<m
    ·have hcmi:(c:Int)<(m:Int):=aO
     obtain ⟨q,hq⟩:=Zx (nextV d 9);have nb:=nextV_bd d 9 aO;rw [hq] at nb;obtain ⟨x,hx⟩:=Zx (q - 4);have hxb:-4<=x/\x<=4:=aO
     have hcall:=callv (ref1_Next bd d 9 aO aO wr HD.out) (congrArg (Value.int IntKind.i64) hq);have HC:=Zh hcall;clear hcall hq;go_wp2_with fail;refine Zd HC.out ?_;rintro e w2 ⟨rfl,hu,hd2⟩;have hU2:Upd [bd,rb] wd3 w2:=hU.trans ⟨hu.os,hu.tape,hu.output,hu.size,fun b hb ht=>hu.block b hb (by simp at ht ⊢; omega)⟩;have o2:=ho.upd hu aT;have o3:Own (w2.setCell ⟨rb,c,none⟩ (.int .i64 x)) rb (cellsI (R.set c x)):=(o2.set c (.int .i64 x)).eq (cellsI_set R c x);have hU3:Upd [bd,rb] wd3 (w2.setCell ⟨rb,c,none⟩ (.int .i64 x)):=hU2.set aS _;have HD3:=Zh (DrawAt.of_blocks hd2 (w':=w2.setCell ⟨rb,c,none⟩ (.int .i64 x)) (fun i hi=>Below.heap_setCell _ _ _ i aT));have hR3:(R.set c x).length=m/\BdI (capB k) (R.set c x):=⟨by rw [List.length_set]; exact HRL.out.1,HRL.out.2.set (by rw [HRL.out.1]; exact hcm) (by have:=capB_pos k; omega)⟩;have hget:(cellsI R)[c]?=some (.int .i64 (iAt R c)):=cellsI_at (by rw [HRL.out.1]; exact hcm);have o2c:=o2.cell c;rw [hget] at o2c;have o2f:=o2.thaw;have o2z:=o2.lt;have HR3:=Zh hR3;obtain ⟨R3,hRR⟩:=Zx (R.set c x);rw [hRR] at o3 HR3;have hx3:iAt R3 c=x:=by rw [<- hRR,iAt_set (by rw [HRL.out.1]; exact hcm),if_pos rfl]
     have HX3:=Zh hx3;have oc3:(w2.setCell ⟨rb,c,none⟩ (.int .i64 x)).cell? ⟨rb,c,none⟩=some (.int .i64 x):=by rw [o3.cell,cellsI_at (by rw [HR3.out.1]; exact hcm),hx3]
     clear HC hu hd2 hU2 hget hR3 hU ho HD HRL hRR hx3
     by_cases h1:kd=1/\1<k
     ·obtain ⟨rfl,hk1⟩:=h1;have hk1i:(1:Int)<(k:Int):=aO
      go_wp2;clear o2 o2c o2f hx nb;generalize (w2.setCell ⟨rb,c,none⟩ (.int .i64 x))=w3 at *;obtain ⟨ka,hka⟩:∃ ka,k=ka+1:=⟨k - 1,aO⟩;obtain ⟨kb,hkb⟩:∃ kb,ka=kb+1:=⟨ka - 1,aO⟩;have ex1:(k:Int) - 1=(ka:Int):=aO
      have ex2:(k:Int) - 2=(kb:Int):=aO
      have ex3:(ka:Int)<(k:Int):=aO
      have ex4:(kb:Int)<(k:Int):=aO
      have hl1:=HM.out.2 ka aO;have hl2:=HM.out.2 kb aO;obtain ⟨g,cp,B1,off1,mm1,cc1,hv,hg1,hg2,hg3,a1,hmm1,hB1,hX1,a2⟩:=row_cell HOa.out HRa.out HM.out.1 (j:=ka) (c:=c) aO (by rw [hl1.1]; exact hcm);obtain ⟨g',cp',B2,off2,mm2,cc2,hv',_,_,_,a3,hmm2,hB2,hX2,a4⟩:=row_cell HOa.out HRa.out HM.out.1 (j:=kb) (c:=c) aO (by rw [hl2.1]; exact hcm);rw [hv] at hv';injection hv' with e3 e4 e5
      injection e3 with e3
      injection e3 with e3
      subst e3;subst e5;rw [hl1.1] at hmm1;rw [hl2.1] at hmm2;have hmm1:=hmm1.symm;have hmm2:=hmm2.symm;subst hmm1;subst hmm2;have hgr:g≠rb:=HOV.out g hg3;have tr:∀ {b o v},b<wd3.heap.size->b≠bd->b≠rb->wd3.cell? ⟨b,o,none⟩=some v->w3.cell? ⟨b,o,none⟩=some v:=fun {b o v} h1 h2 h3 h4=>(Zc (w:=wd3) (a:=⟨b,o,none⟩) (hU3.block b h1 (by simp; exact ⟨h2,h3⟩))).trans h4
      have c1:=tr hg2 aO hgr a1;have c3:=tr hg2 aO hgr a3;have c2:=tr hB1 (by have:=hX1.1; omega) hX1.2.2 a2;have c4:=tr hB2 (by have:=hX2.1; omega) hX2.2.2 a4;have s1:=hU3.size;have l1:g<w3.heap.size:=aO
      have l2:B1<w3.heap.size:=aO
      have l3:B2<w3.heap.size:=aO
      have hB1r:B1≠rb:=hX1.2.2;have hB2r:B2≠rb:=hX2.2.2;have by1:=hl1.2 c;have by2:=hl2.2 c;obtain ⟨y1,hy1⟩:=Zx (iAt (rAt M ka) c);obtain ⟨y2,hy2⟩:=Zx (iAt (rAt M kb) c);rw [hy1] at c2 by1;rw [hy2] at c4 by2;have bp1:=mul_two hba.1 hba.2 by1.1 by1.2;have bp2:=mul_two hbb.1 hbb.2 by2.1 by2.2;have bb:2*capB ka+2*capB kb<=capB k:=by rw [hka,hkb]; exact capB_two kb
      have bc:=capB_le (k:=k) aO;obtain ⟨p1,hp1⟩:=Zx (a*y1);obtain ⟨p2,hp2⟩:=Zx (b*y2);rw [hp1] at bp1;rw [hp2] at bp2;obtain ⟨s,hs⟩:=Zx (p1+p2);have bp0:=capB_pos kb;have bp01:=capB_pos ka;have hsb:-capB k<=s/\s<=capB k:=aO
      have hp1b:-2000000000<=p1/\p1<=2000000000:=aO
      have hp2b:-2000000000<=p2/\p2<=2000000000:=aO
      have hsb2:-2000000000<=s/\s<=2000000000:=aO
      have HSB:=Zh hsb;clear hka hkb tr a1 a2 a3 a4 hl1 hl2 hy1 hy2 by1 by2 bp1 bp2 bb bc hsb bp0 bp01 hB0 hX1 hX2 s1;rw [hv];have HV:=Zh hv;clear hv hg3 hg1 hg2 hB1 hB2;refine region_late 24 [rb] aK aK (by rfl) ?_;apply Zs;refine ⟨fun v hv hne=>?_,fun u hu=>?_⟩
      ·simp only [TK];have f1:=fun y:Later [rb] w3 v=>(y.cell g ka l1 (by simp; exact hgr)).trans c1
       have f2:=fun y:Later [rb] w3 v=>(y.cell B1 (off1+c) l2 (by simp; exact hB1r)).trans c2
       have f3:=fun y:Later [rb] w3 v=>(y.cell g kb l1 (by simp; exact hgr)).trans c3
       have f4:=fun y:Later [rb] w3 v=>(y.cell B2 (off2+c) l3 (by simp; exact hB2r)).trans c4
       exact qz
      simp only [TK];have p3:=o3.below hu;have p3c:=p3.cell c;rw [cellsI_at (show c<R3.length by rw [HR3.out.1]; exact hcm),HX3.out] at p3c;have p3f:=p3.thaw;have p3z:=p3.lt;refine late_mem (fun K hK=>?_);go_simp;refine hK _ _ ((Keeps.of_below hu).set aS _) (fun u2 hu2=>?_);clear hK K;have o4:Own u2 rb (cellsI (R3.set c s)):=((p3.set c (.int .i64 s)).eq (cellsI_set R3 c s)).below hu2;have hU4:Upd [bd,rb] wd3 u2:=((hU3.hop hu).set aS _).hop hu2;have HD4:=Zh (DrawAt.below (DrawAt.of_blocks (HD3.out.below hu) (w':=u.setCell ⟨rb,c,none⟩ (.int .i64 s)) (fun i hi=>Below.heap_setCell _ _ _ i aT)) hu2);have hR4:(R3.set c s).length=m/\BdI (capB k) (R3.set c s):=⟨by rw [List.length_set]; exact HR3.out.1,HR3.out.2.set (by rw [HR3.out.1]; exact hcm) HSB.out⟩;have HR4:=Zh hR4;clear hR4 hu hu2 o3 p3 p3c p3f p3z HD3 hU3 hs hp1 hp2 c1 c2 c3 c4 l1 l2 l3;refine late_nil ?_
      (try simp only [LN])
      go_wp2;exact ⟨⟨⟨c+1,aO,by go_num,⟨_,HD4.out⟩,⟨_,o4,HR4.out.1,HR4.out.2⟩⟩,HV.out.symm⟩,by simp [intOf]; omega⟩
     ·have h1':(kd=1/\(k:Int)<=1)\/¬ kd=1:=aO
      clear h1
      by_cases h2:kd=2
      ·subst h2;clear h1';go_wp2;clear o2 o2c o2f hx nb;generalize (w2.setCell ⟨rb,c,none⟩ (.int .i64 x))=w3 at *;obtain ⟨t1,ht1⟩:=Zx (x+a);have bt:=mul_four hxb.1 hxb.2 (a:=t1) aO aO;obtain ⟨t2,ht2⟩:=Zx (x*t1);rw [ht2] at bt;obtain ⟨s,hs⟩:=Zx (t2*1003);have hsb:-capB k<=s/\s<=capB k:=by have:=capB_pos k; omega
       have HSB:=Zh hsb;have hsb2:-2000000000<=s/\s<=2000000000:=aO
       have ht1b:-6<=t1/\t1<=6:=aO
       clear hsb hB0;have l3:=o3.lt;refine region_sink 15 [] aK aK (by rfl) ?_;apply Zs;refine ⟨fun v hv hne=>?_,fun u hu=>?_⟩
       ·simp only [TK];have f1:=fun y:Later [] w3 v=>(y.cell rb c l3 aS).trans oc3
        exact qz
       simp only [TK];have p3:=o3.below hu;have p3c:=p3.cell c;rw [cellsI_at (show c<R3.length by rw [HR3.out.1]; exact hcm),HX3.out] at p3c;have p3f:=p3.thaw;have p3z:=p3.lt;have hU4:Upd [bd,rb] wd3 (u.setCell ⟨rb,c,none⟩ (.int .i64 s)):=(hU3.hop hu).set aS _;have HD4:=Zh (DrawAt.of_blocks (HD3.out.below hu) (w':=u.setCell ⟨rb,c,none⟩ (.int .i64 s)) (fun i hi=>Below.heap_setCell _ _ _ i aT));have o4:Own (u.setCell ⟨rb,c,none⟩ (.int .i64 s)) rb (cellsI (R3.set c s)):=(p3.set c (.int .i64 s)).eq (cellsI_set R3 c s);have hR4:(R3.set c s).length=m/\BdI (capB k) (R3.set c s):=⟨by rw [List.length_set]; exact HR3.out.1,HR3.out.2.set (by rw [HR3.out.1]; exact hcm) HSB.out⟩;have HR4:=Zh hR4;clear hR4 hu o3 p3 HD3 hU3 hs ht1 ht2 oc3;refine sink_all aK (fun K hK=>?_);go_simp;refine hK _ _ ?_;clear hK K p3c p3f p3z;refine sink_nil ?_
       (try simp only [LN])
       go_wp2;go_roundw
       case rel=>exact ⟨c+1,_,_,aO,by go_num,hU4,HD4.out,o4,HR4.out.1,HR4.out.2⟩
       case measure=>simp [intOf]; omega
      ·rcases h1' with ⟨rfl,h1'⟩ | h1'
       ·go_wp2;go_roundw
        case rel=>exact ⟨c+1,_,_,aO,by go_num,hU3,HD3.out,o3,HR3.out.1,HR3.out.2⟩
        case measure=>simp [intOf]; omega
       ·go_wp2;go_roundw
        case rel=>exact ⟨c+1,_,_,aO,by go_num,hU3,HD3.out,o3,HR3.out.1,HR3.out.2⟩
        case measure=>simp [intOf]; omega
    ·obtain rfl:c=m:=aO
     have hwC:Below w.heap.size w wr:=Upd.below HWB.out hU (by intro b hb; simp at hb; have:=HBD.out; omega);have s1:=hU.size;have HO2:=Zh (ownsRow_blk HOa.out fun b hb hlt=>hU.block b hlt (by
      have h1:=HOV.out b hb;have h2:=ownBlock_ge HOa.out hb;simp; omega))
     have HR2:Hid (RowsW (fun b=>bd+1<=b/\some b≠u8.ownBlock/\b≠rb) wr xs M):=Zh (HRa.out.move hU.size fun b hlt hX=>⟨hU.block b hlt (by have:=hX.1; have:=hX.2.2; simp; omega),hX⟩);have HI:=Zh (ho.ints HRL.out.1 (HRL.out.2.i64 (by have:=capB_le (k:=k) aO; omega)));have hrlt:=ho.lt;clear ho hU HOa HRa;go_wp2_with (at_builtin; refine wpList_append_lies _ rfl _ _ _ (by rfl) (bd+1) 22 i0 (.slice none 0 0) 1 24 Tryz.underlying25 hi hz0 hz1 hz2 rfl aO _ k xs (by rfl) (HO2.out.alloc _) ⟨wr.heap.size,0,none⟩ 1 1 [.slice (some ⟨rb,0,none⟩) c c] (by rfl) rfl ?c1 ?c2 aO ?c3 ?c4 ?c5 (wr.heap.size+1) aS ?_)
     case c1=>exact World.news_of_block (heap_alloc_new wr _)
     case c2=>intro u hu; simp at hu; subst hu; rfl
     case c3=>unfold maxLen; omega
     case c4=>omega
     case c5=>simp; omega
     intro g cg w6 ho6 hg6 hat hlt6;have hob:∀ b,u8.ownBlock=some b->bd+1<=b:=fun b hb=>ownBlock_ge HO2.out hb
     have hal:Below wr.heap.size wr (wr.alloc (.cells #[.slice (some ⟨rb,0,none⟩) c c] 22)):=(Zb _ _).alloc (Zr _) _;have hbw:=HBD.out;have B6:=Zh (Below.grown (hwC.trans (hal.mono hwC.size)) hg6 aT (fun b hb=>by have:=hob b hb; omega));have hgrb:g≠rb:=by
      rcases hat with h | h
      ·exact HOV.out g h
      ·omega
     have hc6:RowsW (fun b=>bd+1<=b/\some b≠some g) w6 (xs++[.slice (some ⟨rb,0,none⟩) c c]) (M++[R]):=by
      have q:=RowsW.snoc (X:=fun b=>bd+1<=b/\some b≠u8.ownBlock/\b<wr.heap.size) (HR2.out.move (Y:=fun b=>bd+1<=b/\some b≠u8.ownBlock/\b<wr.heap.size) (Zr _) fun b hlt hX=>⟨rfl,hX.1,hX.2.1,hlt⟩) (Zr c) aO (fun b off e=>by cases e; exact ⟨hrlt,aO,fun e=>HOV.out rb e.symm rfl,hrlt⟩) HI.out;refine q.move (by have:=hg6.size; simp at this; omega) fun b hlt hX=>⟨(hg6.block b aT (fun e=>hX.2.1 e)).trans (hal.block b hlt),hX.1,fun e=>?_⟩
      cases e;rcases hat with h | h
      ·exact hX.2.1 h.symm
      ·have:=hX.2.2; omega
     have HC6:=Zh hc6;have HO6:=Zh ho6;have HD6:=Zh (DrawAt.of_blocks (HD.out.below hal) (w':=w6) (fun i hi=>hg6.block i aT (fun e=>by have:=hob i e.symm; omega)));have hs6:bd+1<=w6.heap.size:=by have:=hg6.size; simp at this; omega
     have HM6:Hid ((M++[R]).length=k+1/\∀ i,i<k+1->(rAt (M++[R]) i).length=c/\BdI (capB i) (rAt (M++[R]) i)):=Zh ⟨by rw [List.length_append,HM.out.1]; rfl,fun i hi=>by
      rcases rAt_at (M:=M) (l:=R) (i:=i) (by rw [List.length_append,HM.out.1]; exact hi) with ⟨h1,h2⟩ | ⟨h1,h2⟩
      ·rw [h2]; exact HM.out.2 i (by have:=HM.out.1; omega)
      ·rw [h2,h1,HM.out.1]; exact HRL.out⟩
     clear hc6 ho6 hg6 hat hob hal hlt6 hwC hbw;go_wp2;go_roundw
     case rel=>exact ⟨k+1,_,_,_,aO,by go_num,B6.out,hs6,HD6.out,HO6.out,HC6.out,HM6.out.1,HM6.out.2⟩
     case measure=>simp [intOf]; omega
  ·obtain rfl:k=r:=aO
   obtain ⟨A2,c2,rfl,g1,g2,g3,g4⟩:=rows_of_row HO.out HR.out HM.out.1;obtain ⟨g,rfl,hg1,hg2⟩:=g4 aO;have HG:=Zh g3;have HOR:Hid (OwnRows (bd+1) wr (.slice (some ⟨g,0,none⟩) k c2) M):=Zh ⟨xs,by rw [HM.out.1]; exact HO.out,HR.out⟩;clear g3 g4 OV HO HR;go_wp2;go_ret;exact ⟨⟨g,c2,M,rfl,g1,g2,HG.out,HM.out.2,by have:=HBD.out; omega,by rw [HBD.out]; exact HOR.out⟩,hw⟩
end Go.Proofs.YtflgngjocgiojaaGreat
