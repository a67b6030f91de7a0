import Derived.Test.YtflolbnnkbdmfaaGreatPlcA
set_option linter.all false
namespace Go.Proofs.YtflolbnnkbdmfaaGreat
open Go.RowKit
def roll (t:Int) (v:V3):V3:=if t=0 then v else if t=1 then ⟨v.z,v.x,v.y⟩ else ⟨v.y,v.z,v.x⟩
def dr (l:List Int) (k:Nat) (m:Int):Int:=nextV (l.drop k) m
def mdA (l:List Int):Int:=dr l 2 9 - 4
def mdB (l:List Int):Int:=dr l 3 9 - 4
def mdZ (l:List Int):Int:=dr l 4 9 - 4
def mdS (l:List Int):Int:=dr l 1 2*2 - 1
def mdP (l:List Int):Nat->V3
 | 0=>⟨mdA l,mdB l,mdZ l⟩
 | 1=>⟨mdA l+(1+dr l 5 6),mdB l,mdZ l⟩
 | 2=>⟨mdA l+dr l 7 5,mdB l+(1+dr l 6 6),mdZ l⟩
 | 3=>⟨mdA l,mdB l,dr l 8 5⟩
 | 4=>⟨mdA l+(1+dr l 5 6),mdB l,dr l 9 5⟩
 | _=>⟨mdA l,mdB l+dr l 10 5,dr l 11 5⟩
def mdN (l:List Int) (k:Nat):V3:=if 4<k then ⟨-mdS l,0,0⟩ else if 2<k then ⟨0,1,0⟩ else ⟨0,0,mdS l⟩
def mdLo (l:List Int) (k:Nat):Int:=-dr l (12+2*k) 20
def mdHi (l:List Int) (k:Nat):Int:=mdLo l k+dr l (13+2*k) 40
def mdL (l:List Int) (k:Nat):Loc:=⟨roll (nextV l 3) (mdP l k),roll (nextV l 3) (mdN l k),mdLo l k,mdHi l k⟩
def madeL (l:List Int):List Loc:=(List.range 6).map (mdL l)
theorem dr_bd (l:List Int) (k:Nat) {m:Int} (hm:1<=m):0<=dr l k m/\dr l k m<m:=nextV_bd _ _ hm
theorem mdS_cases (l:List Int):mdS l=1\/mdS l=-1:=by
 have:=dr_bd l 1 (m:=2) aO;unfold mdS; omega
theorem mdP_bd (l:List Int) (k:Nat):(-4<=(mdP l k).x/\(mdP l k).x<=10)/\(-4<=(mdP l k).y/\(mdP l k).y<=10)/\(-4<=(mdP l k).z/\(mdP l k).z<=10):=by
 have h2:=dr_bd l 2 (m:=9) aO;have h3:=dr_bd l 3 (m:=9) aO;have h4:=dr_bd l 4 (m:=9) aO;have h5:=dr_bd l 5 (m:=6) aO;have h6:=dr_bd l 6 (m:=6) aO;have h7:=dr_bd l 7 (m:=5) aO;have h8:=dr_bd l 8 (m:=5) aO;have h9:=dr_bd l 9 (m:=5) aO;have h10:=dr_bd l 10 (m:=5) aO;have h11:=dr_bd l 11 (m:=5) aO
 match k with
 | 0=>simp only [mdP,mdA,mdB,mdZ]; omega
 | 1=>simp only [mdP,mdA,mdB,mdZ]; omega
 | 2=>simp only [mdP,mdA,mdB,mdZ]; omega
 | 3=>simp only [mdP,mdA,mdB]; omega
 | 4=>simp only [mdP,mdA,mdB]; omega
 | n+5=>simp only [mdP,mdA,mdB]; omega
theorem mdN_unit (l:List Int) (k:Nat):mdN l k=⟨1,0,0⟩\/mdN l k=⟨-1,0,0⟩\/mdN l k=⟨0,1,0⟩\/mdN l k=⟨0,0,1⟩\/mdN l k=⟨0,0,-1⟩:=by
 unfold mdN;rcases mdS_cases l with h | h <;> rw [h] <;> split <;> (try split) <;> simp
theorem mdL_ok (l:List Int) (k:Nat):(mdL l k).Ok:=by
 have hp:=mdP_bd l k;have hl:=dr_bd l (12+2*k) (m:=20) aO;have hh:=dr_bd l (13+2*k) (m:=40) aO;have hlh:mdLo l k<=mdHi l k /\ -10000<=mdLo l k/\mdHi l k<=10000:=by unfold mdHi mdLo; omega
 have e1:(mdL l k).p=roll (nextV l 3) (mdP l k):=rfl;have e2:(mdL l k).n=roll (nextV l 3) (mdN l k):=rfl;have t1:roll (nextV l 3) (mdP l k)=mdP l k/\roll (nextV l 3) (mdN l k)=mdN l k\/roll (nextV l 3) (mdP l k)=⟨(mdP l k).z,(mdP l k).x,(mdP l k).y⟩/\roll (nextV l 3) (mdN l k)=⟨(mdN l k).z,(mdN l k).x,(mdN l k).y⟩\/roll (nextV l 3) (mdP l k)=⟨(mdP l k).y,(mdP l k).z,(mdP l k).x⟩/\roll (nextV l 3) (mdN l k)=⟨(mdN l k).y,(mdN l k).z,(mdN l k).x⟩:=by
  unfold roll; split
  ·exact .inl ⟨rfl,rfl⟩
  ·split
   ·exact .inr (.inl ⟨rfl,rfl⟩)
   ·exact .inr (.inr ⟨rfl,rfl⟩)
 rcases mdN_unit l k with hn | hn | hn | hn | hn <;> rw [hn] at t1 e2 <;> rcases t1 with ⟨a,b⟩ | ⟨a,b⟩ | ⟨a,b⟩ <;>
  exact ⟨by rw [e2,b]; simp,by rw [e2,b]; simp,by rw [e2,b]; simp,by rw [e1,a]; first | omega | (simp only []; omega),by rw [e1,a]; first | omega | (simp only []; omega),by rw [e1,a]; first | omega | (simp only []; omega),hlh,by rw [e2,b]; rfl⟩
theorem madeL_len (l:List Int):(madeL l).length=6:=by unfold madeL; simp
theorem late_append {P:Program} {w:World} {o:Oper} {a:Act} {K:Value->World->Prop} (s x:Operand) (t:TypeId)
 (ho:o.op = .call { callee:= .builtin .append,args:=#[s,x],argTypes:=#[t,t] })
 (base:Nat) (e:TypeId) (i:TypeInfo) (z:Value) (size bytes:Nat) (ht:P.underlying t=some (.slice e)) (hi:P.info? e=some i) (hz:i.zero=some z)
 (hsize:i.size=size) (hby:i.bytes=bytes) (hzs:z.cells.size=size) (hsz:0<size)
 (v:Value) (n:Nat) (xs:List Value) (hs:a.eval s=v) (hown:w.ownsRow base e size v n xs)
 (ad:Addr) (m c:Nat) (news:List Value) (hx:a.eval x = .slice (some ad) m c) (hl:news.length=m*size) (hnews:∀ j u,news[j]?=some u->w.cell? (ad.add j)=some u) (h1:∀ u∈news,u.oneCell'=true)
 (hm:0<m) (h63:n+m<=maxLen) (hbytes:(n+m)*bytes<=140737488355328) (hbase:base<=w.heap.size) (H:Nat) (hH:w.heap.size=H)
 (h:∀ g cap w',w'.ownsRow base e size (.slice (some ⟨g,0,none⟩) (n+m) cap) (n+m) (xs++news)->w.grownBy w' v.ownBlock->(v.ownBlock=some g\/g=H)->g<w'.heap.size->K (.slice (some ⟨g,0,none⟩) (n+m) cap) w'):lateOp P o a w K:=by
 obtain ⟨g,cap,w',hr,h2,h3,h4,h5⟩:=run_append_lies (P:=P) w t o.type base e i z size bytes ht hi hz hsize hby hzs hsz v n xs hown ad m c news hl hnews h1 hm h63 hbytes hbase H hH;unfold lateOp execOp;simp only [ho,resolve,invoke,builtin,Sem.run_bind,Sem.run_pure,Result.andThen_ok,List.map_toArray,List.map_cons,List.map_nil,hs,hx,hr,lateUpon];exact h g cap w' h2 h3 h4 h5
def appB (T:List Nat) (base n:Nat) (e:TypeId) (xs:List Value):EBS T where
 val p:= .slice (some ⟨p.1,0,none⟩) n p.2
 R p u:=p.1∉T/\u.ownsRow base e 1 (.slice (some ⟨p.1,0,none⟩) n p.2) n xs
 st _ _ _ h k:=⟨h.1,ownsRow_blk h.2 fun b hb hlt=>k.block b hlt (by cases hb; exact h.1)⟩
theorem appB_val {T:List Nat} {base n:Nat} {e:TypeId} {xs:List Value} {p:Nat×Nat}:(appB T base n e xs).val p = .slice (some ⟨p.1,0,none⟩) n p.2:=rfl
end Go.Proofs.YtflolbnnkbdmfaaGreat
