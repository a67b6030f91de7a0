import Derived.BigQuiet
import Derived.Lib.Hide
import Derived.Test.YtflgngjocgiojaaGreatProg
import Derived.WalkSpells
import Derived.WalkLawsBesides
set_option linter.all false
namespace Go.Proofs.YtflgngjocgiojaaGreat
open Go.RowKit
set_option maxHeartbeats 8000000
theorem aO {P:Prop} (h:P:=by omega):P:=h
theorem aS {P:Prop} (h:P:=by simp):P:=h
theorem aT {P:Prop} (h:P:=by simp; omega):P:=h
theorem aK {P:Prop} (h:P:=by kernel_rfl):P:=h
theorem Zx {α:Type} (a:α):∃ z,a=z:=⟨_,rfl⟩
abbrev Zh:=@Lib.hid
abbrev Zi:=@And.intro
abbrev Zr:=@Nat.le_refl
abbrev Zl:=@Nat.lt_of_lt_of_le
abbrev Zc:=@World.cell?_of_block
abbrev Zb:=@Below.refl
abbrev Zd:=@Calls.mono
abbrev Ze:=@List.getD_eq_getElem?_getD
abbrev Zs:=@Exists.intro
abbrev Zt:=@Array.getElem?_eq_some_iff
abbrev Zm:=@Nat.le_trans
structure After (B:Nat) (w:World) where
 u:World
 h:Below B w u
instance {B:Nat} {w:World}:Nonempty (After B w):=⟨⟨w,Zb _ _⟩⟩
theorem After.cell {B:Nat} {w:World} (x:After B w) (b i:Nat) (hb:b<B):x.u.cell? ⟨b,i,none⟩=w.cell? ⟨b,i,none⟩:=
 x.h.cell (p:=⟨b,i,none⟩) hb
theorem After.frozen {B:Nat} {w:World} (x:After B w) (b i:Nat) (hb:b<B):x.u.frozen? ⟨b,i,none⟩=w.frozen? ⟨b,i,none⟩:=
 x.h.frozen (p:=⟨b,i,none⟩) hb
theorem Below.hop {w u v:World} (h:Below w.heap.size w u) (k:Below u.heap.size u v):Below w.heap.size w v:=h.trans (k.mono h.size)
def Own (w:World) (b:Nat) (cs:Array Value):Prop:=∃ T,w.heap[b]?=some (.cells cs T (0,0))
theorem Own.lt {w:World} {b:Nat} {cs:Array Value} (h:Own w b cs):b<w.heap.size:=by
 obtain ⟨T,h⟩:=h;rcases Nat.lt_or_ge b w.heap.size with h1 | h1
 ·exact h1
 ·rw [Array.getElem?_eq_none h1] at h; cases h
theorem Own.cell {w:World} {b:Nat} {cs:Array Value} (h:Own w b cs) (i:Nat):w.cell? ⟨b,i,none⟩=cs[i]?:=by
 obtain ⟨T,h⟩:=h;exact cell_of_row w b i cs T (0,0) h
theorem Own.thaw {w:World} {b:Nat} {cs:Array Value} (h:Own w b cs) (i:Nat):w.frozen? ⟨b,i,none⟩=false:=by
 obtain ⟨T,h⟩:=h;simp [World.frozen?,h]
theorem Own.new {w:World} {b:Nat} {cs:Array Value} {T:TypeId} (h:b=w.heap.size):Own (w.alloc (.cells cs T)) b cs:=by
 subst h; exact ⟨T,heap_alloc_new w _⟩
theorem Own.of_block {w w':World} {b:Nat} {cs:Array Value} (h:Own w b cs) (hb:w'.heap[b]?=w.heap[b]?):Own w' b cs:=by
 obtain ⟨T,h⟩:=h;exact ⟨T,hb.trans h⟩
theorem Own.alloc {w:World} {b:Nat} {cs:Array Value} (h:Own w b cs) (o:Obj):Own (w.alloc o) b cs:=h.of_block (Below.heap_alloc w o b h.lt)
theorem Own.drew {w:World} {b:Nat} {cs:Array Value} (h:Own w b cs):Own w.drew b cs:=h
theorem Own.drewN {w:World} {b:Nat} {cs:Array Value} (h:Own w b cs) (n:Nat):Own (w.drewN n) b cs:=h
theorem Own.far {w:World} {b:Nat} {cs:Array Value} (h:Own w b cs) {p:Addr} (hp:b≠p.block) (x:Value):Own (w.setCell p x) b cs:=h.of_block (Below.heap_setCell w p x b hp)
theorem Own.below {w w':World} {b:Nat} {cs:Array Value} (h:Own w b cs) (hb:Below w.heap.size w w'):Own w' b cs:=h.of_block (hb.block b h.lt)
theorem Own.set {w:World} {b:Nat} {cs:Array Value} (h:Own w b cs) (i:Nat) (x:Value):Own (w.setCell ⟨b,i,none⟩ x) b (cs.setIfInBounds i x):=by
 obtain ⟨T,h⟩:=h;refine ⟨T,?_⟩;simp [World.setCell,Array.getElem?_modify,h]
theorem Own.eq {w:World} {b:Nat} {cs cs':Array Value} (h:Own w b cs) (e:cs=cs'):Own w b cs':=e ▸ h
theorem callv {P:Program} {f:FuncId} {args:Array Value} {w:World} {v v':Value} {R:World->Prop}
 (h:Calls P f args w fun r w'=>r = .returned v/\R w') (e:v=v'):Calls P f args w fun r w'=>r = .returned v'/\R w':=e ▸ h
theorem retC {P:Program} {fn:Func} {R:Ending->World->Prop} {a:Act} {w:World} {v:Value} {b:Nat} {cs:Array Value} (ho:Own w b cs)
 (hr:∀ w':World,(∀ i,w'.cell? ⟨b,i,none⟩=cs[i]?)->(results fn a.tmps).run P w' = .ok v w') (hd:a.defers=[]) (hR:R (.returned v) w):bodyPost P fn R .ret a w:=
 bodyPost_ret (hr w ho.cell) hd hR
theorem ret_bool {a b:Bool} (h:a=b):Ending.returned (.bool a) = .returned (.bool b):=by rw [h]
theorem ret_int {k:IntKind} {a b:Int} (h:a=b):Ending.returned (.int k a) = .returned (.int k b):=by rw [h]
abbrev nz2:Array Value:=#[.bool false,.slice none 0 0,.bool false,.slice none 0 0]
abbrev nz1:Array Value:=#[.bool false,.slice none 0 0]
abbrev nv2:Array Value:=#[.int .i64 0,.int .i64 0]
theorem TK:(∀ {α:Type} (n:Nat) (a:α) (l:List α),(a::l).take (n+1)=a::l.take n)/\(∀ {α:Type} (l:List α),l.take 0=[])/\(∀ {α:Type} (n:Nat) (a:α) (l:List α),(a::l).drop (n+1)=l.drop n)/\∀ {α:Type} (l:List α),l.drop 0=l:=
 ⟨fun _ _ _=>rfl,fun _=>rfl,fun _ _ _=>rfl,fun _=>rfl⟩
theorem LN:(∀ (a:Act) (d:Tmp) (v:Value),a.put (some d) v={ a with tmps:=a.tmps.setIfInBounds d v })/\(∀ (a:Act) (v:Value),a.put none v=a)/\(∀ (l:List Value) (i:Nat) (v:Value),l.toArray.setIfInBounds i v=(l.set i v).toArray)/\(∀ (x v:Value) (l:List Value),(x::l).set 0 v=v::l)/\∀ (x v:Value) (l:List Value) (n:Nat),(x::l).set (n+1) v=x::l.set n v:=
 ⟨fun _ _ _=>rfl,fun _ _=>rfl,fun _ _ _=>List.setIfInBounds_toArray ..,fun _ _ _=>rfl,fun _ _ _ _=>rfl⟩
theorem aOwn {P:Prop} (h:P:=by repeat' (first | ((refine Own.new ?_); (focus (first | rfl | omega | (simp; done) | (simp; omega)))) | assumption | refine Own.alloc ?_ _ | refine Own.drew ?_ | (refine Own.far ?_ ?_ _; rotate_left; (focus (first | rfl | omega | (simp; done) | (simp; omega)))))):P:=h
theorem qz {P:Prop} (h:P:=by
 repeat (go_big_quiet_step (fail))
 refine wpQuiet_nil ?_;exact rfl):P:=h
theorem pz1 {P:Prop} (h:P:=by
 apply Piece.mk
 ·intro f v hv hr hne;simp only [TK,Nat.reduceSub,Nat.reduceAdd];exact qz
 ·intro f; kernel_rfl
 ·intro f f' hf; kernel_rfl):P:=h
theorem pz2 {P:Prop} (h:P:=by
 apply Piece.mk
 ·intro f v hv hr hne;simp only [TK,Nat.reduceSub,Nat.reduceAdd]
  (try simp only [LN])
  (try simp only [VB4,numV,ratV])
  exact qz
 ·intro f; kernel_rfl
 ·intro f f' hf; first | (simp; done) | (simp at hf; simp [hf])):P:=h
theorem pz3 {P:Prop} (h:P:=by
 apply Piece.mk
 ·intro f v hv hr hne;simp only [TK,Nat.reduceSub,Nat.reduceAdd]
  (try simp only [LN])
  (try simp only [VB2,numV])
  exact qz
 ·intro f; kernel_rfl
 ·intro f f' hf; first | (simp; done) | (simp at hf; simp [hf])):P:=h
theorem pz4 {P:Prop} (h:P:=by
 apply Piece.mk
 ·intro f v hv hr hne;simp only [TK,Nat.reduceSub,Nat.reduceAdd]
  (try simp only [LN])
  (try simp only [VB3,numV,ratV])
  exact qz
 ·intro f; kernel_rfl
 ·intro f f' hf; first | (simp; done) | (simp at hf; simp [hf])):P:=h
theorem pz6 {P:Prop} (h:P:=by
 apply Piece.mk
 ·intro f v hv hr hne;simp only [TK,Nat.reduceSub,Nat.reduceAdd]
  (try simp only [LN])
  (try simp only [VB1])
  exact qz
 ·intro f; kernel_rfl
 ·intro f f' hf; first | (simp; done) | (simp at hf; simp [hf])):P:=h
theorem pz7 {P:Prop} (h:P:=by
 apply Piece.mk
 ·intro f v hv hr hne;simp only [TK,Nat.reduceSub,Nat.reduceAdd]
  (try simp only [LN])
  (try simp only [VB3])
  exact qz
 ·intro f; kernel_rfl
 ·intro f f' hf; first | (simp; done) | (simp at hf; simp [hf])):P:=h
theorem pz8 {P:Prop} (h:P:=by
 apply Piece.mk
 ·intro f v hv hr hne;simp only [TK,Nat.reduceSub,Nat.reduceAdd]
  (try simp only [LN])
  (try simp only [VB1,numCB_val])
  exact qz
 ·intro f; kernel_rfl
 ·intro f f' hf; first | (simp; done) | (simp at hf; simp [hf])):P:=h
theorem pz10 {P:Prop} (h:P:=by
 apply Piece.mk
 ·intro f v hv hr hne;simp only [TK,Nat.reduceSub,Nat.reduceAdd]
  (try simp only [LN])
  (try simp only [VB1,numCB_val,ratCB_val])
  exact qz
 ·intro f; kernel_rfl
 ·intro f f' hf; first | (simp; done) | (simp at hf; simp [hf])):P:=h
theorem pz11 {P:Prop} (h:P:=by
 apply Piece.mk
 ·intro f v hv hr hne;simp only [TK,Nat.reduceSub,Nat.reduceAdd]
  (try simp only [LN])
  (try simp only [ownB_val,upB_val])
  exact qz
 ·intro f; kernel_rfl
 ·intro f f' hf; first | (simp; done) | (simp at hf; simp [hf])):P:=h
theorem pz12 {P:Prop} (h:P:=by
 apply Piece.mk
 ·intro f v hv hr hne;simp only [TK,Nat.reduceSub,Nat.reduceAdd]
  (try simp only [LN])
  (try simp only [newB_val,numB_val])
  exact qz
 ·intro f; kernel_rfl
 ·intro f f' hf; first | (simp; done) | (simp at hf; simp [hf])):P:=h
theorem pz13 {P:Prop} (h:P:=by
 apply Piece.mk
 ·intro f v hv hr hne;simp only [TK,Nat.reduceSub,Nat.reduceAdd]
  (try simp only [LN])
  (try simp only [VB2])
  exact qz
 ·intro f; kernel_rfl
 ·intro f f' hf; first | (simp; done) | (simp at hf; simp [hf])):P:=h
theorem pz16 {P:Prop} (h:P:=by
 apply Piece.mk
 ·intro f v hv hr hne;simp only [TK,Nat.reduceSub,Nat.reduceAdd]
  (try simp only [LN])
  (try simp only [VB2,prodB_val,ratB_val])
  exact qz
 ·intro f; kernel_rfl
 ·intro f f' hf; first | (simp; done) | (simp at hf; simp [hf])):P:=h
theorem pz17 {P:Prop} (h:P:=by
 apply Piece.mk
 ·intro f v hv hr hne;simp only [TK,Nat.reduceSub,Nat.reduceAdd]
  (try simp only [LN])
  (try simp only [VB3,numV])
  exact qz
 ·intro f; kernel_rfl
 ·intro f f' hf; first | (simp; done) | (simp at hf; simp [hf])):P:=h
theorem pz18 {P:Prop} (h:P:=by
 apply Piece.mk
 ·intro f v hv hr hne;simp only [TK,Nat.reduceSub,Nat.reduceAdd]
  (try simp only [LN])
  (try simp only [rowNB_val])
  exact qz
 ·intro f; kernel_rfl
 ·intro f f' hf; first | (simp; done) | (simp at hf; simp [hf])):P:=h
theorem pz19 {P:Prop} (h:P:=by
 apply Piece.mk
 ·intro f v hv hr hne;simp only [TK,Nat.reduceSub,Nat.reduceAdd]
  (try simp only [LN])
  (try simp only [valB_val])
  exact qz
 ·intro f; kernel_rfl
 ·intro f f' hf; first | (simp; done) | (simp at hf; simp [hf])):P:=h
theorem pz21 {P:Prop} (h:P:=by
 apply Piece.mk
 ·intro f v hv hr hne;simp only [TK,Nat.reduceSub,Nat.reduceAdd]
  (try simp only [LN])
  (try simp only [VB1,numCB_val,numC])
  exact qz
 ·intro f; kernel_rfl
 ·intro f f' hf; first | (simp; done) | (simp at hf; simp [hf])):P:=h
theorem gA0 {P:Prop} (h:P:=by
 (try simp only [LN])
 go_simp):P:=h
theorem gA4 {P:Prop} (h:P:=by
 (try simp only [LN])
 (try simp only [VB4,numV,ratV])
 go_simp):P:=h
theorem gA3 {P:Prop} (h:P:=by
 (try simp only [LN])
 (try simp only [VB3,numV,ratV])
 go_simp):P:=h
theorem gA6 {P:Prop} (h:P:=by
 (try simp only [LN])
 (try simp only [VB3])
 go_simp):P:=h
theorem gA2 {P:Prop} (h:P:=by
 (try simp only [LN])
 (try simp only [VB2,numV])
 go_simp):P:=h
theorem gA1 {P:Prop} (h:P:=by
 (try simp only [LN])
 (try simp only [VB1])
 go_simp):P:=h
structure V3 where
 x:Int
 y:Int
 z:Int
structure Pl where
 n:V3
 b:Int
@[reducible] def vV (x y z : Int) : Value := .agg #[.int .i64 x, .int .i64 y, .int .i64 z]
@[reducible] def vP (x y z b : Int) : Value := .agg #[.int .i64 x, .int .i64 y, .int .i64 z, .int .i64 b]
@[reducible] def V3.v (a : V3) : Value := vV a.x a.y a.z
@[reducible] def Pl.v (p : Pl) : Value := vP p.n.x p.n.y p.n.z p.b
@[reducible] def I64 (n : Int) : Prop := -9223372036854775808 ≤ n ∧ n ≤ 9223372036854775807
structure V3.Ok (a:V3):Prop where
 x:I64 a.x
 y:I64 a.y
 z:I64 a.z
def ordI (a b:Int):Int:=if a<b then -1 else if b<a then 1 else 0
def Keeps (T:List Nat) (w u:World):Prop:=w.heap.size<=u.heap.size/\∀ b,b<w.heap.size->b∉T->u.heap[b]?=w.heap[b]?
theorem Keeps.refl (T:List Nat) (w:World):Keeps T w w:=⟨Zr _,fun _ _ _=>rfl⟩
theorem Keeps.of_below {T:List Nat} {w u:World} (h:Below w.heap.size w u):Keeps T w u:=⟨h.size,fun b hb _=>h.block b hb⟩
theorem Keeps.later {T:List Nat} {w u v:World} (h:Keeps T w u) (k:Below u.heap.size u v):Keeps T w v:=
 ⟨Zm h.1 k.size,fun b hb ht=>(k.block b (Zl hb h.1)).trans (h.2 b hb ht)⟩
theorem Keeps.alloc {T:List Nat} {w u:World} (h:Keeps T w u) (o:Obj):Keeps T w (u.alloc o):=
 h.later ((Zb _ _).alloc (Zr _) o)
theorem Keeps.set {T:List Nat} {w u:World} (h:Keeps T w u) {p:Addr} (hp:p.block∈T) (x:Value):Keeps T w (u.setCell p x):=
 ⟨by simpa [World.setCell] using h.1,fun b hb ht=>(Below.heap_setCell u p x b (fun e=>ht (e ▸ hp))).trans (h.2 b hb ht)⟩
theorem Keeps.new {T:List Nat} {w u:World} (h:Keeps T w u) {p:Addr} (hp:w.heap.size<=p.block) (x:Value):Keeps T w (u.setCell p x):=
 ⟨by simpa [World.setCell] using h.1,fun b hb ht=>(Below.heap_setCell u p x b aO).trans (h.2 b hb ht)⟩
structure Later (T:List Nat) (w v:World) where
 u:World
 h:Keeps T w u
 g:Below v.heap.size v u
@[reducible] def CL (T : List Nat) (w v : World) : World → Prop := fun w' => ∃ x : Later T w v, w' = x.u
theorem Later.cell {T:List Nat} {w v:World} (x:Later T w v) (b i:Nat) (hb:b<w.heap.size) (ht:b∉T):x.u.cell? ⟨b,i,none⟩=w.cell? ⟨b,i,none⟩:=
 Zc (w:=w) (a:=⟨b,i,none⟩) (x.h.2 b hb ht)
theorem Later.frozen {T:List Nat} {w v:World} (x:Later T w v) (b i:Nat) (hb:b<w.heap.size) (ht:b∉T):x.u.frozen? ⟨b,i,none⟩=w.frozen? ⟨b,i,none⟩:=
 World.frozen?_of_block (w:=w) (a:=⟨b,i,none⟩) (x.h.2 b hb ht)
theorem Later.row {T:List Nat} {w v:World} {b:Nat} {cs:Array Value} (h:∀ i,w.cell? ⟨b,i,none⟩=cs[i]?) (hb:b<w.heap.size) (ht:b∉T) :
 ∀ (x:Later T w v) i,x.u.cell? ⟨b,i,none⟩=cs[i]?:=fun x i=>(x.cell b i hb ht).trans (h i)
theorem Own.later {w v:World} {b:Nat} {cs:Array Value} (h:Own w b cs) {T:List Nat} (ht:b∉T) (x:Later T w v):Own x.u b cs:=
 h.of_block (x.h.2 b h.lt ht)
theorem Own.keeps {w u:World} {b:Nat} {cs:Array Value} (h:Own w b cs) {T:List Nat} (k:Keeps T w u) (ht:b∉T):Own u b cs:=
 h.of_block (k.2 b h.lt ht)
theorem lateB {P:Program} {f:FuncId} {args:Array Value} {T:List Nat} {w v:World} {x:Later T w v} {r:Value}
 (h:Calls P f args x.u fun e w'=>e = .returned r/\Below x.u.heap.size x.u w') :
 Calls P f args x.u fun e w'=>e = .returned r/\∃ y:Later T w v,w'=y.u:=
 h.mono fun _ w' ⟨he,hw⟩=>⟨he,⟨w',x.h.later hw,x.g.trans (hw.mono x.g.size)⟩,rfl⟩
theorem lateS {P:Program} {f:FuncId} {args:Array Value} {T:List Nat} {w v:World} {x:Later T w v} {r:Value}
 (h:Calls P f args x.u fun e w'=>e = .returned r/\x.u=w') :
 Calls P f args x.u fun e w'=>e = .returned r/\∃ y:Later T w v,w'=y.u:=
 h.mono fun _ _ ⟨he,hw⟩=>⟨he,x,hw.symm⟩
def lateUpon (P:Program) (K:Value->World->Prop):Result Next->Prop
 | .ok (.value v) w'=>K v w'
 | .ok .skip w'=>K undef w'
 | .ok (.enter f args) w'=>Calls P f args w' (fun e w''=>∃ v,e = .returned v/\K v w'')
 | _=>False
def lateOp (P:Program) (o:Oper) (a:Act) (w:World) (K:Value->World->Prop):Prop:=lateUpon P K ((execOp a.eval o).run P w)
attribute [go_sem] lateOp lateUpon
section
variable {P:Program} {ops:Array Oper} {n:Nat} {T:List Nat} {w:World} {Q:Exit->Act->World->Prop}
def dstOf (ops:Array Oper) (i:Nat):Option Tmp:=(ops[i]?).bind (·.dst)
theorem dstOf_some {i:Nat} {o:Oper} (h:ops[i]?=some o):dstOf ops i=o.dst:=by simp [dstOf,h]
def YSeq (P:Program) (ops:Array Oper) (C:World->Prop):List Nat->List Value->Act->Prop
 | [],[],_=>True
 | i::hs,v::vs,a=>(∃ o,ops[i]?=some o/\YieldsIn P ops C o v a)/\YSeq P ops C hs vs (a.put (dstOf ops i) v)
 | _,_,_=>False
def puts (ops:Array Oper):List Nat->List Value->Act->Act
 | i::hs,v::vs,a=>puts ops hs vs (a.put (dstOf ops i) v)
 | _,_,a=>a
def Apart (ops:Array Oper) (i j:Nat):Prop:=∀ oi oj,ops[i]?=some oi->ops[j]?=some oj->oi.apart ops oj=true
theorem yields_put {oi oj:Oper} {C:World->Prop} {v u:Value} {a:Act} (hap:oi.apart ops oj=true) (hs:∀ cs b,oj.op ≠ .select cs b) :
 YieldsIn P ops C oj v (a.put oi.dst u)↔YieldsIn P ops C oj v a:=by
 obtain ⟨h1,_,_⟩:=Oper.apart_spec hap;have e1:=execOp_put (ops:=ops) oj hs a oi.dst u h1;have e2:=wanted_put (ops:=ops) oj a oi.dst u h1;exact ⟨fun h=>h.of_same e1.symm e2.symm,fun h=>h.of_same e1 e2⟩
theorem yields_put' {oi oj:Oper} {C:World->Prop} {v u:Value} {a:Act} (hap:oi.apart ops oj=true) (hs:∀ cs b,oi.op ≠ .select cs b) :
 YieldsIn P ops C oi v (a.put oj.dst u)↔YieldsIn P ops C oi v a:=by
 obtain ⟨_,_,h1⟩:=Oper.apart_spec hap;have e1:=execOp_put (ops:=ops) oi hs a oj.dst u h1;have e2:=wanted_put (ops:=ops) oi a oj.dst u h1;exact ⟨fun h=>h.of_same e1.symm e2.symm,fun h=>h.of_same e1 e2⟩
theorem put_swap {i j:Nat} {oi oj:Oper} (hi:ops[i]?=some oi) (hj:ops[j]?=some oj) (hap:oi.apart ops oj=true) (a:Act) (v u:Value) :
 (a.put (dstOf ops i) v).put (dstOf ops j) u=(a.put (dstOf ops j) u).put (dstOf ops i) v:=by
 rw [dstOf_some hi,dstOf_some hj];exact Act.put_comm a v u (Oper.apart_spec hap).2.1
theorem yseq_pull {C:World->Prop} (hsel:∀ (j:Nat) (o:Oper) cs b,ops[j]?=some o->o.op ≠ .select cs b) {j:Nat} {post:List Nat} {vj:Value} {vpost:List Value} :
 ∀ (pre:List Nat) (vpre:List Value) (a:Act),pre.length=vpre.length->(∀ i∈pre,Apart ops i j) ->
  YSeq P ops C (pre++j::post) (vpre++vj::vpost) a ->
  YSeq P ops C (j::(pre++post)) (vj::(vpre++vpost)) a/\puts ops (pre++j::post) (vpre++vj::vpost) a=puts ops (j::(pre++post)) (vj::(vpre++vpost)) a
 | [],[],a,_,_,h=>⟨h,rfl⟩
 | i::pre,v::vpre,a,hl,hap,h=>by
  obtain ⟨⟨oi,hoi,hyi⟩,h2⟩:=h;obtain ⟨h3,h4⟩:=yseq_pull hsel pre vpre _ (by simpa using hl) (fun k hk=>hap k (List.mem_cons_of_mem _ hk)) h2;obtain ⟨⟨oj,hoj,hyj⟩,h5⟩:=h3;have ha:=hap i (List.mem_cons_self) oi oj hoi hoj;have hsw:=put_swap hoi hoj ha a v vj;refine ⟨⟨⟨oj,hoj,?_⟩,⟨oi,hoi,?_⟩,?_⟩,?_⟩
  ·rw [dstOf_some hoi] at hyj;exact (yields_put ha (fun cs b=>hsel j oj cs b hoj)).1 hyj
  ·rw [dstOf_some hoj];exact (yields_put' ha (fun cs b=>hsel i oi cs b hoi)).2 hyi
  ·rw [<- hsw]; exact h5
  ·simp only [List.cons_append,puts] at h4 ⊢;rw [h4,hsw]
theorem yseq_put {C:World->Prop} (hsel:∀ (j:Nat) (o:Oper) cs b,ops[j]?=some o->o.op ≠ .select cs b) {t:Nat} {ot:Oper} (ht:ops[t]?=some ot) {x:Value} :
 ∀ (hs:List Nat) (vs:List Value) (a:Act),(∀ i∈hs,Apart ops i t)->YSeq P ops C hs vs a ->
  YSeq P ops C hs vs (a.put (dstOf ops t) x)
 | [],[],_,_,_=>trivial
 | i::hs,v::vs,a,hap,h=>by
  obtain ⟨⟨oi,hoi,hyi⟩,h2⟩:=h;have ha:=hap i (List.mem_cons_self) oi ot hoi ht;refine ⟨⟨oi,hoi,?_⟩,?_⟩
  ·rw [dstOf_some ht];exact (yields_put' ha (fun cs b=>hsel i oi cs b hoi)).2 hyi
  ·rw [<- put_swap hoi ht ha];exact yseq_put hsel ht hs vs _ (fun k hk=>hap k (List.mem_cons_of_mem _ hk)) h2
theorem puts_put {t:Nat} {ot:Oper} (ht:ops[t]?=some ot) {x:Value} :
 ∀ (hs:List Nat) (vs:List Value) (a:Act),(∀ i∈hs,(∃ o,ops[i]?=some o)/\Apart ops i t) ->
  puts ops hs vs (a.put (dstOf ops t) x)=(puts ops hs vs a).put (dstOf ops t) x
 | [],_,_,_=>by simp [puts]
 | _::_,[],_,_=>by simp [puts]
 | i::hs,v::vs,a,hap=>by
  obtain ⟨⟨oi,hoi⟩,h1⟩:=hap i (List.mem_cons_self);simp only [puts];rw [<- put_swap hoi ht (h1 oi ot hoi ht)];exact puts_put ht hs vs _ (fun k hk=>hap k (List.mem_cons_of_mem _ hk))
theorem exec_puts {o:Oper} (hs0:∀ cs b,o.op ≠ .select cs b) {t:Nat} (ht:ops[t]?=some o) :
 ∀ (hs:List Nat) (vs:List Value) (a:Act),(∀ i∈hs,(∃ o,ops[i]?=some o)/\Apart ops i t)->execOp (puts ops hs vs a).eval o=execOp a.eval o
 | [],_,_,_=>by simp [puts]
 | _::_,[],_,_=>by simp [puts]
 | i::hs,v::vs,a,hap=>by
  obtain ⟨⟨oi,hoi⟩,h1⟩:=hap i (List.mem_cons_self);simp only [puts];rw [exec_puts hs0 ht hs vs _ (fun k hk=>hap k (List.mem_cons_of_mem _ hk)),dstOf_some hoi];exact execOp_put (ops:=ops) o hs0 a oi.dst v (Oper.apart_spec (h1 oi o hoi ht)).1
theorem wp_of_late {o:Oper} {a:Act} {u:World} {K:Value->World->Prop} {K':Act->World->Prop} (h:lateOp P o a u K) (hk:∀ v u',K v u'->K' (a.put o.dst v) u'):o.wp P a u K' Q:=by
 unfold lateOp at h;unfold Oper.wp;generalize (execOp a.eval o).run P u=r at *;cases r with
 | ok x u' =>
  cases x <;> simp only [lateUpon] at h <;> simp only [Oper.upon]
  case value v=>exact hk _ _ h
  case skip=>exact hk _ _ h
  case enter f args=>exact h.mono fun e u'' ⟨v,he,hv⟩=>by subst he; exact hk _ _ hv
 | halt x u'=>simp only [lateUpon] at h
structure Fit (ops:Array Oper) (n e:Nat):Prop where
 sel:∀ (j:Nat) (o:Oper) cs b,ops[j]?=some o->o.op ≠ .select cs b
 back:∀ (j:Nat) (o:Oper),ops[j]?=some o->∀ e∈o.after,Region.binds .any e=true->e.on<j
 free:∀ (i j:Nat) (oi oj:Oper),(i<n\/e<=i)->i<j->ops[i]?=some oi->ops[j]?=some oj->(∀ e∈oj.after,Region.binds .any e=true->e.on≠i)->oi.apart ops oj=true
 behind:∀ (i j:Nat) (oi oj:Oper),e<=i->n<=j->j<e->ops[i]?=some oi->ops[j]?=some oj->oi.apart ops oj=true
 chain:∀ (j:Nat) (o:Oper),n<j->j<e->ops[j]?=some o->∃ e∈o.after,Region.binds .any e=true/\e.on=j - 1
 bare:∀ (j:Nat) (o:Oper),n<=j->j<e->ops[j]?=some o->o.guard=none
def apartFrom (l:List Oper) (i j:Nat):Bool:=
 match l[i]?,l[j]? with
 | some oi,some oj=>(oj.after.any fun e=>Region.binds .any e&&e.on==i) || oi.apart l.toArray oj
 | _,_=>true
def lateFit (l:List Oper) (n m:Nat):Bool:=
 Region.noSelect l.toArray&&(l.zipIdx.all fun x=>x.1.after.all fun e=>!Region.binds .any e || decide (e.on<x.2)) &&
 ((List.range l.length).all fun i=>(decide (n<=i)&&decide (i<n+m)) || (List.range l.length).all fun j=>decide (j<=i) || apartFrom l i j) &&
 ((List.range l.length).all fun i=>decide (i<n+m) || (List.range m).all fun j=>match l[i]?,l[n+j]? with | some oi,some oj=>oi.apart l.toArray oj | _,_=>true) &&
 (l.zipIdx.all fun x=>decide (x.2<=n) || decide (n+m<=x.2) || x.1.after.any fun e=>Region.binds .any e&&e.on==x.2 - 1) &&
 (((l.drop n).take m).all fun o=>o.guard.isNone)&&decide (n+m<=l.length)
theorem mem_zipIdx_of {l:List Oper} {j:Nat} {o:Oper} (h:l[j]?=some o):(o,j)∈l.zipIdx:=by
 rw [List.mem_zipIdx_iff_getElem?];exact h
theorem fit_of {m:Nat} {l:List Oper} (h:lateFit l n m=true):Fit l.toArray n (n+m):=by
 simp only [lateFit,Bool.and_eq_true] at h;obtain ⟨⟨⟨⟨⟨⟨h1,h2⟩,h3⟩,h3b⟩,h4⟩,h5⟩,hlen⟩:=h;refine ⟨fun j o cs b ho=>Region.noSelect_spec h1 j o cs b ho,fun j o ho e he hb=>?_,fun i j oi oj hi hij hoi hoj hno=>?_,fun i j oi oj hi hj hje hoi hoj=>?_,fun j o hj hje ho=>?_,fun j o hj hje ho=>?_⟩
 ·have h6:=List.all_eq_true.1 h2 _ (mem_zipIdx_of (by simpa using ho));have h7:=Array.all_eq_true'.1 h6 e he;simpa [hb] using h7
 ·have hil:i<l.length:=by
   have:=(Zt.1 hoi).1; simpa using this
  have hjl:j<l.length:=by
   have:=(Zt.1 hoj).1; simpa using this
  have h5':=List.all_eq_true.1 h3 i (List.mem_range.2 hil);simp only [Bool.or_eq_true,Bool.and_eq_true,decide_eq_true_eq] at h5';rcases h5' with h5' | h5'
  ·omega
  have h6:=List.all_eq_true.1 h5' j (List.mem_range.2 hjl);have e1:l[i]?=some oi:=by simpa using hoi
  have e2:l[j]?=some oj:=by simpa using hoj
  simp only [apartFrom,e1,e2,Bool.or_eq_true,decide_eq_true_eq] at h6;rcases h6 with h6 | h6 | h6
  ·omega
  ·obtain ⟨e,he,hb⟩:=Array.any_eq_true'.1 h6;simp only [Bool.and_eq_true,beq_iff_eq] at hb;exact absurd hb.2 (hno e he hb.1)
  ·exact h6
 ·have hil:i<l.length:=by
   have:=(Zt.1 hoi).1; simpa using this
  have h6:=List.all_eq_true.1 h3b i (List.mem_range.2 hil);simp only [Bool.or_eq_true,decide_eq_true_eq] at h6;rcases h6 with h6 | h6
  ·omega
  have h7:=List.all_eq_true.1 h6 (j - n) (List.mem_range.2 aO);have e1:l[i]?=some oi:=by simpa using hoi
  have e2:l[n+(j - n)]?=some oj:=by rw [show n+(j - n)=j by omega]; simpa using hoj
  simpa only [e1,e2] using h7
 ·have h6:=List.all_eq_true.1 h4 _ (mem_zipIdx_of (by simpa using ho));simp only [Bool.or_eq_true,decide_eq_true_eq] at h6;rcases h6 with (h6 | h6) | h6
  ·omega
  ·omega
  ·obtain ⟨e,he,hb⟩:=Array.any_eq_true'.1 h6;simp only [Bool.and_eq_true,beq_iff_eq] at hb;exact ⟨e,he,hb.1,hb.2⟩
 ·have h6:o∈(l.drop n).take m:=by
   rw [List.mem_iff_getElem?];exact ⟨j - n,by rw [List.getElem?_take_of_lt aO,List.getElem?_drop,show n+(j - n)=j by omega]; simpa using ho⟩
  have:=List.all_eq_true.1 h5 o h6;simpa using this
def placesFit (l:List Oper) (size:Nat):Bool:=
 l.all (fun o=>match o.dst with | some d=>decide (d<size) | none=>false)&&decide (l.map (·.dst)).Nodup
theorem put_get {a:Act} {d:Tmp} {v:Value} (h:d<a.tmps.size):(a.put (some d) v).tmps.getD d undef=v:=by
 simp [Act.put,h]
theorem put_other {a:Act} {d e:Tmp} {v:Value} (h:e≠d):(a.put (some e) v).tmps.getD d undef=a.tmps.getD d undef:=by
 simp [Act.put,Array.getElem?_setIfInBounds_ne h]
theorem put_size (a:Act) (d:Option Tmp) (v:Value):(a.put d v).tmps.size=a.tmps.size:=by
 cases d <;> simp [Act.put]
theorem quiet_get {C:World->Prop} {A:Act} {d:Tmp}:∀ (l:List Oper) (a:Act),(∀ o∈l,o.dst≠some d)->wpQuiet P ops C (fun a'=>a'=A) l a->A.tmps.getD d undef=a.tmps.getD d undef
 | [],a,_,h=>by rw [show a=A from h]
 | o::l,a,hd,h=>by
  have hne:=hd o (List.mem_cons_self);have key:∀ v,wpQuiet P ops C (fun a'=>a'=A) l (a.put o.dst v)->A.tmps.getD d undef=a.tmps.getD d undef:=fun v h'=>by
   rw [quiet_get l _ (fun o' ho'=>hd o' (List.mem_cons_of_mem _ ho')) h'];cases ho:o.dst with
   | none=>rfl
   | some e=>exact put_other (fun h=>hne (by rw [ho,h]))
  unfold wpQuiet at h;split at h
  ·obtain ⟨v,_,h'⟩:=h; exact key v h'
  ·exact key _ h
theorem yseq_of_quiet {C:World->Prop} {A:Act}:∀ (l:List Oper) (is:List Nat) (a:Act),l.length=is.length->(∀ (j i:Nat),is[j]?=some i->l[j]?=ops[i]?) ->
 (∀ o∈l,∃ d,o.dst=some d/\d<a.tmps.size)->(l.map (·.dst)).Nodup->wpQuiet P ops C (fun a'=>a'=A) l a ->
 YSeq P ops C is (l.map fun o=>A.tmps.getD (o.dst.getD 0) undef) a/\puts ops is (l.map fun o=>A.tmps.getD (o.dst.getD 0) undef) a=A
 | [],[],_,_,_,_,_,h=>⟨trivial,h⟩
 | o::l,k::is,a,hlen,hl,hd,hnd,h=>by
  have h0:ops[k]?=some o:=by simpa using (hl 0 k rfl).symm
  obtain ⟨d,hod,hds⟩:=hd o (List.mem_cons_self);simp only [List.map_cons,List.nodup_cons] at hnd;have hq:qOp P ops C k (wpQuiet P ops C (fun a'=>a'=A) l) a:=by unfold qOp; simp only [h0]; exact h
  obtain ⟨v,hy,hK⟩:=yieldsIn_of_qOp h0 hq;have hv:A.tmps.getD d undef=v:=by
   rw [quiet_get l _ (fun o' ho' h'=>hnd.1 (by rw [hod,<- h']; exact List.mem_map_of_mem ho')) hK,hod];exact put_get hds
  have h1:=yseq_of_quiet l is (a.put o.dst v) (by simpa using hlen) (fun j i hj=>by simpa using hl (j+1) i (by simpa using hj))
   (fun o' ho'=>by rw [put_size]; exact hd o' (List.mem_cons_of_mem _ ho')) hnd.2 hK
  simp only [List.map_cons,YSeq,puts];rw [hod,Option.getD_some,hv,dstOf_some h0];exact ⟨⟨⟨o,h0,hy⟩,h1.1⟩,h1.2⟩
end
structure Upd (T:List Nat) (w w':World):Prop where
 os:w'.os=w.os
 tape:w'.tape=w.tape
 output:w'.output=w.output
 size:w.heap.size<=w'.heap.size
 block:∀ b,b<w.heap.size->b∉T->w'.heap[b]?=w.heap[b]?
theorem Upd.refl (T:List Nat) (w:World):Upd T w w:=⟨rfl,rfl,rfl,Zr _,fun _ _ _=>rfl⟩
theorem Upd.trans {T:List Nat} {a b c:World} (h:Upd T a b) (k:Upd T b c):Upd T a c:=
 ⟨k.os.trans h.os,k.tape.trans h.tape,k.output.trans h.output,Zm h.size k.size,fun i hi ht=>(k.block i (Zl hi h.size) ht).trans (h.block i hi ht)⟩
theorem Upd.of_below {T:List Nat} {w w':World} (h:Below w.heap.size w w'):Upd T w w':=⟨h.os,h.tape,h.output,h.size,fun b hb _=>h.block b hb⟩
theorem Upd.drewN {T:List Nat} {a w:World} (h:Upd T a w) (n:Nat):Upd T a (w.drewN n):=⟨h.os,h.tape,h.output,h.size,h.block⟩
theorem Upd.drew {T:List Nat} {a w:World} (h:Upd T a w):Upd T a w.drew:=⟨h.os,h.tape,h.output,h.size,h.block⟩
theorem Upd.alloc {T:List Nat} {a w:World} (h:Upd T a w) (o:Obj):Upd T a (w.alloc o):=
 h.trans (.of_below ((Zb _ _).alloc (Zr _) o))
theorem Upd.set {T:List Nat} {a w:World} (h:Upd T a w) {p:Addr} (hp:p.block∈T) (x:Value):Upd T a (w.setCell p x):=
 h.trans ⟨rfl,rfl,rfl,by simp [World.setCell],fun b hb ht=>Below.heap_setCell _ _ _ _ (fun e=>ht (e ▸ hp))⟩
theorem Upd.hop {T:List Nat} {a b c:World} (h:Upd T a b) (k:Below b.heap.size b c):Upd T a c:=h.trans (.of_below k)
theorem Upd.below {T:List Nat} {w v v':World} (k:Below w.heap.size w v) (h:Upd T v v') (ht:∀ b∈T,w.heap.size<=b):Below w.heap.size w v':=
 k.trans ⟨h.os,h.tape,h.output,h.size,fun b hb=>h.block b (Zl hb k.size) (fun hm=>by have:=ht b hm; omega)⟩
theorem Own.upd {T:List Nat} {w w':World} {b:Nat} {cs:Array Value} (h:Own w b cs) (k:Upd T w w') (ht:b∉T):Own w' b cs:=h.of_block (k.block b h.lt ht)
section
variable {P:Program} {ops:Array Oper} {T:List Nat} {w:World} {Q:Exit->Act->World->Prop}
def wpChain (P:Program) (T:List Nat) (w:World) (Q:Act->World->Prop):List Oper->Act->World->Prop
 | [],A,u=>Q A u
 | o::os,A,u=>lateOp P o A u (fun v u'=>Keeps T w u'/\∀ u'',Below u'.heap.size u' u''->wpChain P T w Q os (A.put o.dst v) u'')
structure ME where
 j:Nat
 o:Oper
 obj:Obj
 val:Nat->Value
def putM:List ME->(Nat->Nat)->Act->Act
 | [],_,A=>A
 | m::ms,f,A=>putM ms f (A.put m.o.dst (m.val (f m.j)))
def AMem (P:Program) (T:List Nat) (w:World) (Q:Act->World->Prop) (ls:List Oper) (ms:List ME) (A:Act) (u:World):Prop:=
 ∀ (f:Nat->Nat) (u':World),Below u.heap.size u u'->(∀ m∈ms,u.heap.size<=f m.j/\u'.heap[f m.j]?=some m.obj)->(ms.map fun m=>f m.j).Nodup->wpChain P T w Q ls (putM ms f A) u'
theorem AMem.later {ls:List Oper} {ms:List ME} {A:Act} {u v:World} {Q:Act->World->Prop} (h:AMem P T w Q ls ms A u) (hv:Below u.heap.size u v):AMem P T w Q ls ms A v:=
 fun f u' hu hm hn=>h f u' (hv.trans (hu.mono hv.size)) (fun m hm'=>⟨Zm hv.size (hm m hm').1,(hm m hm').2⟩) hn
structure Fit2 (ops:Array Oper) (n k m:Nat):Prop where
 sel:∀ (j:Nat) (o:Oper) cs b,ops[j]?=some o->o.op ≠ .select cs b
 back:∀ (j:Nat) (o:Oper),ops[j]?=some o->∀ e∈o.after,Region.binds .any e=true->e.on<j
 free:∀ (i j:Nat) (oi oj:Oper),(i<n\/(n+k<=i/\i<n+k+m))->i<j->ops[i]?=some oi->ops[j]?=some oj->(∀ e∈oj.after,Region.binds .any e=true->e.on≠i)->oi.apart ops oj=true
 behind:∀ (i j:Nat) (oi oj:Oper),n+k<=i->i<n+k+m->n<=j->j<n+k->ops[i]?=some oi->ops[j]?=some oj->oi.apart ops oj=true
 memApart:∀ (i j:Nat) (oi oj:Oper),n<=i->i<n+k->n<=j->j<n+k->i≠j->ops[i]?=some oi->ops[j]?=some oj->oi.apart ops oj=true
 chain:∀ (j:Nat) (o:Oper),n+k+m<j->ops[j]?=some o->∃ e∈o.after,Region.binds .any e=true/\e.on=j - 1
 memChain:∀ (o:Oper),ops[n+k+m]?=some o->∀ i,n<=i->i<n+k->∃ e∈o.after,Region.binds .any e=true/\e.on=i
 bare:∀ (j:Nat) (o:Oper),((n<=j/\j<n+k)\/n+k+m<=j)->ops[j]?=some o->o.guard=none
end
end Go.Proofs.YtflgngjocgiojaaGreat
