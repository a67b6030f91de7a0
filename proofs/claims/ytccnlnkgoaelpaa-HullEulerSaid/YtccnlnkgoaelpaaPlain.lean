/- Plain functions on numbers and vectors: what the functions of package plane compute. No program in sight; no condition. -/
import Derived.WalkKit
import Derived.Laws.Closers25
namespace Go.Proofs.Ytccnlnkgoaelpaa
open Go.RowKit

structure V3 where
  x : Int
  y : Int
  z : Int
structure Pl where
  n : V3
  b : Int

@[reducible] def vV (x y z : Int) : Value := .agg #[.int .i64 x, .int .i64 y, .int .i64 z]
@[reducible] def vP (x y z b : Int) : Value := .agg #[.int .i64 x, .int .i64 y, .int .i64 z, .int .i64 b]
@[reducible] def V3.v (a : V3) : Value := vV a.x a.y a.z
@[reducible] def Pl.v (p : Pl) : Value := vP p.n.x p.n.y p.n.z p.b

/-- A number is an int64. -/
@[reducible] def I64 (n : Int) : Prop := -9223372036854775808 ≤ n ∧ n ≤ 9223372036854775807
structure V3.Ok (a : V3) : Prop where
  x : I64 a.x
  y : I64 a.y
  z : I64 a.z

def inB (m n : Int) : Bool := decide (-m ≤ n) && decide (n ≤ m)
def vIn (a : V3) : Bool := inB 24 a.x && (inB 24 a.y && inB 24 a.z)
def vAdd (a b : V3) : V3 := ⟨wrap64 (a.x + b.x), wrap64 (a.y + b.y), wrap64 (a.z + b.z)⟩
def vSub (a b : V3) : V3 := ⟨wrap64 (a.x - b.x), wrap64 (a.y - b.y), wrap64 (a.z - b.z)⟩
def vDot (a b : V3) : Int := wrap64 (wrap64 (wrap64 (a.x * b.x) + wrap64 (a.y * b.y)) + wrap64 (a.z * b.z))
def vCross (a b : V3) : V3 :=
  ⟨wrap64 (wrap64 (a.y * b.z) - wrap64 (a.z * b.y)), wrap64 (wrap64 (a.z * b.x) - wrap64 (a.x * b.z)), wrap64 (wrap64 (a.x * b.y) - wrap64 (a.y * b.x))⟩
def iabs (n : Int) : Int := if n < 0 then wrap64 (-n) else n
def ordI (a b : Int) : Int := if a < b then -1 else if b < a then 1 else 0
def sgn (n : Int) : Int := if n < 0 then -1 else 1
/-- The greatest common divisor of the components; 0 if one has no absolute value. -/
def gcdL : List Int → Nat → Nat
  | [], g => g
  | n :: l, g => gcdL l (Nat.gcd g n.natAbs)
def minI (n : Int) : Bool := n == -9223372036854775808
def divL (l : List Int) : Int := if l.any minI then 0 else (gcdL l 0 : Nat)
def vGcd (a : V3) : Int := if minI a.x || (minI a.y || minI a.z) then 0 else (Nat.gcd (Nat.gcd a.x.natAbs a.y.natAbs) a.z.natAbs : Nat)
def vDiv (a : V3) (g : Int) : V3 := ⟨wrap64 (a.x.tdiv g), wrap64 (a.y.tdiv g), wrap64 (a.z.tdiv g)⟩
def vPrim (a : V3) : V3 := if vGcd a = 0 then ⟨0, 0, 0⟩ else vDiv a (vGcd a)
def pValid (p : Pl) : Bool := (inB 4608 p.n.x && (inB 4608 p.n.y && inB 4608 p.n.z)) && ((vGcd p.n == 1) && inB 2097152 p.b)
def okThrough (a b c : V3) : Bool := vIn a && (vIn b && (vIn c && !(vGcd (vCross (vSub b a) (vSub c a)) == 0)))
def pThrough (a b c : V3) : Pl := if okThrough a b c then ⟨vPrim (vCross (vSub b a) (vSub c a)), vDot (vPrim (vCross (vSub b a) (vSub c a))) a⟩ else ⟨⟨0, 0, 0⟩, 0⟩
def pSide (p : Pl) (v : V3) : Int := if pValid p && vIn v then ordI (vDot p.n v) p.b else 0
def pFlip (p : Pl) : Pl := ⟨vSub ⟨0, 0, 0⟩ p.n, wrap64 (-p.b)⟩
def okPush (p : Pl) (by_ : Int) : Bool := pValid p && (inB 4194304 by_ && inB 2097152 (wrap64 (p.b + by_)))
def pPush (p : Pl) (by_ : Int) : Pl := if okPush p by_ then ⟨p.n, wrap64 (p.b + by_)⟩ else ⟨⟨0, 0, 0⟩, 0⟩
def vReach (n e : V3) : Int := wrap64 (wrap64 (wrap64 (iabs n.x * e.x) + wrap64 (iabs n.y * e.y)) + wrap64 (iabs n.z * e.z))
/-- The order by the first difference. -/
def cmpL : List (Int × Int) → Int
  | [] => 0
  | (a, b) :: l => if a = b then cmpL l else ordI a b
def pCompare (p q : Pl) : Int := cmpL [(p.n.x, q.n.x), (p.n.y, q.n.y), (p.n.z, q.n.z), (p.b, q.b)]
theorem wrap_tdiv {x d : Int} (hx : I64 x) (hd : 1 ≤ d) : wrap64 (x.tdiv d) = x.tdiv d :=
  (IntWalk.i64_left _).symm.trans (wrap_i64_tdiv x d hx.1 hx.2 hd)
end Go.Proofs.Ytccnlnkgoaelpaa
