/- Makers for a region that draws: a slice of its own, and an append that must make a new row. -/
import Derived.ArgAppend
import Derived.Test.YtccnlnkgoaelpaaGenW
import Derived.Test.YtccnlnkgoaelpaaApp
import Derived.Test.YtccnlnkgoaelpaaHullQ
namespace Go.Proofs.Ytccnlnkgoaelpaa
open Go.RowKit Go.Shelf

def ownB (T : List Nat) (cs : Array Value) (val : Nat → Value) : EBS T where
  val p := val p.1
  R p u := p.1 ∉ T ∧ Own u p.1 cs
  st _ _ _ h k := ⟨h.1, h.2.upd k h.1⟩
theorem make_own {P : Program} {T : List Nat} {o : Oper} {A : Act} {u : World} {cs : Array Value} {e : TypeId} {val : Nat → Value} (hrun : (execOp A.eval o).run P u = .ok (.value (val u.heap.size)) (u.alloc (.cells cs e))) (hT : u.heap.size ∉ T) :
    lateOp P o A u (fun v' u' => ∃ p : Nat × Nat, v' = (ownB T cs val).val p ∧ u.heap.size ≤ p.1 ∧ p.1 < u'.heap.size ∧ Below u.heap.size u u' ∧ (ownB T cs val).R p u') := by
  unfold lateOp
  rw [hrun]
  exact ⟨(u.heap.size, 0), rfl, Nat.le_refl _, by simp, (Below.refl _ _).alloc (Nat.le_refl _) _, hT, Own.new rfl⟩
theorem row_upd {u u' : World} {base : Nat} {e : TypeId} {size : Nat} {v : Value} {n : Nat} {xs : List Value} (h : u.ownsRow base e size v n xs) (k : Upd [] u u') : u'.ownsRow base e size v n xs :=
  rowk_below h (Upd.below (Below.refl _ _) k (by simp))
/-- A new row: its place and its room. -/
def rowB (base n : Nat) (e : TypeId) (size : Nat) (xs : List Value) : EBS [] where
  val p := .slice (some ⟨p.1, 0, none⟩) n p.2
  R p u := u.ownsRow base e size (.slice (some ⟨p.1, 0, none⟩) n p.2) n xs
  st _ _ _ h k := row_upd h k
/-- An append of something to a slice without room. -/
theorem make_row {P : Program} {o : Oper} {A : Act} {u : World} (s x : Operand) (t e : TypeId) (i : TypeInfo) (z : Value) (size bytes base : Nat)
    (ho : o.op = .call { callee := .builtin .append, args := #[s, x], argTypes := #[t, t] })
    (ht : P.underlying t = some (.slice e)) (hi : P.info? e = some i) (hz : i.zero = some z) (hsize : i.size = size) (hby : i.bytes = bytes) (hzs : z.cells.size = size) (hsz : 0 < size)
    (p0 m c : Nat) (a : Addr) (hs : A.eval s = .slice (some ⟨p0, 0, none⟩) 0 0) (hx : A.eval x = .slice (some a) m c) (hm : 0 < m) (hmx : m ≤ 1000000000) (hbytes : m * bytes ≤ 140737488355328)
    (news : List Value) (hl : news.length = m * size) (hnews : ∀ j v, news[j]? = some v → u.cell? (a.add j) = some v) (hb : base ≤ u.heap.size) :
    lateOp P o A u (fun v' u' => ∃ p : Nat × Nat, v' = (rowB base m e size news).val p ∧ u.heap.size ≤ p.1 ∧ p.1 < u'.heap.size ∧ Below u.heap.size u u' ∧ (rowB base m e size news).R p u') := by
  obtain ⟨v', w', hr, hown, hg⟩ := run_append_arg_grows (P := P) u t o.type e i z size bytes ht hi hz hsize hby hzs hsz ⟨p0, 0, none⟩ 0 0 [] (by simp) (by simp) a m c news hl hnews (by omega) (by unfold maxLen; omega) (by rw [Nat.zero_add]; exact hbytes)
  rw [Nat.zero_add, List.nil_append] at hown
  obtain ⟨g, cap, rfl⟩ := ownsRow_pos' hown hm
  have hlt := hown.lt g rfl
  unfold lateOp execOp
  simp only [ho, resolve, invoke, builtin, Sem.run_bind, Sem.run_pure, Result.andThen_ok, List.map_toArray, List.map_cons, List.map_nil, hs, hx, hr, lateUpon]
  refine ⟨(g, cap), rfl, hlt.1, hlt.2, (Below.refl _ _).grown hg (Nat.le_refl _) (fun r e => by cases e), ?_⟩
  exact ⟨hown.1, hown.2.imp_right fun ⟨g, cap, cur, h1, h2, h3⟩ => ⟨g, cap, cur, h1, Nat.le_trans hb h2, h3⟩⟩
/-- An append of nothing. -/
theorem run_append_none {P : Program} (w : World) (t ty e : TypeId) (i : TypeInfo) (ht : P.underlying t = some (.slice e)) (hi : P.info? e = some i) (b n cap : Nat) (a : Addr) (c : Nat) (hn : n ≤ cap) :
    (Builtin.append_ #[t, t] ty #[.slice (some ⟨b, 0, none⟩) n cap, .slice (some a) 0 c]).run P w = .ok (.slice (some ⟨b, 0, none⟩) n cap) w := by
  have h := run_append_room_cells (P := P) w t ty e i ht hi b 0 n cap a 0 c [] (by simp) (by simp) (by simp) (by omega) (by simp) (by simp)
  simpa [World.setCells] using h
end Go.Proofs.Ytccnlnkgoaelpaa
