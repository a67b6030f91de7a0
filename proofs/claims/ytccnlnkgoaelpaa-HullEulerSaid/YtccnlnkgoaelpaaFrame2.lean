/- Numbers that came in. No condition. -/
import Derived.Test.YtccnlnkgoaelpaaRows
import Derived.WalkKit
import Derived.ProofKit
import Derived.OpenShut
import Derived.ShutString
import Derived.ChangeOld
import Derived.Below
import Derived.Test.YtccnlnkgoaelpaaDraw
namespace Go.Proofs.Ytccnlnkgoaelpaa
open Go.ChangeShapes Go.WideShapes Go.ChangeAt Go.RowKit

theorem own : ownKnob Try.prog.godebug = none := by kernel_rfl
theorem laidOut : laidOutB Try.prog = true := by kernel_rfl

section
variable {H : Type} {enc : TypeId × Value → H} {P : Program} {w : World} {base : Nat} {spare : Nat → Bool} {held : Bool}

/-- Whatever reads at type t is n ints of kind k. -/
def Flat (P : Program) (t : TypeId) (n : Nat) (k : IntKind) : Prop :=
  ∀ (H : Type) (enc : TypeId × Value → H) (w : World) (base : Nat) (spare : Nat → Bool) (held : Bool) (fuel : Nat) (cs : List Value) (x : DataW H × List MemPlace),
    DataW.trod enc P w base spare held fuel t cs = some x → cs.length = n ∧ ∀ i, i < n → ∃ m, cs[i]? = some (.int k m) ∧ (Lit.int k m).wf = true

theorem flat_int {t : TypeId} {k : IntKind} (ht : P.underlying t = some (.int k)) : Flat P t 1 k := by
  intro H enc w base spare held fuel cs x h
  obtain ⟨n, rfl, _, hw⟩ := DataW.trod_int ht h
  refine ⟨rfl, fun i hi => ?_⟩
  obtain rfl : i = 0 := by omega
  exact ⟨n, rfl, hw⟩
theorem flat_array {t e : TypeId} {c m : Nat} {k : IntKind} (ht : P.underlying t = some (.array c e)) (hm : P.cellsOf e = m) (hc : P.cellsOf t = c * m) (h0 : 0 < m) (he : Flat P e m k) : Flat P t (c * m) k := by
  intro H enc w base spare held fuel cs x h
  obtain ⟨xs, f, _, _, hlen, hxs, hat⟩ := DataW.trod_array ht h
  refine ⟨hlen.trans hc, fun i hi => ?_⟩
  have hq : i / m < c := Nat.div_lt_of_lt_mul (by rw [Nat.mul_comm]; exact hi)
  have h1 := hat (i / m) hq
  rw [hm] at h1
  have hx : xs[i / m]? = some (xs[i / m]'(by omega)) := List.getElem?_eq_getElem (by omega)
  rw [hx] at h1
  obtain ⟨_, h2⟩ := he _ _ _ _ _ _ _ _ _ h1
  obtain ⟨v, hv, hw⟩ := h2 (i % m) (Nat.mod_lt _ h0)
  refine ⟨v, ?_, hw⟩
  rw [List.getElem?_take_of_lt (Nat.mod_lt _ h0), List.getElem?_drop, Nat.mul_comm, Nat.div_add_mod] at hv
  exact hv
theorem flat_struct {t : TypeId} {fs : Array Field} {n : Nat} {k : IntKind} (ht : P.underlying t = some (.struct fs)) (hc : P.cellsOf t = n)
    (hcov : ∀ i, i < n → ∃ (j : Nat) (f : Field), fs[j]? = some f ∧ f.offset ≤ i ∧ i < f.offset + P.cellsOf f.type ∧ Flat P f.type (P.cellsOf f.type) k) : Flat P t n k := by
  intro H enc w base spare held fuel cs x h
  obtain ⟨xs, f, _, _, hlen, hxs, hat⟩ := DataW.trod_struct ht h
  refine ⟨hlen.trans hc, fun i hi => ?_⟩
  obtain ⟨j, f, hf, h1, h2, hfl⟩ := hcov i hi
  have h3 := hat j f hf
  have hj : j < fs.size := (Array.getElem?_eq_some_iff.1 hf).1
  have hx : xs[j]? = some (xs[j]'(by omega)) := List.getElem?_eq_getElem (by omega)
  rw [hx] at h3
  obtain ⟨_, h4⟩ := hfl _ _ _ _ _ _ _ _ _ h3
  obtain ⟨v, hv, hw⟩ := h4 (i - f.offset) (by omega)
  refine ⟨v, ?_, hw⟩
  rw [List.getElem?_take_of_lt (by omega), List.getElem?_drop, show f.offset + (i - f.offset) = i by omega] at hv
  exact hv

theorem ints_of {k : IntKind} : ∀ (cs : List Value), (∀ i, i < cs.length → ∃ m, cs[i]? = some (.int k m) ∧ (Lit.int k m).wf = true) → ∃ ms : List Int, cs = ms.map (Value.int k) ∧ ∀ m ∈ ms, (Lit.int k m).wf = true
  | [], _ => ⟨[], rfl, by simp⟩
  | c :: cs, h => by
    obtain ⟨m, hm, hw⟩ := h 0 (by simp)
    obtain ⟨ms, he, hws⟩ := ints_of cs (fun i hi => by simpa using h (i + 1) (by simp; omega))
    simp at hm
    refine ⟨m :: ms, by rw [he, hm]; rfl, ?_⟩
    intro x hx
    rcases List.mem_cons.1 hx with rfl | hx
    · exact hw
    · exact hws x hx
theorem okWide_arr {t : TypeId} {v : Value} {r : Reach} {b : Nat} {c : Nat} {e : TypeId} (ht : P.underlying t = some (.array c e)) (h : Value.okWide P w r b t v) : ∃ cs, v = .agg cs ∧ cs.size = P.cellsOf t := by
  simp only [Value.okWide, ht] at h
  obtain ⟨cs, h1, h2, _⟩ := h
  exact ⟨cs, h1, h2⟩
theorem open_flat {t : TypeId} {n : Nat} {k : IntKind} {v : Value} {cs : Array Value} {d : DataW H} {p : List MemPlace} (hf : Flat P t n k) (hv : v = .agg cs) (h : DataW.Trod enc P w base spare held t v d p) :
    ∃ ms : List Int, v = .agg (ms.map (Value.int k)).toArray ∧ ms.length = n ∧ ∀ m ∈ ms, (Lit.int k m).wf = true := by
  obtain ⟨fuel, h⟩ := h
  subst hv
  obtain ⟨h1, h2⟩ := hf _ _ _ _ _ _ _ _ _ h
  obtain ⟨ms, he, hw⟩ := ints_of cs.toList (fun i hi => h2 i (by simpa [Value.cells] using h1 ▸ hi))
  refine ⟨ms, ?_, ?_, hw⟩
  · rw [← he]
  · have : cs.toList.length = n := h1
    rw [he] at this; simpa using this
end
theorem i64_wf {n : Int} (h : (Lit.int .i64 n).wf = true) : I64 n := by
  simp [Lit.wf] at h
  exact h
/-- A slice of ints that came in. -/
theorem sliceI_of {W : World} {a : Option Addr} {len cap : Nat} {zs : List Int}
    (h : (a = none ∧ len = 0 ∧ cap = 0 ∧ zs = []) ∨ ∃ x, a = some x ∧ len ≤ cap ∧ cap ≤ maxLen ∧ zs.length = cap ∧ (∀ i, i < zs.length → W.cell? (x.add i) = some (.int .i64 (zs.getD i 0))) ∧ ∀ n ∈ zs, (Lit.int .i64 n).wf = true)
    : SliceI W a len (zs.take len) ∧ len ≤ cap ∧ cap ≤ 9223372036854775807 := by
  rcases h with ⟨rfl, rfl, rfl, rfl⟩ | ⟨x, rfl, hl, hm, hz, hc, _⟩
  · exact ⟨⟨rfl, by omega, fun h => absurd rfl h⟩, by omega, by omega⟩
  · unfold maxLen at hm
    refine ⟨⟨by simp; omega, by omega, fun hne => ?_⟩, hl, hm⟩
    have hpos : 0 < len := by
      rcases Nat.eq_zero_or_pos len with h | h
      · rw [h] at hne; simp at hne
      · exact h
    obtain ⟨b, off, spot⟩ := x
    have h0 := hc 0 (by omega)
    have hs : spot = none := by simpa [Addr.add] using World.cell?_spot h0
    subst hs
    refine ⟨b, off, rfl, ?_, fun i hi => ?_⟩
    · simp [Addr.add] at h0
      rcases Nat.lt_or_ge b W.heap.size with h | h
      · exact h
      · simp [World.cell?, Array.getElem?_eq_none h] at h0
    · have hi' : i < len := by simp at hi; omega
      have h1 := hc i (by omega)
      have e : (zs.take len).getD i 0 = zs.getD i 0 := by
        simp [List.getElem?_take_of_lt hi']
      rw [e, ← h1]
      by_cases h2 : i = 0
      · subst h2; simp [Addr.add]
      · simp [Addr.add, h2]
theorem flatVec : Flat Try.prog 31 3 .i64 :=
  flat_struct Try.underlying31 (by kernel_rfl) (fun i hi => by
    have h1 : Try.prog.cellsOf 3 = 1 := by kernel_rfl
    have hI := flat_int Try.underlying3
    match i, hi with
    | 0, _ => exact ⟨0, _, rfl, by simp, by simp [h1], by simpa [h1] using hI⟩
    | 1, _ => exact ⟨1, _, rfl, by simp, by simp [h1], by simpa [h1] using hI⟩
    | 2, _ => exact ⟨2, _, rfl, by simp, by simp [h1], by simpa [h1] using hI⟩)
theorem len3 {l : List Int} (h : l.length = 3) : ∃ a b c, l = [a, b, c] := by
  match l, h with
  | [a, b, c], _ => exact ⟨a, b, c, rfl⟩
theorem len9 {l : List Int} (h : l.length = 9) : ∃ a b c d e f g i j, l = [a, b, c, d, e, f, g, i, j] := by
  match l, h with
  | [a, b, c, d, e, f, g, i, j], _ => exact ⟨a, b, c, d, e, f, g, i, j, rfl⟩
end Go.Proofs.Ytccnlnkgoaelpaa
namespace Go.Proofs.Ytccnlnkgoaelpaa
open Go.RowKit
theorem u16_wf {n : Int} (h : (Lit.int .u16 n).wf = true) : 0 ≤ n ∧ n ≤ 65535 := by
  simp [Lit.wf] at h
  exact h
theorem u8_wf {n : Int} (h : (Lit.int .u8 n).wf = true) : 0 ≤ n ∧ n ≤ 255 := by
  simp [Lit.wf] at h
  exact h
theorem flatI64x3 : Flat Try.prog 97 3 .i64 := flat_array (c := 3) (m := 1) Try.underlying97 (by kernel_rfl) (by kernel_rfl) (by omega) (flat_int Try.underlying3)
theorem flatPlane : Flat Try.prog 33 4 .i64 :=
  flat_struct Try.underlying33 (by kernel_rfl) (fun i hi => by
    have h1 : Try.prog.cellsOf 3 = 1 := by kernel_rfl
    have h3 : Try.prog.cellsOf 31 = 3 := by kernel_rfl
    have hI := flat_int Try.underlying3
    have hV := flatVec
    match i, hi with
    | 0, _ => exact ⟨0, _, rfl, by simp, by simp [h3], by simpa [h3] using hV⟩
    | 1, _ => exact ⟨0, _, rfl, by simp, by simp [h3], by simpa [h3] using hV⟩
    | 2, _ => exact ⟨0, _, rfl, by simp, by simp [h3], by simpa [h3] using hV⟩
    | 3, _ => exact ⟨1, _, rfl, by simp, by simp [h1], by simpa [h1] using hI⟩)
theorem len4 {l : List Int} (h : l.length = 4) : ∃ a b c d, l = [a, b, c, d] := by
  match l, h with
  | [a, b, c, d], _ => exact ⟨a, b, c, d, rfl⟩
end Go.Proofs.Ytccnlnkgoaelpaa
