/-
  THE ARGUMENTS of the statements, as the form hands them over: arrays of bytes, numbers, slices.
-/
import Derived.Test.YtjjkndbkjnfimaaRows
import Derived.Test.YtjjkndbkjnfimaaBase
import Derived.ProofKit
import Derived.OpenShut
import Derived.ShutString
import Derived.ChangeOld
import Derived.Below
namespace Go.Proofs.Ytjjkndbkjnfimaa
set_option linter.unusedSimpArgs false
set_option linter.unusedVariables false
open Go.ChangeShapes Go.WideShapes Go.ChangeAt Go.RowKit

theorem own : ownKnob Try.prog.godebug = none := by kernel_rfl
theorem laidOut : laidOutB Try.prog = true := by kernel_rfl

theorem cell_u8 {P : Program} {w : World} {r : Reach} {base : Nat} {e : TypeId} {v : Value} (he : P.underlying e = some (.int .u8)) (h : Cell.okWide P w r base e v) : ∃ x : UInt8, v = B x := by
  cases v with
  | int k n =>
    simp only [Cell.okWide, he, Cell.ok] at h
    obtain ⟨rfl, h0, h1⟩ := h
    simp [IntKind.min, IntKind.max, IntKind.signed, IntKind.bits] at h0 h1
    refine ⟨UInt8.ofNat n.toNat, ?_⟩
    unfold B
    rw [UInt8.toNat_ofNat']
    congr 1
    omega
  | _ => simp [Cell.okWide, he, Cell.ok] at h

/-- An array of m bytes. -/
theorem okWide_bytes {P : Program} {w : World} {r : Reach} {base : Nat} {t e : TypeId} {m : Nat} {v : Value} (hu : P.underlying t = some (.array m e)) (he : P.underlying e = some (.int .u8))
    (hc : P.cellsOf t = m) (hts : P.cellTypes P.depth t = some (List.replicate m e)) (h : Value.okWide P w r base t v) : ∃ l : List UInt8, l.length = m ∧ v = agg l := by
  simp only [Value.okWide, hu] at h
  obtain ⟨cs, rfl, hs, ts, hts', _, hall⟩ := h
  rw [hts] at hts'
  obtain rfl := Option.some.inj hts'
  rw [hc] at hs
  have hcell : ∀ i (hi : i < cs.size), ∃ x : UInt8, cs[i] = B x := by
    intro i hi
    obtain ⟨u, hu', hok⟩ := hall i cs[i] (Array.getElem?_eq_getElem hi)
    rw [List.length_replicate, List.getElem?_replicate] at hu'
    split at hu'
    · obtain rfl := Option.some.inj hu'
      exact cell_u8 he hok
    · cases hu'
  refine ⟨(List.range cs.size).map fun i => if h : i < cs.size then Classical.choose (hcell i h) else 0, by simp [hs], ?_⟩
  congr 1
  apply Array.ext
  · simp [bs]
  · intro i h1 h2
    have := Classical.choose_spec (hcell i h1)
    simp [bs, h1, ← this]

theorem okWide_u8 {P : Program} {w : World} {r : Reach} {base : Nat} {e : TypeId} {v : Value} (he : P.underlying e = some (.int .u8)) (h : Value.okWide P w r base e v) : ∃ x : UInt8, v = B x := by
  refine cell_u8 (w := w) (r := r) (base := base) he ?_
  simpa only [Value.okWide, he] using h

theorem okWide_i64 {P : Program} {w : World} {r : Reach} {base : Nat} {e : TypeId} {v : Value} (he : P.underlying e = some (.int .i64)) (h : Value.okWide P w r base e v) :
    ∃ n : Int, v = .int .i64 n ∧ -9223372036854775808 ≤ n ∧ n ≤ 9223372036854775807 := by
  simp only [Value.okWide, he] at h
  cases v with
  | int k n =>
    simp only [Cell.okWide, he, Cell.ok] at h
    obtain ⟨rfl, h0, h1⟩ := h
    simp [IntKind.min, IntKind.max, IntKind.signed, IntKind.bits] at h0 h1
    exact ⟨n, rfl, h0, h1⟩
  | _ => simp [Cell.okWide, he, Cell.ok] at h

/-- A slice that came in, and the world that it came in with: it is nil; or it leads to a row of 'cap' cells 'vs'. -/
def IsRow (w : World) (a : Option Addr) (len cap : Nat) (zs : List Int) (k : IntKind) : Prop :=
  (a = none ∧ len = 0 ∧ cap = 0 ∧ zs = []) ∨
  ∃ x, a = some x ∧ len ≤ cap ∧ cap ≤ maxLen ∧ zs.length = cap ∧ (∀ i, i < zs.length → w.cell? (x.add i) = some (.int k (zs.getD i 0))) ∧ ∀ n ∈ zs, (Lit.int k n).wf = true

theorem isRow_of {H : Type} {enc : TypeId × Value → H} {P : Program} {W : World} {base fuel : Nat} {t e : TypeId} {k : IntKind} {a : Option Addr} {len cap : Nat} {d : DataW H} {p : List MemPlace} {held : Bool}
    (hu : P.underlying t = some (.slice e)) (he : P.underlying e = some (.int k)) (hc : P.cellsOf e = 1)
    (hf : DataW.trod enc P W base (fun _ => true) held fuel t (Value.slice a len cap).cells.toList = some (d, p)) : ∃ zs, IsRow W a len cap zs k := by
  rcases open_ints hu he hc hf with ⟨hcs, _⟩ | ⟨x, l, c, zs, hcs, _, hl, hm, hz, _, hcell, hwz⟩
  · simp [Value.cells] at hcs
    obtain ⟨rfl, rfl, rfl⟩ := hcs
    exact ⟨[], .inl ⟨rfl, rfl, rfl, rfl⟩⟩
  · simp [Value.cells] at hcs
    obtain ⟨rfl, rfl, rfl⟩ := hcs
    exact ⟨zs, .inr ⟨_, rfl, hl, hm, by simpa using hz, hcell, hwz⟩⟩
end Go.Proofs.Ytjjkndbkjnfimaa
