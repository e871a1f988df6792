/-
  THE ARGUMENTS of the statements that are slices: what they read as, and how much room they take.
-/
import Derived.Test.YtjjkndbkjnfimaaArgs
import Derived.Test.YtjjkndbkjnfimaaOwn
import Derived.SizedLaws
namespace Go.Proofs.Ytjjkndbkjnfimaa
set_option linter.unusedSimpArgs false
set_option linter.unusedVariables false
open Go.ChangeShapes Go.WideShapes Go.ChangeAt Go.RowKit

/-- A slice of bytes that came in. -/
structure IsB (w : World) (a : Option Addr) (len cap : Nat) (l : List UInt8) : Prop where
  hl : l.length = len
  hc : len ≤ cap
  hr : cap ≤ 140737488351232
  hs : Sl w a (bs l)
/-- A slice of ints that came in. -/
structure IsI (w : World) (a : Option Addr) (len cap : Nat) (l : List Int) : Prop where
  hl : l.length = len
  hc : len ≤ cap
  hr : cap ≤ 17592186043904
  hs : Sl w a (l.map (Value.int .i64))
  wf : ∀ n ∈ l, -9223372036854775808 ≤ n ∧ n ≤ 9223372036854775807

theorem row_of {H : Type} {enc : TypeId × Value → H} {P : Program} {W : World} {base fuel : Nat} {t e : TypeId} {k : IntKind} {a : Option Addr} {len cap : Nat} {d : DataW H} {p : List MemPlace} {held : Bool} {ts : List TypeId} {ds : List (DataW H)} {j bytes : Nat}
    (hu : P.underlying t = some (.slice e)) (he : P.underlying e = some (.int k)) (hc : P.cellsOf e = 1) (hb : P.bytesOf e = bytes)
    (hf : DataW.trod enc P W base (fun _ => true) held fuel t (Value.slice a len cap).cells.toList = some (d, p))
    (hsz : (DataW.weightsEach P ts ds).all (· ≤ reachBytes) = true) (ht : ts[j]? = some t) (hd : ds[j]? = some d) :
    ∃ zs : List Int, zs.length = len ∧ len ≤ cap ∧ cap * bytes ≤ 140737488351232 ∧ Sl W a (zs.map (Value.int k)) ∧ ∀ n ∈ zs, (Lit.int k n).wf = true := by
  rcases open_ints hu he hc hf with ⟨hcs, _⟩ | ⟨x, l, c, zs, hcs, _, hl, hm, hz, hx, hcell, hwz⟩
  · simp [Value.cells] at hcs
    obtain ⟨rfl, rfl, rfl⟩ := hcs
    exact ⟨[], rfl, by omega, by omega, Sl.nil _ _, by simp⟩
  · simp [Value.cells] at hcs
    obtain ⟨rfl, rfl, rfl⟩ := hcs
    have hz' : zs.length = cap := by simpa using hz
    obtain ⟨rfl, _⟩ := Prod.mk.inj hx
    have hs := sized_slice hsz ht hd hu
    rw [hb] at hs
    simp only [lits, List.length_map, List.length_take, List.length_drop, reachBytes] at hs
    have hsum : min len zs.length + (zs.length - len) = cap := by omega
    rw [hsum] at hs
    refine ⟨zs.take len, by simp; omega, hl, hs, fun i v hv => ⟨x, rfl, ?_⟩, fun n hn => hwz n (List.mem_of_mem_take hn)⟩
    rw [List.getElem?_map, List.getElem?_take] at hv
    split at hv
    · cases hq : zs[i]? with
      | none => simp [hq] at hv
      | some n =>
        simp [hq] at hv
        have hi : i < zs.length := (List.getElem?_eq_some_iff.1 hq).1
        rw [hcell i hi, ← hv]
        simp [List.getD, hq]
    · simp at hv
theorem isB_of {H : Type} {enc : TypeId × Value → H} {P : Program} {W : World} {base fuel : Nat} {t e : TypeId} {a : Option Addr} {len cap : Nat} {d : DataW H} {p : List MemPlace} {held : Bool} {ts : List TypeId} {ds : List (DataW H)} (j : Nat)
    (hu : P.underlying t = some (.slice e)) (he : P.underlying e = some (.int .u8)) (hc : P.cellsOf e = 1) (hb : P.bytesOf e = 1)
    (hf : DataW.trod enc P W base (fun _ => true) held fuel t (Value.slice a len cap).cells.toList = some (d, p))
    (hsz : (DataW.weightsEach P ts ds).all (· ≤ reachBytes) = true) (ht : ts[j]? = some t) (hd : ds[j]? = some d) : ∃ l, IsB W a len cap l := by
  obtain ⟨zs, h1, h2, h3, h4, h5⟩ := row_of (j := j) hu he hc hb hf hsz ht hd
  refine ⟨zs.map fun n => UInt8.ofNat n.toNat, by simpa using h1, h2, by omega, ?_⟩
  have e : bs (zs.map fun n => UInt8.ofNat n.toNat) = zs.map (Value.int .u8) := by
    unfold bs
    rw [List.map_map]
    refine List.map_congr_left fun n hn => ?_
    have := h5 n hn
    simp [Lit.wf, IntKind.min, IntKind.max, IntKind.signed, IntKind.bits] at this
    show B (UInt8.ofNat n.toNat) = _
    unfold B
    rw [UInt8.toNat_ofNat']
    congr 1
    omega
  rw [e]
  exact h4
theorem isI_of {H : Type} {enc : TypeId × Value → H} {P : Program} {W : World} {base fuel : Nat} {t e : TypeId} {a : Option Addr} {len cap : Nat} {d : DataW H} {p : List MemPlace} {held : Bool} {ts : List TypeId} {ds : List (DataW H)} (j : Nat)
    (hu : P.underlying t = some (.slice e)) (he : P.underlying e = some (.int .i64)) (hc : P.cellsOf e = 1) (hb : P.bytesOf e = 8)
    (hf : DataW.trod enc P W base (fun _ => true) held fuel t (Value.slice a len cap).cells.toList = some (d, p))
    (hsz : (DataW.weightsEach P ts ds).all (· ≤ reachBytes) = true) (ht : ts[j]? = some t) (hd : ds[j]? = some d) : ∃ l, IsI W a len cap l := by
  obtain ⟨zs, h1, h2, h3, h4, h5⟩ := row_of (j := j) hu he hc hb hf hsz ht hd
  refine ⟨zs, h1, h2, by omega, h4, fun n hn => ?_⟩
  have := h5 n hn
  simp [Lit.wf, IntKind.min, IntKind.max, IntKind.signed, IntKind.bits] at this
  omega
end Go.Proofs.Ytjjkndbkjnfimaa
