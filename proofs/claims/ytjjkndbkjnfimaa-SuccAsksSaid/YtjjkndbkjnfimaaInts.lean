/-
  SLICES OF INTS, and what a call hands back that it has made. No Go function is named here.
-/
import Derived.Test.YtjjkndbkjnfimaaStores2
import Derived.Test.YtjjkndbkjnfimaaCut
namespace Go.Proofs.Ytjjkndbkjnfimaa
set_option linter.unusedSimpArgs false
set_option linter.unusedVariables false
open Go.RowKit

def is (l : List Int) : List Value := l.map (Value.int .i64)
theorem is_length (l : List Int) : (is l).length = l.length := by simp [is]
theorem is_append (l m : List Int) : is (l ++ m) = is l ++ is m := by simp [is]
theorem is_oneCell (l : List Int) : ∀ v ∈ is l, v.oneCell' = true := by
  intro v hv
  obtain ⟨x, _, rfl⟩ := List.mem_map.1 hv
  rfl
theorem is_get {l : List Int} {i : Nat} (h : i < l.length) : (is l)[i]? = some (.int .i64 (l.getD i 0)) := by
  simp [is, List.getD, h]
theorem is_set (l : List Int) (i : Nat) (x : Int) : (is l).set i (.int .i64 x) = is (l.set i x) := by simp [is, List.map_set]
theorem is_take (l : List Int) (i : Nat) : (is l).take i = is (l.take i) := by simp [is, List.map_take]
theorem is_replicate (n : Nat) : List.replicate n ((Value.int .i64 0).cells[0]!) = is (List.replicate n 0) := by simp [is, Value.cells]

/-- A call leaves alone what was there, and has made this block. -/
def Adds (w w' : World) (x : Blk) : Prop := Below w.heap.size w w' ∧ w.heap.size ≤ x.b ∧ w'.heap[x.b]? = some (.cells x.cs.toArray x.t (0, 0))
theorem Fr.adopt {w0 w w' : World} {L : List Blk} (h : Fr w0 w L) {x : Blk} (ha : Adds w w' x) : Fr w0 w' (L ++ [x]) := by
  obtain ⟨hb, hx, hrow⟩ := ha
  have h1 := h.call hb
  refine ⟨h1.below, ?_, ?_⟩
  · intro y hy
    rcases List.mem_append.1 hy with hy | hy
    · exact h1.rows y hy
    · simp only [List.mem_singleton] at hy
      subst hy
      exact ⟨Nat.le_trans h.below.size hx, hrow⟩
  · rw [List.map_append, List.nodup_append]
    refine ⟨h.apart, by simp, ?_⟩
    intro a ha b hb2
    obtain ⟨y, hy, rfl⟩ := List.mem_map.1 ha
    simp only [List.map_cons, List.map_nil, List.mem_singleton] at hb2
    subst hb2
    have := h.lt hy
    omega
theorem Fr.adds {w w' : World} {L : List Blk} {x : Blk} (h : Fr w w' L) (hx : x ∈ L) : Adds w w' x := ⟨h.below, (h.rows x hx).1, (h.rows x hx).2⟩
section
variable {P : Program} {ops : Array Oper} {rest : List Oper} {Q : Act → Prop} {a : Act} {w0 : World} {L : List Blk}
theorem wq_neqI {dst : Option Tmp} {x y : Operand} {T ty T' : TypeId} {pos : String} {after : Array Edge} {m n : Int} (hx : a.eval x = .int .i64 m) (hy : a.eval y = .int .i64 n)
    (h : wpQuiet P ops (fun w' => Fr w0 w' L) Q rest (a.put dst (.bool (m != n)))) : wpQuiet P ops (fun w' => Fr w0 w' L) Q (⟨dst, .binOp .neq T x y T', ty, pos, after, none⟩ :: rest) a :=
  wq_bin hx hy rfl (fun w => rfl) h
theorem wq_eqI {dst : Option Tmp} {x y : Operand} {T ty T' : TypeId} {pos : String} {after : Array Edge} {m n : Int} (hx : a.eval x = .int .i64 m) (hy : a.eval y = .int .i64 n)
    (h : wpQuiet P ops (fun w' => Fr w0 w' L) Q rest (a.put dst (.bool (m == n)))) : wpQuiet P ops (fun w' => Fr w0 w' L) Q (⟨dst, .binOp .eql T x y T', ty, pos, after, none⟩ :: rest) a :=
  wq_bin hx hy rfl (fun w => rfl) h
end
end Go.Proofs.Ytjjkndbkjnfimaa
