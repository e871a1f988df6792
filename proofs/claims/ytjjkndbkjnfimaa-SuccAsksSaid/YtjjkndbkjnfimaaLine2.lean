/-
  MORE STEPS OF A PLAN: what only reckons, out of line; a length; a part of a tuple. No Go function is named here.
-/
import Derived.Test.YtjjkndbkjnfimaaRow2
namespace Go.Proofs.Ytjjkndbkjnfimaa
set_option linter.unusedSimpArgs false
set_option linter.unusedVariables false
open Go.RowKit

section
variable {P : Program} {ops : Array Oper} {rest : List (LE × Oper)} {Q : Act → World → Prop} {a : Act} {w0 : World} {K M : List Blk} {i : Nat}
theorem wpLine_tkrun {o : Oper} {v : Value} (hw : Region.wanted o (yielded ops a.tmps) = true) (hv : ∀ w, (execOp a.eval o).run P w = .ok (.value v) w) (h : wpLine P ops w0 Q rest (a.put o.dst v) K M) : wpLine P ops w0 Q ((tk i, o) :: rest) a K M := by
  unfold wpLine
  rw [if_pos rfl]
  exact ⟨v, .inl ⟨hw, fun w _ => hv w⟩, h⟩
theorem wpLine_len {dst : Option Tmp} {x : Operand} {T ty e : TypeId} {pos : String} {after : Array Edge} {g : Option (Nat × Bool)} {p : Option Addr} {n c : Nat} (hT : P.underlying T = some (.slice e))
    (hw : Region.wanted ⟨dst, .call { callee := .builtin .len, args := #[x], argTypes := #[T] }, ty, pos, after, g⟩ (yielded ops a.tmps) = true) (hx : a.eval x = .slice p n c)
    (h : wpLine P ops w0 Q rest (a.put dst (.int .i64 n)) K M) :
    wpLine P ops w0 Q ((tk i, ⟨dst, .call { callee := .builtin .len, args := #[x], argTypes := #[T] }, ty, pos, after, g⟩) :: rest) a K M :=
  wpLine_tkrun (v := .int .i64 n) hw (fun w => by simp [execOp, resolve, invoke, builtin, Sem.run_bind, Sem.run_pure, Builtin.len_, hx, run_underlying hT, goInt]) h
theorem wpLine_ext {dst : Option Tmp} {x : Operand} {j : Nat} {ty : TypeId} {pos : String} {after : Array Edge} {g : Option (Nat × Bool)} {vs : List Value} {v : Value}
    (hw : Region.wanted ⟨dst, .extract x j, ty, pos, after, g⟩ (yielded ops a.tmps) = true) (hx : a.eval x = .tuple vs.toArray) (hv : vs[j]? = some v)
    (h : wpLine P ops w0 Q rest (a.put dst v) K M) :
    wpLine P ops w0 Q ((tk i, ⟨dst, .extract x j, ty, pos, after, g⟩) :: rest) a K M :=
  wpLine_tkrun (v := v) hw (fun w => by simp [execOp, hx, Instr.extract, hv]) h
end
end Go.Proofs.Ytjjkndbkjnfimaa
