/-
  TWO IDS HELD AGAINST EACH OTHER; choices; guarded operations: at the lists of plain and of drawn regions.
-/
import Derived.Test.YtnocldlfmkmiaaaKnown1
import Derived.Test.YtnocldlfmkmiaaaRefSum
namespace Go.Proofs.Ytnocldlfmkmiaaa
set_option linter.unusedSimpArgs false
set_option linter.unusedVariables false
open Go.RowKit

section
variable {P : Program} {ops : Array Oper} {rest : List Oper} {Q : Exit → Act → World → Prop} {a : Act} {w0 w : World} {L : List Blk}
theorem wpl_eqbytes {dst : Option Tmp} {x y : Operand} {T ty T' : TypeId} {pos : String} {after : Array Edge} {t u : List UInt8} (hx : a.eval x = .agg (bs t).toArray) (hy : a.eval y = .agg (bs u).toArray)
    (hg : P.eqGuardType P.depth T = false) (hq : ∀ w, (Op.equalIn 10000 T (.agg (bs t).toArray) (.agg (bs u).toArray)).run P w = .ok (decide (t = u)) w)
    (h : wpList P ops Q rest (a.put dst (.bool (decide (t = u)))) w) :
    wpList P ops Q (⟨dst, .binOp .eql T x y T', ty, pos, after, none⟩ :: rest) a w :=
  wpl_pure (fun w => by simp [execOp, hx, hy, run_eqGuard_agg w _ T _ _ _ _ hg, run_eql_struct, hq]) h
theorem wpl_neqbytes {dst : Option Tmp} {x y : Operand} {T ty T' : TypeId} {pos : String} {after : Array Edge} {t u : List UInt8} (hx : a.eval x = .agg (bs t).toArray) (hy : a.eval y = .agg (bs u).toArray)
    (hg : P.eqGuardType P.depth T = false) (hq : ∀ w, (Op.equalIn 10000 T (.agg (bs t).toArray) (.agg (bs u).toArray)).run P w = .ok (decide (t = u)) w)
    (h : wpList P ops Q rest (a.put dst (.bool (!decide (t = u)))) w) :
    wpList P ops Q (⟨dst, .binOp .neq T x y T', ty, pos, after, none⟩ :: rest) a w :=
  wpl_pure (fun w => by simp [execOp, hx, hy, run_eqGuard_agg w _ T _ _ _ _ hg, run_neq_struct, hq]) h
end
section
variable {P : Program} {ops : Array Oper} {rest : List Oper} {Q : Act → Prop} {a : Act} {w0 : World} {L : List Blk}
theorem wq_neqbytes {dst : Option Tmp} {x y : Operand} {T ty T' : TypeId} {pos : String} {after : Array Edge} {t u : List UInt8} (hx : a.eval x = .agg (bs t).toArray) (hy : a.eval y = .agg (bs u).toArray)
    (hg : P.eqGuardType P.depth T = false) (hq : ∀ w, (Op.equalIn 10000 T (.agg (bs t).toArray) (.agg (bs u).toArray)).run P w = .ok (decide (t = u)) w)
    (h : wpQuiet P ops (fun w' => Fr w0 w' L) Q rest (a.put dst (.bool (!decide (t = u))))) :
    wpQuiet P ops (fun w' => Fr w0 w' L) Q (⟨dst, .binOp .neq T x y T', ty, pos, after, none⟩ :: rest) a :=
  wq_pure (fun w => by simp [execOp, hx, hy, run_eqGuard_agg w _ T _ _ _ _ hg, run_neq_struct, hq]) h
end
end Go.Proofs.Ytnocldlfmkmiaaa
