/-
  What the statements of ots share: how two ids are held against each other; the walk of latticelaw5.known.
-/
import Derived.Test.YtbnjgldilckhpaaRefBack
import Derived.Test.YtbnjgldilckhpaaRefPub
import Derived.Test.YtbnjgldilckhpaaArgs2
namespace Go.Proofs.Ytbnjgldilckhpaa
set_option linter.unusedSimpArgs false
set_option linter.unusedVariables false
open Go.RowKit
attribute [local irreducible] wpQuiet Calls wpLine
set_option maxRecDepth 4000

theorem run_eqId (w : World) (x y : List UInt8) (hx : x.length = 32) (hy : y.length = 32) :
    (Op.equalIn 10000 24 (.agg (bs x).toArray) (.agg (bs y).toArray)).run Try.prog w = .ok (decide (x = y)) w :=
  run_equal_bytes w 9998 Try.underlying24 Try.underlying5 info_u8_ x y hx hy
section
variable {P : Program} {ops : Array Oper} {rest : List Oper} {Q : Act → Prop} {a : Act} {w0 : World} {L : List Blk}
theorem wq_neqbytes {dst : Option Tmp} {x y : Operand} {T ty T' : TypeId} {pos : String} {after : Array Edge} {t u : List UInt8} (hx : a.eval x = .agg (bs t).toArray) (hy : a.eval y = .agg (bs u).toArray)
    (hg : P.eqGuardType P.depth T = false) (hq : ∀ w, (Op.equalIn 10000 T (.agg (bs t).toArray) (.agg (bs u).toArray)).run P w = .ok (decide (t = u)) w)
    (h : wpQuiet P ops (fun w' => Fr w0 w' L) Q rest (a.put dst (.bool (!decide (t = u))))) :
    wpQuiet P ops (fun w' => Fr w0 w' L) Q (⟨dst, .binOp .neq T x y T', ty, pos, after, none⟩ :: rest) a :=
  wq_pure (fun w => by simp [execOp, hx, hy, run_eqGuard_agg w _ T _ _ _ _ hg, run_neq_struct, hq]) h
theorem wq_eqInt {dst : Option Tmp} {x y : Operand} {T ty T' : TypeId} {pos : String} {after : Array Edge} {m n : Int} (hx : a.eval x = .int .i64 m) (hy : a.eval y = .int .i64 n)
    (h : wpQuiet P ops (fun w' => Fr w0 w' L) Q rest (a.put dst (.bool (m == n)))) : wpQuiet P ops (fun w' => Fr w0 w' L) Q (⟨dst, .binOp .eql T x y T', ty, pos, after, none⟩ :: rest) a :=
  wq_bin hx hy rfl (fun w => rfl) h
end

set_option maxHeartbeats 4000000 in
theorem known5 (w : World) : Calls Try.prog 14 #[] w fun e w' => e = .returned (.bool true) ∧ Below w.heap.size w w' := by
  have hF := Fr.start w
  go_enter Try.func14, Try.ntmps14
  go_wp2_with (first | ((with_reducible refine wpl_alloc (dst := some 1) hF (bs (List.replicate 16 0)) (T := 22) (hz := Try.zeroValue22) ?_ ?_); exact rfl; clear hF; intro bn _ hF) | ((with_reducible apply wpl_load hF (T := 22) (hu := Try.underlying22)); exact rfl; (first | exact ⟨0, rfl⟩ | exact ⟨1, rfl⟩ | exact ⟨2, rfl⟩ | exact ⟨3, rfl⟩ | exact ⟨4, rfl⟩ | exact ⟨5, rfl⟩ | exact ⟨6, rfl⟩ | exact ⟨7, rfl⟩ | exact ⟨8, rfl⟩ | exact ⟨9, rfl⟩ | exact ⟨10, rfl⟩ | exact ⟨11, rfl⟩); exact info_nm (List.length_replicate ..)) | ((with_reducible refine wpl_build0 (bs zeros) Try.underlying24 ?_ ?_ ?_); exact info_u8_some; exact Try.zeroValue24) | (go_at_call 17; go_loud (refine (signK [0, 0, 0, 0, 0, 0, 0, 0, 0, 0, 0, 0, 0, 0, 0, 0] rfl 0 (by omega) (by omega) zeros zeros_length [] none 0 0 rfl (by omega) (Sl.nil _ _)).mono ?_); rintro _ _ ⟨b1, c1, t1, rfl, hc1, hm⟩; replace hF := hF.took hm; clear hm; have H1 := Lib.hid hc1; clear hc1))
  go_ret
  exact ⟨rfl, hF.below⟩
end Go.Proofs.Ytbnjgldilckhpaa
