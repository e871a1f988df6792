/-
  THE WALK of latticelaw1.known: the chapter's example; and how two ids, two texts are held against each other in a region that draws its order.
-/
import Derived.Test.YtnocldlfmkmiaaaText
import Derived.Test.YtnocldlfmkmiaaaConst
namespace Go.Proofs.Ytnocldlfmkmiaaa
set_option linter.unusedSimpArgs false
set_option linter.unusedVariables false
open Go.RowKit
attribute [local irreducible] wpQuiet Calls
set_option maxRecDepth 4000

def abcText : List UInt8 := [98, 97, 55, 56, 49, 54, 98, 102, 56, 102, 48, 49, 99, 102, 101, 97, 52, 49, 52, 49, 52, 48, 100, 101, 53, 100, 97, 101, 50, 50, 50, 51, 98, 48, 48, 51, 54, 49, 97, 51, 57, 54, 49, 55, 55, 97, 57, 99, 98, 52, 49, 48, 102, 102, 54, 49, 102, 50, 48, 48, 49, 53, 97, 100]
set_option maxRecDepth 100000 in
theorem hash_abc : texts (hash [97, 98, 99]) = abcText := by decide +kernel

theorem run_eqId (w : World) (x y : List UInt8) (hx : x.length = 32) (hy : y.length = 32) :
    (Op.equalIn 10000 29 (.agg (bs x).toArray) (.agg (bs y).toArray)).run Try.prog w = .ok (decide (x = y)) w :=
  run_equal_bytes w 9998 Try.underlying29 Try.underlying5 info_u8_ x y hx hy

theorem run_conv_same {S e : TypeId} {p : Option Addr} {n c : Nat} : True := trivial

set_option maxHeartbeats 1000000 in
theorem known1 (w : World) : Calls Try.prog 29 #[] w fun e w' => e = .returned (.bool true) ∧ Below w.heap.size w w' := by
  have hF := Fr.start w
  have hab := Lib.hid hash_abc
  go_enter Try.func29, Try.ntmps29
  go_wp2_with (first | ((with_reducible apply wpl_const hF (bs [97, 98, 99]) (ht := Try.underlying43) (he := byteElem) (hu := Try.underlying5)); (focus (intro _; exact rfl)); (focus (first | exact rfl | kernel_rfl)); (focus omega); clear hF; intro bt _ hF hsl) | (go_at_call 30; refine (shaSum [97, 98, 99] _ 3 _ rfl _ hsl (by omega)).mono ?_; rintro _ _ ⟨rfl, hb⟩; replace hF := hF.call hb; clear hb) | (go_at_call 33; refine (shaText _ (hash_length _) _).mono ?_; rintro _ _ ⟨rfl, hb⟩; replace hF := hF.call hb; clear hb; rw [hab.out]) | ((with_reducible apply wpl_eqSt (m := abcText)); exact rfl; exact rfl))
  go_ret
  exact ⟨rfl, hF.below⟩
end Go.Proofs.Ytnocldlfmkmiaaa
