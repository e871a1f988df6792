/-
  THE TABLES OF THE HASH.
-/
import Derived.Test.YtjjkndbkjnfimaaSha1
import Derived.Test.YtjjkndbkjnfimaaLaws
namespace Go.Proofs.Ytjjkndbkjnfimaa
set_option linter.unusedSimpArgs false
set_option linter.unusedVariables false
open Go.RowKit
attribute [local irreducible] wpQuiet Calls

theorem info_w8 : (Try.prog.info? 52).map (·.size) = some 8 := by kernel_rfl
theorem info_w64 : (Try.prog.info? 50).map (·.size) = some 64 := by kernel_rfl
theorem info_w8' {l : List UInt32} (h : l.length = 8) : (Try.prog.info? 52).map (·.size) = some (ws l).length := by rw [ws_length, h]; exact info_w8
theorem info_w64' {l : List UInt32} (h : l.length = 64) : (Try.prog.info? 50).map (·.size) = some (ws l).length := by rw [ws_length, h]; exact info_w64
theorem info_u32 : (Try.prog.info? 49).map (·.size) = some 1 := by kernel_rfl

def wzeros (n : Nat) : List UInt32 := List.replicate n 0

theorem wzeros_length (n : Nat) : (wzeros n).length = n := List.length_replicate

theorem begin_ (w : World) : Calls Try.prog 40 #[] w fun e w' => e = .returned (aggw hinit) ∧ Below w.heap.size w w' := by
  have hF := Fr.start w
  have lens := hinit_length
  go_enter Try.func40, Try.ntmps40
  go_wp2_with (first | ((with_reducible refine wpl_alloc (dst := some 0) hF (ws (wzeros 8)) (T := 52) (hz := Try.zeroValue52) ?_ ?_); exact rfl; clear hF; intro b0 _ hF) | ((with_reducible refine wpl_build (aggw hinit) ?_ ?_); (focus (intro w; kernel_rfl))) | ((with_reducible apply wpl_store hF 0 (T := 52) (cs' := ws hinit)); exact rfl; (focus (first | exact rfl | kernel_rfl)); exact rfl; exact info_w8' hinit_length; (focus (simp only [ws_length, List.length_set, wzeros_length, lens] <;> omega)); exact ws_oneCell _; clear hF; intro _ hF))
  exact post_row hF rfl rfl rfl ⟨0, rfl⟩ Try.underlying52 (info_w8' hinit_length) ⟨rfl, hF.below⟩

theorem consts_ (w : World) : Calls Try.prog 46 #[] w fun e w' => e = .returned (aggw kconsts) ∧ Below w.heap.size w w' := by
  have hF := Fr.start w
  have lens := kconsts_length
  go_enter Try.func46, Try.ntmps46
  go_wp2_with (first | ((with_reducible refine wpl_alloc (dst := some 0) hF (ws (wzeros 64)) (T := 50) (hz := Try.zeroValue50) ?_ ?_); exact rfl; clear hF; intro b0 _ hF) | ((with_reducible refine wpl_build (aggw kconsts) ?_ ?_); (focus (intro w; kernel_rfl))) | ((with_reducible apply wpl_store hF 0 (T := 50) (cs' := ws kconsts)); exact rfl; (focus (first | exact rfl | kernel_rfl)); exact rfl; exact info_w64' kconsts_length; (focus (simp only [ws_length, List.length_set, wzeros_length, lens] <;> omega)); exact ws_oneCell _; clear hF; intro _ hF))
  exact post_row hF rfl rfl rfl ⟨0, rfl⟩ Try.underlying50 (info_w64' kconsts_length) ⟨rfl, hF.below⟩

theorem refWords (w : World) : Calls Try.prog 35 #[] w fun e w' => e = .returned (aggw kconsts) ∧ Below w.heap.size w w' := by
  have hF := Fr.start w
  have lens := kconsts_length
  go_enter Try.func35, Try.ntmps35
  go_wp2_with (first | ((with_reducible refine wpl_alloc (dst := some 0) hF (ws (wzeros 64)) (T := 50) (hz := Try.zeroValue50) ?_ ?_); exact rfl; clear hF; intro b0 _ hF) | ((with_reducible refine wpl_build (aggw kconsts) ?_ ?_); (focus (intro w; kernel_rfl))) | ((with_reducible apply wpl_store hF 0 (T := 50) (cs' := ws kconsts)); exact rfl; (focus (first | exact rfl | kernel_rfl)); exact rfl; exact info_w64' kconsts_length; (focus (simp only [ws_length, List.length_set, wzeros_length, lens] <;> omega)); exact ws_oneCell _; clear hF; intro _ hF))
  exact post_row hF rfl rfl rfl ⟨0, rfl⟩ Try.underlying50 (info_w64' kconsts_length) ⟨rfl, hF.below⟩

end Go.Proofs.Ytjjkndbkjnfimaa
