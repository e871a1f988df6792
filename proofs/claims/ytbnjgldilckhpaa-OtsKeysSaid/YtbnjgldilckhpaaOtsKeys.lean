/-
  OtsKeys: for any name, number and seed the public key by ots.Public is the document's. No conditions.
-/
import Derived.Test.YtbnjgldilckhpaaLawB
namespace Go.Proofs.Ytbnjgldilckhpaa
set_option linter.unusedSimpArgs false
set_option linter.unusedVariables false
open Go.ChangeShapes Go.WideShapes Go.ChangeAt Go.RowKit
attribute [local irreducible] wpQuiet Calls
set_option maxRecDepth 4000

set_option maxHeartbeats 4000000 in
theorem OtsKeys_walk (nm : List UInt8) (q : Int) (seed : List UInt8) (hnm : nm.length = 16) (h0 : -9223372036854775808 ≤ q) (h1 : q ≤ 9223372036854775807) (hs : seed.length = 32) (w : World) :
    Calls Try.prog 3 #[agg nm, .int .i64 q, agg seed] w fun e w' => e = .returned (.bool true) ∧ Below w.heap.size w w' := by
  have hF := Fr.start w
  have Hnm := Lib.hid hnm
  have Hq := Lib.hid (And.intro h0 h1)
  have Hs := Lib.hid hs
  have Hxl := Lib.hid (pubOf_length nm q seed)
  clear h0 h1 hnm hs
  go_enter Try.func3, Try.ntmps3
  go_wp2_with (first | ((with_reducible apply wpl_box (x := Operand.tmp 0) hF); exact rfl; clear hF; intro bn _ hF) | ((with_reducible apply wpl_box (x := Operand.tmp 2) hF); exact rfl; clear hF; intro bd _ hF) | (go_at_call 14; refine (known5 _).mono ?_; rintro _ _ ⟨rfl, hb⟩; replace hF := hF.call hb; clear hb))
  ((refine wp_region_fr (by kernel_rfl) (by kernel_rfl) hF ?_); clear hF)
  repeat (first | ((with_reducible apply wq_move); (focus (simp only [Act.eval, Array.getD_eq_getD_getElem?, List.getElem?_toArray, List.getElem?_cons_succ, List.getElem?_cons_zero, Option.getD_some, List.map_toArray, List.map_cons, List.map_nil] <;> exact rfl)); simp only [Act.put, List.setIfInBounds_toArray, List.set_cons_succ, List.set_cons_zero, eq_self, decide_true, decide_false, Bool.not_true, Bool.not_false, eq_self]) | ((with_reducible apply wq_assign); (focus (simp only [Act.eval, Array.getD_eq_getD_getElem?, List.getElem?_toArray, List.getElem?_cons_succ, List.getElem?_cons_zero, Option.getD_some, List.map_toArray, List.map_cons, List.map_nil] <;> exact rfl)); simp only [Act.put, List.setIfInBounds_toArray, List.set_cons_succ, List.set_cons_zero, eq_self, decide_true, decide_false, Bool.not_true, Bool.not_false, eq_self]) | ((with_reducible apply wq_load (T := 24) (hu := Try.underlying24)); exact rfl; (first | exact ⟨0, rfl⟩ | exact ⟨1, rfl⟩ | exact ⟨2, rfl⟩ | exact ⟨3, rfl⟩ | exact ⟨4, rfl⟩ | exact ⟨5, rfl⟩ | exact ⟨6, rfl⟩); exact info_idl (by first | (with_reducible exact hash_length _) | (with_reducible exact zeros_length) | (with_reducible assumption) | exact Hxl.out); simp only [Act.put, List.setIfInBounds_toArray, List.set_cons_succ, List.set_cons_zero, eq_self, decide_true, decide_false, Bool.not_true, Bool.not_false, eq_self]) | ((with_reducible apply wq_load (T := 22) (hu := Try.underlying22)); exact rfl; (first | exact ⟨0, rfl⟩ | exact ⟨1, rfl⟩ | exact ⟨2, rfl⟩ | exact ⟨3, rfl⟩ | exact ⟨4, rfl⟩ | exact ⟨5, rfl⟩ | exact ⟨6, rfl⟩); exact info_nm Hnm.out; simp only [Act.put, List.setIfInBounds_toArray, List.set_cons_succ, List.set_cons_zero]) | ((with_reducible apply wq_load (T := 24) (hu := Try.underlying24)); exact rfl; (first | exact ⟨0, rfl⟩ | exact ⟨1, rfl⟩ | exact ⟨2, rfl⟩ | exact ⟨3, rfl⟩ | exact ⟨4, rfl⟩ | exact ⟨5, rfl⟩ | exact ⟨6, rfl⟩); exact info_idl Hs.out; simp only [Act.put, List.setIfInBounds_toArray, List.set_cons_succ, List.set_cons_zero]) | ((with_reducible apply wq_call (dst := some 12) (f := 15) (hc := Try.call15)); (focus (simp only [Act.eval, Array.getD_eq_getD_getElem?, List.getElem?_toArray, List.getElem?_cons_succ, List.getElem?_cons_zero, Option.getD_some, List.map_toArray, List.map_cons, List.map_nil] <;> exact rfl)); exact (fun w hw => publicK nm Hnm.out q Hq.out.1 Hq.out.2 seed Hs.out _); simp only [Act.put, List.setIfInBounds_toArray, List.set_cons_succ, List.set_cons_zero, eq_self, decide_true, decide_false, Bool.not_true, Bool.not_false, eq_self]) | ((with_reducible apply wq_call (dst := some 16) (f := 16) (hc := Try.call16)); (focus (simp only [Act.eval, Array.getD_eq_getD_getElem?, List.getElem?_toArray, List.getElem?_cons_succ, List.getElem?_cons_zero, Option.getD_some, List.map_toArray, List.map_cons, List.map_nil] <;> exact rfl)); exact (fun w hw => refPublic nm Hnm.out q Hq.out.1 Hq.out.2 seed Hs.out _); simp only [Act.put, List.setIfInBounds_toArray, List.set_cons_succ, List.set_cons_zero, eq_self, decide_true, decide_false, Bool.not_true, Bool.not_false, eq_self]) | ((with_reducible apply wq_eqbytes (T := 24)); exact rfl; exact rfl; exact Try.eqGuardType24; exact (fun w => run_eqId w _ _ (by first | (with_reducible exact hash_length _) | (with_reducible exact zeros_length) | (with_reducible assumption) | exact Hxl.out) (by first | (with_reducible exact hash_length _) | (with_reducible exact zeros_length) | (with_reducible assumption) | exact Hxl.out)); simp only [Act.put, List.setIfInBounds_toArray, List.set_cons_succ, List.set_cons_zero, eq_self, decide_true, decide_false, Bool.not_true, Bool.not_false, eq_self]) | ((with_reducible apply wq_neqbytes (T := 24)); exact rfl; exact rfl; exact Try.eqGuardType24; exact (fun w => run_eqId w _ _ (by first | (with_reducible exact hash_length _) | (with_reducible exact zeros_length) | (with_reducible assumption) | exact Hxl.out) (by first | (with_reducible exact hash_length _) | (with_reducible exact zeros_length) | (with_reducible assumption) | exact Hxl.out)); simp only [Act.put, List.setIfInBounds_toArray, List.set_cons_succ, List.set_cons_zero, eq_self, decide_true, decide_false, Bool.not_true, Bool.not_false, eq_self]) | ((with_reducible apply wq_eqSt); exact rfl; exact rfl; simp only [Act.put, List.setIfInBounds_toArray, List.set_cons_succ, List.set_cons_zero, eq_self, decide_true, decide_false, Bool.not_true, Bool.not_false, eq_self]) | ((with_reducible apply wq_pick); exact rfl; (focus (simp only [Act.eval, Array.getD_eq_getD_getElem?, List.getElem?_toArray, List.getElem?_cons_succ, List.getElem?_cons_zero, Option.getD_some, List.map_toArray, List.map_cons, List.map_nil] <;> exact rfl)); simp only [Act.put, List.setIfInBounds_toArray, List.set_cons_succ, List.set_cons_zero, eq_self, decide_true, decide_false, Bool.not_true, Bool.not_false, eq_self]) | ((with_reducible apply wq_pick'); exact rfl; (focus (simp only [Act.eval, Array.getD_eq_getD_getElem?, List.getElem?_toArray, List.getElem?_cons_succ, List.getElem?_cons_zero, Option.getD_some, List.map_toArray, List.map_cons, List.map_nil] <;> exact rfl)); simp only [Act.put, List.setIfInBounds_toArray, List.set_cons_succ, List.set_cons_zero, eq_self, decide_true, decide_false, Bool.not_true, Bool.not_false, eq_self]) | ((with_reducible apply wq_not); exact rfl; simp only [Act.put, List.setIfInBounds_toArray, List.set_cons_succ, List.set_cons_zero, eq_self, decide_true, decide_false, Bool.not_true, Bool.not_false, eq_self]) | ((with_reducible refine wq_unguard ?_ ?_); (focus (go_simp; done))) | ((with_reducible refine wq_skip ?_ ?_); (focus (go_simp; done)); simp only [Act.put, List.setIfInBounds_toArray, List.set_cons_succ, List.set_cons_zero]) | ((with_reducible refine wq_skip_none ?_ ?_); (focus (first | (go_simp; done) | (go_simp; exact rfl))); simp only [Act.put, List.setIfInBounds_toArray, List.set_cons_succ, List.set_cons_zero]))
  ((refine wpQuiet_nil ?_); intro _ hF)
  go_wp2_with (first | fail)
  go_ret
  exact ⟨rfl, hF.below⟩

set_option maxRecDepth 100000 in
theorem OtsKeys_lifted (os : Os) (started : os.Started) (H : Type) (enc : TypeId × Value → H) :
    ReturnsInHanded {} Try.checked os 3 .any (Rows.otsKeysSpec.pre6 enc Try.prog Try.f3 Rows.otsKeysRow.domain false) (Rows.otsKeysSpec.post enc Try.prog Try.f3 false true false false) := by
  refine returnsInHanded_of_change (C := Try.checked) own started (by kernel_rfl) Try.func3
    (ChangeSpec.witness6 (enc := enc) (C := Try.checked) false ⟨#[], #[.agg (Array.replicate 16 (.int .u8 0)), .int .i64 0, .agg (Array.replicate 32 (.int .u8 0))], []⟩ 8 (by kernel_rfl) (by kernel_rfl) (by kernel_rfl) (by kernel_rfl)) ?_
  intro W base args ds gs before hval0 hW hcnd _
  have hval : ∀ (j : Nat) t v, Try.f3.params[j]? = some t → args[j]? = some v → Value.okWide Try.prog W .any base t v := hval0
  have hW' := hW
  obtain ⟨p, q, hA0, hV, rfl, hfz, hnd⟩ := hW
  have hA : DataW.TrodAll enc Try.prog W 0 (fun _ => true) true Try.f3.params.toList args.toList ds p := hA0
  rw [Try.params3] at hA hval
  obtain ⟨v0, vs0, d0, ds0, p0, q0, hargs, rfl, rfl, h0, r0⟩ := trodAll_cons hA
  obtain ⟨v1, vs1, d1, ds1, p1, q1, rfl, rfl, rfl, h1, r1⟩ := trodAll_cons r0
  obtain ⟨v2, vs2, d2, ds2, p2, q2, rfl, rfl, rfl, h2, r2⟩ := trodAll_cons r1
  obtain ⟨rfl, rfl, rfl⟩ := trodAll_nil r2
  obtain rfl : args = #[v0, v1, v2] := by cases args; simp_all
  obtain ⟨rfl, rfl⟩ := trodVars_none hV
  have k0 := h0
  have lt0 : ∀ x ∈ p0, x.block < W.heap.size := by obtain ⟨m, hm⟩ := k0; exact DataW.trod_lt m _ _ _ hm
  obtain ⟨l0, n0, rfl⟩ := okWide_bytes Try.underlying22 Try.underlying5 (by kernel_rfl) (by kernel_rfl) (hval 0 22 v0 rfl rfl)
  have k1 := h1
  have lt1 : ∀ x ∈ p1, x.block < W.heap.size := by obtain ⟨m, hm⟩ := k1; exact DataW.trod_lt m _ _ _ hm
  obtain ⟨l1, rfl, n1⟩ := okWide_i64 Try.underlying3 (hval 1 3 v1 rfl rfl)
  have k2 := h2
  have lt2 : ∀ x ∈ p2, x.block < W.heap.size := by obtain ⟨m, hm⟩ := k2; exact DataW.trod_lt m _ _ _ hm
  obtain ⟨l2, n2, rfl⟩ := okWide_bytes Try.underlying24 Try.underlying5 (by kernel_rfl) (by kernel_rfl) (hval 2 24 v2 rfl rfl)
  clear hA0 hval0 hcnd
  refine (OtsKeys_walk l0 l1 l2 n0 n1.1 n1.2 n2 W).mono fun e W' ⟨he, bel⟩ => ?_
  subst he
  exact ⟨_, rfl, _, _, _, [], _, [], hW', trodAll_mk1 (shut_bool Try.underlying4 _), (trodAll_cons_mk (Below.trod laidOut (by kernel_rfl) (of_decide_eq_true (by kernel_rfl)) k0 bel lt0) (trodAll_cons_mk (Below.trod laidOut (by kernel_rfl) (of_decide_eq_true (by kernel_rfl)) k1 bel lt1) (trodAll_cons_mk (Below.trod laidOut (by kernel_rfl) (of_decide_eq_true (by kernel_rfl)) k2 bel lt2) trodAll_mk0))), rfl, bel.frame _, fun h => by cases h⟩

theorem OtsKeys_over : Rows.otsKeysRow.holds Try.pinned (OpenSpec.ofChange Rows.otsKeysSpec) :=
  OpenClaim.holds_of_wide 3 Try.f3 rfl rfl rfl rfl rfl rfl rfl ⟨rfl, rfl, rfl, rfl, rfl⟩ rfl rfl rfl rfl rfl (by kernel_rfl) Try.func3 (by kernel_rfl)
    (of_decide_eq_true (by kernel_rfl)) (by unfold Func.isWrapper; first | (rw [if_pos (by decide +kernel)]; kernel_rfl) | (rw [if_neg (by decide +kernel)]; exact ⟨rfl, rfl⟩))
    (fun os started H enc _ => OtsKeys_lifted os started H enc)

theorem OtsKeys_holds : Rows.OtsKeysSaid := OtsKeys_over
#print axioms OtsKeys_holds
end Go.Proofs.Ytbnjgldilckhpaa
