/-
  IdentNodes: for every two numbers from 0 to 255 the node's id is the document's, and the ids are alike just if the numbers are. No conditions.
-/
import Derived.Test.YtnocldlfmkmiaaaIdLaws
import Derived.Test.YtnocldlfmkmiaaaOf
import Derived.Test.YtnocldlfmkmiaaaArgs
namespace Go.Proofs.Ytnocldlfmkmiaaa
set_option linter.unusedSimpArgs false
set_option linter.unusedVariables false
open Go.ChangeShapes Go.WideShapes Go.ChangeAt Go.RowKit
attribute [local irreducible] wpQuiet Calls
set_option maxRecDepth 4000

theorem b8_small (i : Int) (h0 : 0 ≤ i) (h1 : i ≤ 255) : b8 i = UInt8.ofNat i.toNat := by
  apply UInt8.toNat_inj.1
  have := b8_toNat i
  rw [UInt8.toNat_ofNat']
  omega

set_option maxHeartbeats 2000000 in
theorem IdentNodes_walk (i j : Int) (i1 : -9223372036854775808 ≤ i) (i2 : i ≤ 9223372036854775807) (j1 : -9223372036854775808 ≤ j) (j2 : j ≤ 9223372036854775807) (w : World) :
    Calls Try.prog 14 #[.int .i64 i, .int .i64 j] w fun e w' => e = .returned (.bool true) ∧ Below w.heap.size w w' := by
  have hF := Fr.start w
  clear i1 i2 j1 j2
  by_cases hi0 : i < 0
  · go_enter Try.func14, Try.ntmps14
    go_wp2_with (first | (go_at_call 19; refine (known2 _).mono ?_; rintro _ _ ⟨rfl, hb⟩; replace hF := hF.call hb; clear hb))
    go_ret
    exact ⟨rfl, hF.below⟩
  have a0 : 0 ≤ i := by omega
  have a0' : decide (i < 0) = false := by simpa using hi0
  by_cases hi1 : 255 < i
  · go_enter Try.func14, Try.ntmps14
    go_wp2_with (first | (go_at_call 19; refine (known2 _).mono ?_; rintro _ _ ⟨rfl, hb⟩; replace hF := hF.call hb; clear hb))
    go_ret
    exact ⟨rfl, hF.below⟩
  have a1 : i ≤ 255 := by omega
  have a1' : decide (255 < i) = false := by simpa using hi1
  by_cases hj0 : j < 0
  · go_enter Try.func14, Try.ntmps14
    go_wp2_with (first | (go_at_call 19; refine (known2 _).mono ?_; rintro _ _ ⟨rfl, hb⟩; replace hF := hF.call hb; clear hb))
    go_ret
    exact ⟨rfl, hF.below⟩
  have c0 : 0 ≤ j := by omega
  have c0' : decide (j < 0) = false := by simpa using hj0
  by_cases hj1 : 255 < j
  · go_enter Try.func14, Try.ntmps14
    go_wp2_with (first | (go_at_call 19; refine (known2 _).mono ?_; rintro _ _ ⟨rfl, hb⟩; replace hF := hF.call hb; clear hb))
    go_ret
    exact ⟨rfl, hF.below⟩
  have c1 : j ≤ 255 := by omega
  have c1' : decide (255 < j) = false := by simpa using hj1
  clear hi0 hi1 hj0 hj1
  by_cases he : i = j
  · subst he
    have e1 : (i == i) = true := by simp
    obtain ⟨x, hx⟩ : ∃ x, x = nodeId (b8 i) := ⟨_, rfl⟩
    have hxl : x.length = 32 := by rw [hx]; exact nodeId_length _
    have Hx := Lib.hid hx.symm
    have Hxl := Lib.hid hxl
    clear hx hxl
    go_enter Try.func14, Try.ntmps14
    go_wp2_with (first | (go_at_call 19; refine (known2 _).mono ?_; rintro _ _ ⟨rfl, hb⟩; replace hF := hF.call hb; clear hb) | (go_at_call 35; refine (identOf _ _).mono ?_; rintro _ _ ⟨rfl, hb⟩; rw [Hx.out]; replace hF := hF.call hb; clear hb) | (go_at_call 36; refine (refOf _ _).mono ?_; rintro _ _ ⟨rfl, hb⟩; rw [Hx.out]; replace hF := hF.call hb; clear hb) | go_skip | ((with_reducible refine wpl_unguard ?_ ?_); (focus (go_simp; done))) | ((with_reducible apply wpl_eqbytes2 (T := 29)); exact rfl; exact rfl; exact Try.eqGuardType29; exact (fun w => run_eq_id w _ _ (by first | exact Hxl.out | exact Hyl.out) (by first | exact Hxl.out | exact Hyl.out))))
    go_ret
    exact ⟨by simp, hF.below⟩
  · have e1 : (i == j) = false := by simpa using he
    have hne : ¬ nodeId (b8 i) = nodeId (b8 j) := by
      rw [b8_small i a0 a1, b8_small j c0 c1]
      intro h
      have := nodeId_inj i.toNat j.toNat (by omega) (by omega) h
      omega
    obtain ⟨x, hx⟩ : ∃ x, x = nodeId (b8 i) := ⟨_, rfl⟩
    obtain ⟨y, hy⟩ : ∃ y, y = nodeId (b8 j) := ⟨_, rfl⟩
    have hxl : x.length = 32 := by rw [hx]; exact nodeId_length _
    have hyl : y.length = 32 := by rw [hy]; exact nodeId_length _
    rw [← hx, ← hy] at hne
    have hd : decide (x = y) = false := by simpa using hne
    have Hx := Lib.hid hx.symm
    have Hy := Lib.hid hy.symm
    have Hxl := Lib.hid hxl
    have Hyl := Lib.hid hyl
    clear hx hxl hy hyl hne he
    go_enter Try.func14, Try.ntmps14
    go_wp2_with (first | (go_at_call 19; refine (known2 _).mono ?_; rintro _ _ ⟨rfl, hb⟩; replace hF := hF.call hb; clear hb) | (go_at_call 35; refine (identOf _ _).mono ?_; rintro _ _ ⟨rfl, hb⟩; (first | rw [Hx.out] | rw [Hy.out]); replace hF := hF.call hb; clear hb) | (go_at_call 36; refine (refOf _ _).mono ?_; rintro _ _ ⟨rfl, hb⟩; rw [Hx.out]; replace hF := hF.call hb; clear hb) | go_skip | ((with_reducible refine wpl_unguard ?_ ?_); (focus (go_simp; done))) | ((with_reducible apply wpl_eqbytes2 (T := 29)); exact rfl; exact rfl; exact Try.eqGuardType29; exact (fun w => run_eq_id w _ _ (by first | exact Hxl.out | exact Hyl.out) (by first | exact Hxl.out | exact Hyl.out))))
    go_ret
    exact ⟨by simp, hF.below⟩

set_option maxRecDepth 100000 in
theorem IdentNodes_lifted (os : Os) (started : os.Started) (H : Type) (enc : TypeId × Value → H) :
    ReturnsInHanded {} Try.checked os 14 .any (Rows.identNodesSpec.pre6 enc Try.prog Try.f14 Rows.identNodesRow.domain false) (Rows.identNodesSpec.post enc Try.prog Try.f14 false true false false) := by
  refine returnsInHanded_of_change (C := Try.checked) own started (by kernel_rfl) Try.func14
    (ChangeSpec.witness6 (enc := enc) (C := Try.checked) false ⟨#[], #[.int .i64 0, .int .i64 0], []⟩ 8 (by kernel_rfl) (by kernel_rfl) (by kernel_rfl) (by kernel_rfl)) ?_
  intro W base args ds gs before hval0 hW hcnd _
  have hval : ∀ (j : Nat) t v, Try.f14.params[j]? = some t → args[j]? = some v → Value.okWide Try.prog W .any base t v := hval0
  have hW' := hW
  obtain ⟨p, q, hA0, hV, rfl, hfz, hnd⟩ := hW
  have hA : DataW.TrodAll enc Try.prog W 0 (fun _ => true) true Try.f14.params.toList args.toList ds p := hA0
  rw [Try.params14] at hA hval
  obtain ⟨v0, vs0, d0, ds0, p0, q0, hargs, rfl, rfl, h0, r0⟩ := trodAll_cons hA
  obtain ⟨v1, vs1, d1, ds1, p1, q1, rfl, rfl, rfl, h1, r1⟩ := trodAll_cons r0
  obtain ⟨rfl, rfl, rfl⟩ := trodAll_nil r1
  obtain rfl : args = #[v0, v1] := by cases args; simp_all
  obtain ⟨rfl, rfl⟩ := trodVars_none hV
  have k0 := h0
  have lt0 : ∀ x ∈ p0, x.block < W.heap.size := by obtain ⟨m, hm⟩ := k0; exact DataW.trod_lt m _ _ _ hm
  obtain ⟨l0, rfl, n0⟩ := okWide_i64 Try.underlying3 (hval 0 3 v0 rfl rfl)
  have k1 := h1
  have lt1 : ∀ x ∈ p1, x.block < W.heap.size := by obtain ⟨m, hm⟩ := k1; exact DataW.trod_lt m _ _ _ hm
  obtain ⟨l1, rfl, n1⟩ := okWide_i64 Try.underlying3 (hval 1 3 v1 rfl rfl)
  clear hA0 hval0 hcnd
  refine (IdentNodes_walk l0 l1 n0.1 n0.2 n1.1 n1.2 W).mono fun e W' ⟨he, bel⟩ => ?_
  subst he
  exact ⟨_, rfl, _, _, _, [], _, [], hW', trodAll_mk1 (shut_bool Try.underlying4 _), (trodAll_cons_mk (Below.trod laidOut (by kernel_rfl) (of_decide_eq_true (by kernel_rfl)) k0 bel lt0) (trodAll_cons_mk (Below.trod laidOut (by kernel_rfl) (of_decide_eq_true (by kernel_rfl)) k1 bel lt1) trodAll_mk0)), rfl, bel.frame _, fun h => by cases h⟩

theorem IdentNodes_over : Rows.identNodesRow.holds Try.pinned (OpenSpec.ofChange Rows.identNodesSpec) :=
  OpenClaim.holds_of_wide 14 Try.f14 rfl rfl rfl rfl rfl rfl rfl ⟨rfl, rfl, rfl, rfl, rfl⟩ rfl rfl rfl rfl rfl (by kernel_rfl) Try.func14 (by kernel_rfl)
    (of_decide_eq_true (by kernel_rfl)) (by unfold Func.isWrapper; first | (rw [if_pos (by decide +kernel)]; kernel_rfl) | (rw [if_neg (by decide +kernel)]; exact ⟨rfl, rfl⟩))
    (fun os started H enc _ => IdentNodes_lifted os started H enc)

theorem IdentNodes_holds : Rows.IdentNodesSaid := IdentNodes_over
#print axioms IdentNodes_holds
end Go.Proofs.Ytnocldlfmkmiaaa
