/-
  ShaSizes: for every length from 0 to 600, and every byte, the hash of that many bytes, each one more than the one ahead of it, is the document's. No conditions.
-/
import Derived.Test.YtnocldlfmkmiaaaEq
import Derived.Test.YtnocldlfmkmiaaaArgs
namespace Go.Proofs.Ytnocldlfmkmiaaa
set_option linter.unusedSimpArgs false
set_option linter.unusedVariables false
open Go.ChangeShapes Go.WideShapes Go.ChangeAt Go.RowKit
attribute [local irreducible] wpQuiet Calls
set_option maxRecDepth 4000

set_option maxHeartbeats 2000000 in
theorem ShaSizes_walk (n : Int) (by_ : UInt8) (hn1 : -9223372036854775808 ≤ n) (hn2 : n ≤ 9223372036854775807) (w : World) :
    Calls Try.prog 10 #[.int .i64 n, B by_] w fun e w' => e = .returned (.bool true) ∧ Below w.heap.size w w' := by
  have hF := Fr.start w
  clear hn1 hn2
  by_cases hneg : n < 0
  · go_enter Try.func10, Try.ntmps10
    go_wp2_with (first | (go_at_call 29; refine (known1 _).mono ?_; rintro _ _ ⟨rfl, hb⟩; replace hF := hF.call hb; clear hb))
    go_ret
    exact ⟨rfl, hF.below⟩
  · by_cases hbig : 600 < n
    · have hneg' : decide (n < 0) = false := by simpa using hneg
      go_enter Try.func10, Try.ntmps10
      go_wp2_with (first | (go_at_call 29; refine (known1 _).mono ?_; rintro _ _ ⟨rfl, hb⟩; replace hF := hF.call hb; clear hb))
      go_ret
      exact ⟨rfl, hF.below⟩
    · obtain ⟨m, rfl⟩ : ∃ m : Nat, n = (m : Int) := ⟨n.toNat, by omega⟩
      have hm : m ≤ 600 := by omega
      have hm' : (m : Int) ≤ 600 := by omega
      have hm0 : (0 : Int) ≤ (m : Int) := by omega
      clear hneg hbig
      go_enter Try.func10, Try.ntmps10
      go_wp2_with (first | (go_at_call 29; refine (known1 _).mono ?_; rintro _ _ ⟨rfl, hb⟩; replace hF := hF.call hb; clear hb) | ((with_reducible apply wpl_make hF (ht := Try.underlying43) (he := byteElem)); exact rfl; exact rfl; (focus omega); (focus omega); (focus omega); (focus omega); clear hF; intro g _ hF; rw [Int.toNat_natCast, bs_replicate] at hF; rw [Int.toNat_natCast]))
      go_loopw [6] (fun t wr => ∃ (i : Nat) (X : List UInt8), i ≤ m ∧ t = .int .i64 i ∧ Hid (X.length = m) ∧ Fr w wr [⟨g, bs X, 5⟩]) (fun t _ => m - (intOf t).toNat)
      case atStart => exact ⟨0, _, by omega, rfl, Lib.hid (List.length_replicate), hF⟩
      case round =>
        clear hF
        obtain ⟨i, X, hi, rfl, hX, hF⟩ := hrel
        by_cases hlt : i < m
        · have d1 : (0 : Int) ≤ (i : Int) := by omega
          have d2 : (i : Int) < (m : Int) := by omega
          go_wp2_with (first | ((with_reducible apply wpl_storeB hF 0 (T := 5)); exact rfl; exact rfl; exact rfl; exact info_u8_; (focus (rw [hX.out]; omega)); clear hF; intro _ hF))
          go_roundw
          case rel => exact ⟨i + 1, _, by omega, by go_num, Lib.hid (by rw [List.length_set]; exact hX.out), hF⟩
          case measure => simp [intOf]; omega
        · obtain rfl : i = m := by omega
          have d2 : ¬ (i : Int) < (i : Int) := by omega
          clear hlt
          go_wp2_with (first | (go_at_call 30; refine (shaSum (X) _ _ _ (hX.out) _ (Sl.whole hF ⟨0, rfl⟩) (by omega)).mono ?_; rintro _ _ ⟨rfl, hb⟩; replace hF := hF.call hb; clear hb) | (go_at_call 31; refine (refSum (X) _ _ _ (hX.out) _ (Sl.whole hF ⟨0, rfl⟩) (by omega)).mono ?_; rintro _ _ ⟨rfl, hb⟩; replace hF := hF.call hb; clear hb) | ((with_reducible apply wpl_eqbytes (T := 29)); exact rfl; exact rfl; exact Try.eqGuardType29; exact (fun w => run_eqId w _ _ (by first | assumption | exact hash_length _ | exact Hxl.out) (by first | assumption | exact hash_length _ | exact Hxl.out))))
          go_ret
          exact ⟨by simp, hF.below⟩

set_option maxRecDepth 100000 in
theorem ShaSizes_lifted (os : Os) (started : os.Started) (H : Type) (enc : TypeId × Value → H) :
    ReturnsInHanded {} Try.checked os 10 .any (Rows.shaSizesSpec.pre6 enc Try.prog Try.f10 Rows.shaSizesRow.domain false) (Rows.shaSizesSpec.post enc Try.prog Try.f10 false true false false) := by
  refine returnsInHanded_of_change (C := Try.checked) own started (by kernel_rfl) Try.func10
    (ChangeSpec.witness6 (enc := enc) (C := Try.checked) false ⟨#[], #[.int .i64 0, .int .u8 0], []⟩ 8 (by kernel_rfl) (by kernel_rfl) (by kernel_rfl) (by kernel_rfl)) ?_
  intro W base args ds gs before hval0 hW hcnd _
  have hval : ∀ (j : Nat) t v, Try.f10.params[j]? = some t → args[j]? = some v → Value.okWide Try.prog W .any base t v := hval0
  have hW' := hW
  obtain ⟨p, q, hA0, hV, rfl, hfz, hnd⟩ := hW
  have hA : DataW.TrodAll enc Try.prog W 0 (fun _ => true) true Try.f10.params.toList args.toList ds p := hA0
  rw [Try.params10] at hA hval
  obtain ⟨v0, vs0, d0, ds0, p0, q0, hargs, rfl, rfl, h0, r0⟩ := trodAll_cons hA
  obtain ⟨v1, vs1, d1, ds1, p1, q1, rfl, rfl, rfl, h1, r1⟩ := trodAll_cons r0
  obtain ⟨rfl, rfl, rfl⟩ := trodAll_nil r1
  obtain rfl : args = #[v0, v1] := by cases args; simp_all
  obtain ⟨rfl, rfl⟩ := trodVars_none hV
  have k0 := h0
  have lt0 : ∀ x ∈ p0, x.block < W.heap.size := by obtain ⟨m, hm⟩ := k0; exact DataW.trod_lt m _ _ _ hm
  obtain ⟨l0, rfl, n0⟩ := okWide_i64 Try.underlying3 (hval 0 3 v0 rfl rfl)
  have k1 := h1
  have lt1 : ∀ x ∈ p1, x.block < W.heap.size := by obtain ⟨m, hm⟩ := k1; exact DataW.trod_lt m _ _ _ hm
  obtain ⟨l1, rfl⟩ := okWide_u8 Try.underlying5 (hval 1 5 v1 rfl rfl)
  clear hA0 hval0 hcnd
  refine (ShaSizes_walk l0 l1 n0.1 n0.2  W).mono fun e W' ⟨he, bel⟩ => ?_
  subst he
  exact ⟨_, rfl, _, _, _, [], _, [], hW', trodAll_mk1 (shut_bool Try.underlying4 _), (trodAll_cons_mk (Below.trod laidOut (by kernel_rfl) (of_decide_eq_true (by kernel_rfl)) k0 bel lt0) (trodAll_cons_mk (Below.trod laidOut (by kernel_rfl) (of_decide_eq_true (by kernel_rfl)) k1 bel lt1) trodAll_mk0)), rfl, bel.frame _, fun h => by cases h⟩

theorem ShaSizes_over : Rows.shaSizesRow.holds Try.pinned (OpenSpec.ofChange Rows.shaSizesSpec) :=
  OpenClaim.holds_of_wide 10 Try.f10 rfl rfl rfl rfl rfl rfl rfl ⟨rfl, rfl, rfl, rfl, rfl⟩ rfl rfl rfl rfl rfl (by kernel_rfl) Try.func10 (by kernel_rfl)
    (of_decide_eq_true (by kernel_rfl)) (by unfold Func.isWrapper; first | (rw [if_pos (by decide +kernel)]; kernel_rfl) | (rw [if_neg (by decide +kernel)]; exact ⟨rfl, rfl⟩))
    (fun os started H enc _ => ShaSizes_lifted os started H enc)

theorem ShaSizes_holds : Rows.ShaSizesSaid := ShaSizes_over
#print axioms ShaSizes_holds
end Go.Proofs.Ytnocldlfmkmiaaa
