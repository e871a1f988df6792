/-
  LmsKeys: for any name, seed and height the public key by lms.Public is the document's, and a height that there is none of is refused by both. No conditions.
-/
import Derived.Test.YtbnjgldilckhpaaLmsLawB
namespace Go.Proofs.Ytbnjgldilckhpaa
set_option linter.unusedSimpArgs false
set_option linter.unusedVariables false
open Go.ChangeShapes Go.WideShapes Go.ChangeAt Go.RowKit
attribute [local irreducible] wpQuiet Calls wpLine wpSeq
set_option maxRecDepth 4000

set_option maxHeartbeats 4000000 in
theorem LmsKeys_walk (nm seed : List UInt8) (h : Int) (hnm : nm.length = 16) (hs : seed.length = 32) (h0 : -9223372036854775808 ≤ h) (h1 : h ≤ 9223372036854775807) (w : World) :
    Calls Try.prog 5 #[agg nm, agg seed, .int .i64 h] w fun e w' => e = .returned (.bool true) ∧ Below w.heap.size w w' := by
  have hF := Fr.start w
  have Hnm := Lib.hid hnm
  have Hs := Lib.hid hs
  by_cases hb : h < 1 ∨ 5 < h
  · by_cases d1 : h > 3
    · have d2 : ¬ h < 6 := by omega
      go_enter Try.func5, Try.ntmps5
      go_wp2_with (first | ((with_reducible apply wpl_box (x := Operand.tmp 0) hF); exact rfl; clear hF; intro bn _ hF) | ((with_reducible apply wpl_box (x := Operand.tmp 1) hF); exact rfl; clear hF; intro bd _ hF) | (go_at_call 19; refine (known6 _).mono ?_; rintro _ _ ⟨rfl, hb⟩; replace hF := hF.call hb; clear hb) | go_skip | ((with_reducible refine wpl_unguard ?_ ?_); (focus (go_simp; done))) | ((with_reducible apply wpl_load hF (T := 22) (hu := Try.underlying22)); exact rfl; (first | exact ⟨0, rfl⟩ | exact ⟨1, rfl⟩ | exact ⟨2, rfl⟩ | exact ⟨3, rfl⟩ | exact ⟨4, rfl⟩ | exact ⟨5, rfl⟩ | exact ⟨6, rfl⟩ | exact ⟨7, rfl⟩ | exact ⟨8, rfl⟩ | exact ⟨9, rfl⟩ | exact ⟨10, rfl⟩ | exact ⟨11, rfl⟩); exact info_nm Hnm.out) | ((with_reducible apply wpl_load hF (T := 24) (hu := Try.underlying24)); exact rfl; (first | exact ⟨0, rfl⟩ | exact ⟨1, rfl⟩ | exact ⟨2, rfl⟩ | exact ⟨3, rfl⟩ | exact ⟨4, rfl⟩ | exact ⟨5, rfl⟩ | exact ⟨6, rfl⟩ | exact ⟨7, rfl⟩ | exact ⟨8, rfl⟩ | exact ⟨9, rfl⟩ | exact ⟨10, rfl⟩ | exact ⟨11, rfl⟩); exact info_idl Hs.out) | (go_at_call 20; (refine (pubBadL nm Hnm.out seed Hs.out h hb _).mono ?_; rintro _ _ ⟨rfl, hb⟩; replace hF := hF.call hb; clear hb)) | (go_at_call 21; (refine (pubBadR nm Hnm.out seed Hs.out h hb _).mono ?_; rintro _ _ ⟨rfl, hb⟩; replace hF := hF.call hb; clear hb)) | ((with_reducible apply wpl_toSt ([]) (hS := Try.underlying28) (he := Try.underlying5) (hT := Try.underlying9)); exact rfl; exact rfl; exact Sl.nil _ _) | ((with_reducible apply wpl_eqSt (m := [])); exact rfl; exact rfl))
      go_ret
      exact ⟨rfl, hF.below⟩
    · go_enter Try.func5, Try.ntmps5
      go_wp2_with (first | ((with_reducible apply wpl_box (x := Operand.tmp 0) hF); exact rfl; clear hF; intro bn _ hF) | ((with_reducible apply wpl_box (x := Operand.tmp 1) hF); exact rfl; clear hF; intro bd _ hF) | (go_at_call 19; refine (known6 _).mono ?_; rintro _ _ ⟨rfl, hb⟩; replace hF := hF.call hb; clear hb) | go_skip | ((with_reducible refine wpl_unguard ?_ ?_); (focus (go_simp; done))) | ((with_reducible apply wpl_load hF (T := 22) (hu := Try.underlying22)); exact rfl; (first | exact ⟨0, rfl⟩ | exact ⟨1, rfl⟩ | exact ⟨2, rfl⟩ | exact ⟨3, rfl⟩ | exact ⟨4, rfl⟩ | exact ⟨5, rfl⟩ | exact ⟨6, rfl⟩ | exact ⟨7, rfl⟩ | exact ⟨8, rfl⟩ | exact ⟨9, rfl⟩ | exact ⟨10, rfl⟩ | exact ⟨11, rfl⟩); exact info_nm Hnm.out) | ((with_reducible apply wpl_load hF (T := 24) (hu := Try.underlying24)); exact rfl; (first | exact ⟨0, rfl⟩ | exact ⟨1, rfl⟩ | exact ⟨2, rfl⟩ | exact ⟨3, rfl⟩ | exact ⟨4, rfl⟩ | exact ⟨5, rfl⟩ | exact ⟨6, rfl⟩ | exact ⟨7, rfl⟩ | exact ⟨8, rfl⟩ | exact ⟨9, rfl⟩ | exact ⟨10, rfl⟩ | exact ⟨11, rfl⟩); exact info_idl Hs.out) | (go_at_call 20; (refine (pubBadL nm Hnm.out seed Hs.out h hb _).mono ?_; rintro _ _ ⟨rfl, hb⟩; replace hF := hF.call hb; clear hb)) | (go_at_call 21; (refine (pubBadR nm Hnm.out seed Hs.out h hb _).mono ?_; rintro _ _ ⟨rfl, hb⟩; replace hF := hF.call hb; clear hb)) | ((with_reducible apply wpl_toSt ([]) (hS := Try.underlying28) (he := Try.underlying5) (hT := Try.underlying9)); exact rfl; exact rfl; exact Sl.nil _ _) | ((with_reducible apply wpl_eqSt (m := [])); exact rfl; exact rfl))
      go_ret
      exact ⟨rfl, hF.below⟩
  · obtain ⟨k, rfl⟩ : ∃ k : Nat, h = (k : Int) := ⟨h.toNat, by omega⟩
    by_cases d1 : (k : Int) > 3
    · have d2 : (k : Int) < 6 := by omega
      obtain ⟨y, hy⟩ : ∃ y, lpub nm seed 3 = y := ⟨_, rfl⟩
      have Hy := Lib.hid hy
      have Hyl := Lib.hid (show y.length = 56 by rw [← hy]; exact lpub_length hnm 3)
      clear hy
      go_enter Try.func5, Try.ntmps5
      go_wp2_with (first | ((with_reducible apply wpl_box (x := Operand.tmp 0) hF); exact rfl; clear hF; intro bn _ hF) | ((with_reducible apply wpl_box (x := Operand.tmp 1) hF); exact rfl; clear hF; intro bd _ hF) | (go_at_call 19; refine (known6 _).mono ?_; rintro _ _ ⟨rfl, hb⟩; replace hF := hF.call hb; clear hb) | go_skip | ((with_reducible refine wpl_unguard ?_ ?_); (focus (go_simp; done))) | ((with_reducible apply wpl_load hF (T := 22) (hu := Try.underlying22)); exact rfl; (first | exact ⟨0, rfl⟩ | exact ⟨1, rfl⟩ | exact ⟨2, rfl⟩ | exact ⟨3, rfl⟩ | exact ⟨4, rfl⟩ | exact ⟨5, rfl⟩ | exact ⟨6, rfl⟩ | exact ⟨7, rfl⟩ | exact ⟨8, rfl⟩ | exact ⟨9, rfl⟩ | exact ⟨10, rfl⟩ | exact ⟨11, rfl⟩); exact info_nm Hnm.out) | ((with_reducible apply wpl_load hF (T := 24) (hu := Try.underlying24)); exact rfl; (first | exact ⟨0, rfl⟩ | exact ⟨1, rfl⟩ | exact ⟨2, rfl⟩ | exact ⟨3, rfl⟩ | exact ⟨4, rfl⟩ | exact ⟨5, rfl⟩ | exact ⟨6, rfl⟩ | exact ⟨7, rfl⟩ | exact ⟨8, rfl⟩ | exact ⟨9, rfl⟩ | exact ⟨10, rfl⟩ | exact ⟨11, rfl⟩); exact info_idl Hs.out) | (go_at_call 20; (refine (pubL nm Hnm.out seed Hs.out 3 (by omega) (by omega) _).mono ?_; rintro _ _ ⟨b1, c1, t1, rfl, hc1, hm⟩; rw [Hy.out] at hm; replace hF := hF.took hm; clear hm; have H1 := Lib.hid hc1; clear hc1)) | (go_at_call 21; (refine (pubR nm Hnm.out seed Hs.out 3 (by omega) (by omega) _).mono ?_; rintro _ _ ⟨b2, c2, t2, rfl, hc2, hm⟩; rw [Hy.out] at hm; replace hF := hF.took hm; clear hm; have H2 := Lib.hid hc2; clear hc2)) | ((with_reducible apply wpl_toSt (y) (hS := Try.underlying28) (he := Try.underlying5) (hT := Try.underlying9)); exact rfl; exact Hyl.out; exact (by first | exact Sl.pre hF ⟨2, rfl⟩ | exact Sl.pre hF ⟨3, rfl⟩)) | ((with_reducible apply wpl_eqSt (m := y)); exact rfl; exact rfl))
      go_ret
      exact ⟨rfl, hF.below⟩
    · obtain ⟨y, hy⟩ : ∃ y, lpub nm seed k = y := ⟨_, rfl⟩
      have Hy := Lib.hid hy
      have Hyl := Lib.hid (show y.length = 56 by rw [← hy]; exact lpub_length hnm k)
      clear hy
      go_enter Try.func5, Try.ntmps5
      go_wp2_with (first | ((with_reducible apply wpl_box (x := Operand.tmp 0) hF); exact rfl; clear hF; intro bn _ hF) | ((with_reducible apply wpl_box (x := Operand.tmp 1) hF); exact rfl; clear hF; intro bd _ hF) | (go_at_call 19; refine (known6 _).mono ?_; rintro _ _ ⟨rfl, hb⟩; replace hF := hF.call hb; clear hb) | go_skip | ((with_reducible refine wpl_unguard ?_ ?_); (focus (go_simp; done))) | ((with_reducible apply wpl_load hF (T := 22) (hu := Try.underlying22)); exact rfl; (first | exact ⟨0, rfl⟩ | exact ⟨1, rfl⟩ | exact ⟨2, rfl⟩ | exact ⟨3, rfl⟩ | exact ⟨4, rfl⟩ | exact ⟨5, rfl⟩ | exact ⟨6, rfl⟩ | exact ⟨7, rfl⟩ | exact ⟨8, rfl⟩ | exact ⟨9, rfl⟩ | exact ⟨10, rfl⟩ | exact ⟨11, rfl⟩); exact info_nm Hnm.out) | ((with_reducible apply wpl_load hF (T := 24) (hu := Try.underlying24)); exact rfl; (first | exact ⟨0, rfl⟩ | exact ⟨1, rfl⟩ | exact ⟨2, rfl⟩ | exact ⟨3, rfl⟩ | exact ⟨4, rfl⟩ | exact ⟨5, rfl⟩ | exact ⟨6, rfl⟩ | exact ⟨7, rfl⟩ | exact ⟨8, rfl⟩ | exact ⟨9, rfl⟩ | exact ⟨10, rfl⟩ | exact ⟨11, rfl⟩); exact info_idl Hs.out) | (go_at_call 20; (refine (pubL nm Hnm.out seed Hs.out k (by omega) (by omega) _).mono ?_; rintro _ _ ⟨b1, c1, t1, rfl, hc1, hm⟩; rw [Hy.out] at hm; replace hF := hF.took hm; clear hm; have H1 := Lib.hid hc1; clear hc1)) | (go_at_call 21; (refine (pubR nm Hnm.out seed Hs.out k (by omega) (by omega) _).mono ?_; rintro _ _ ⟨b2, c2, t2, rfl, hc2, hm⟩; rw [Hy.out] at hm; replace hF := hF.took hm; clear hm; have H2 := Lib.hid hc2; clear hc2)) | ((with_reducible apply wpl_toSt (y) (hS := Try.underlying28) (he := Try.underlying5) (hT := Try.underlying9)); exact rfl; exact Hyl.out; exact (by first | exact Sl.pre hF ⟨2, rfl⟩ | exact Sl.pre hF ⟨3, rfl⟩)) | ((with_reducible apply wpl_eqSt (m := y)); exact rfl; exact rfl))
      go_ret
      exact ⟨rfl, hF.below⟩

set_option maxRecDepth 100000 in
theorem LmsKeys_lifted (os : Os) (started : os.Started) (H : Type) (enc : TypeId × Value → H) :
    ReturnsInHanded {} Try.checked os 5 .any (Rows.lmsKeysSpec.pre6 enc Try.prog Try.f5 Rows.lmsKeysRow.domain false) (Rows.lmsKeysSpec.post enc Try.prog Try.f5 false true false false) := by
  refine returnsInHanded_of_change (C := Try.checked) own started (by kernel_rfl) Try.func5
    (ChangeSpec.witness6 (enc := enc) (C := Try.checked) false ⟨#[], #[.agg (Array.replicate 16 (.int .u8 0)), .agg (Array.replicate 32 (.int .u8 0)), .int .i64 0], []⟩ 8 (by kernel_rfl) (by kernel_rfl) (by kernel_rfl) (by kernel_rfl)) ?_
  intro W base args ds gs before hval0 hW hcnd _
  have hval : ∀ (j : Nat) t v, Try.f5.params[j]? = some t → args[j]? = some v → Value.okWide Try.prog W .any base t v := hval0
  have hW' := hW
  obtain ⟨p, q, hA0, hV, rfl, hfz, hnd⟩ := hW
  have hA : DataW.TrodAll enc Try.prog W 0 (fun _ => true) true Try.f5.params.toList args.toList ds p := hA0
  rw [Try.params5] at hA hval
  obtain ⟨v0, vs0, d0, ds0, p0, q0, hargs, rfl, rfl, h0, r0⟩ := trodAll_cons hA
  obtain ⟨v1, vs1, d1, ds1, p1, q1, rfl, rfl, rfl, h1, r1⟩ := trodAll_cons r0
  obtain ⟨v2, vs2, d2, ds2, p2, q2, rfl, rfl, rfl, h2, r2⟩ := trodAll_cons r1
  obtain ⟨rfl, rfl, rfl⟩ := trodAll_nil r2
  obtain rfl : args = #[v0, v1, v2] := by cases args; simp_all
  obtain ⟨rfl, rfl⟩ := trodVars_none hV
  have k0 := h0
  have lt0 : ∀ x ∈ p0, x.block < W.heap.size := by obtain ⟨m, hm⟩ := k0; exact DataW.trod_lt m _ _ _ hm
  obtain ⟨l0, n0, rfl⟩ := okWide_bytes Try.underlying22 Try.underlying5 (by kernel_rfl) (by kernel_rfl) (hval 0 22 v0 rfl rfl)
  have k1 := h1
  have lt1 : ∀ x ∈ p1, x.block < W.heap.size := by obtain ⟨m, hm⟩ := k1; exact DataW.trod_lt m _ _ _ hm
  obtain ⟨l1, n1, rfl⟩ := okWide_bytes Try.underlying24 Try.underlying5 (by kernel_rfl) (by kernel_rfl) (hval 1 24 v1 rfl rfl)
  have k2 := h2
  have lt2 : ∀ x ∈ p2, x.block < W.heap.size := by obtain ⟨m, hm⟩ := k2; exact DataW.trod_lt m _ _ _ hm
  obtain ⟨l2, rfl, n2⟩ := okWide_i64 Try.underlying3 (hval 2 3 v2 rfl rfl)
  clear hA0 hval0 hcnd
  refine (LmsKeys_walk l0 l1 l2 n0 n1 n2.1 n2.2 W).mono fun e W' ⟨he, bel⟩ => ?_
  subst he
  exact ⟨_, rfl, _, _, _, [], _, [], hW', trodAll_mk1 (shut_bool Try.underlying4 _), (trodAll_cons_mk (Below.trod laidOut (by kernel_rfl) (of_decide_eq_true (by kernel_rfl)) k0 bel lt0) (trodAll_cons_mk (Below.trod laidOut (by kernel_rfl) (of_decide_eq_true (by kernel_rfl)) k1 bel lt1) (trodAll_cons_mk (Below.trod laidOut (by kernel_rfl) (of_decide_eq_true (by kernel_rfl)) k2 bel lt2) trodAll_mk0))), rfl, bel.frame _, fun h => by cases h⟩

theorem LmsKeys_over : Rows.lmsKeysRow.holds Try.pinned (OpenSpec.ofChange Rows.lmsKeysSpec) :=
  OpenClaim.holds_of_wide 5 Try.f5 rfl rfl rfl rfl rfl rfl rfl ⟨rfl, rfl, rfl, rfl, rfl⟩ rfl rfl rfl rfl rfl (by kernel_rfl) Try.func5 (by kernel_rfl)
    (of_decide_eq_true (by kernel_rfl)) (by unfold Func.isWrapper; first | (rw [if_pos (by decide +kernel)]; kernel_rfl) | (rw [if_neg (by decide +kernel)]; exact ⟨rfl, rfl⟩))
    (fun os started H enc _ => LmsKeys_lifted os started H enc)

theorem LmsKeys_holds : Rows.LmsKeysSaid := LmsKeys_over
#print axioms LmsKeys_holds
end Go.Proofs.Ytbnjgldilckhpaa
