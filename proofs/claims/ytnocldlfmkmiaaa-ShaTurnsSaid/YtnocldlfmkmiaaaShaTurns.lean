/-
  ShaTurns: for any bytes, up to 1000, where one byte is turned the hash is another one, should the document's hashes not meet. No conditions.
-/
import Derived.Test.YtnocldlfmkmiaaaEq
import Derived.Test.YtnocldlfmkmiaaaArgs2
namespace Go.Proofs.Ytnocldlfmkmiaaa
set_option linter.unusedSimpArgs false
set_option linter.unusedVariables false
open Go.ChangeShapes Go.WideShapes Go.ChangeAt Go.RowKit
attribute [local irreducible] wpQuiet Calls
set_option maxRecDepth 4000

set_option maxHeartbeats 4000000 in
theorem ShaTurns_walk (a0 : Option Addr) (len0 cap0 : Nat) (z0 : List UInt8) (at_ : Int) (by_ : UInt8) {w : World} (n0 : IsB w a0 len0 cap0 z0) (m1 : -9223372036854775808 ≤ at_) (m2 : at_ ≤ 9223372036854775807) :
    Calls Try.prog 11 #[.slice a0 len0 cap0, .int .i64 at_, B by_] w fun e w' => e = .returned (.bool true) ∧ Below w.heap.size w w' := by
  have hF := Fr.start w
  obtain ⟨h0, c0, r0, s0⟩ := n0
  have b0 : z0.length ≤ len0 := by omega
  have b0' : len0 ≤ z0.length := by omega
  have H0 := Lib.hid h0
  clear h0
  by_cases hz : len0 = 0
  · subst hz
    go_enter Try.func11, Try.ntmps11
    go_wp2_with (first | (go_at_call 29; refine (known1 _).mono ?_; rintro _ _ ⟨rfl, hb⟩; replace hF := hF.call hb; clear hb))
    go_ret
    exact ⟨rfl, hF.below⟩
  have z1 : ((len0 : Int) == 0) = false := by rw [beq_eq_false_iff_ne]; omega
  have z2 : decide ((len0 : Int) = 0) = false := by rw [decide_eq_false_iff_not]; omega
  have z3 : (len0 = 0) = False := by simp [hz]
  by_cases hb : 1000 < len0
  · have hb' : (1000 : Int) < (len0 : Int) := by omega
    go_enter Try.func11, Try.ntmps11
    go_wp2_with (first | (go_at_call 29; refine (known1 _).mono ?_; rintro _ _ ⟨rfl, hb⟩; replace hF := hF.call hb; clear hb))
    go_ret
    exact ⟨rfl, hF.below⟩
  have hb1 : ¬ (1000 : Int) < (len0 : Int) := by omega
  have hb2 : decide ((1000 : Int) < (len0 : Int)) = false := by rw [decide_eq_false_iff_not]; omega
  by_cases hy : by_ = 0
  · subst hy
    go_enter Try.func11, Try.ntmps11
    go_wp2_with (first | (go_at_call 29; refine (known1 _).mono ?_; rintro _ _ ⟨rfl, hb⟩; replace hF := hF.call hb; clear hb))
    go_ret
    exact ⟨rfl, hF.below⟩
  have y1 : ¬ ((by_.toNat : Int) = 0) := fun h => hy (UInt8.toNat_inj.1 (by simpa using h))
  have y2 : decide ((by_.toNat : Int) = 0) = false := by simpa using y1
  have y3 : (by_.toNat = 0) = False := by simp; exact fun h => y1 (by omega)
  by_cases hn : at_ < 0
  · go_enter Try.func11, Try.ntmps11
    go_wp2_with (first | (go_at_call 29; refine (known1 _).mono ?_; rintro _ _ ⟨rfl, hb⟩; replace hF := hF.call hb; clear hb))
    go_ret
    exact ⟨rfl, hF.below⟩
  have hn2 : decide (at_ < 0) = false := by simpa using hn
  have hn3 : 0 ≤ at_ := by omega
  obtain ⟨i, hi⟩ : ∃ i : Nat, at_ % (len0 : Int) = (i : Int) := ⟨(at_ % (len0 : Int)).toNat, by have := Int.emod_nonneg at_ (b := (len0 : Int)) (by omega); omega⟩
  have hil : i < len0 := by have := Int.emod_lt_of_pos at_ (b := (len0 : Int)) (by omega); omega
  have i0 : (0 : Int) ≤ (i : Int) := by omega
  have i1 : (i : Int) < (len0 : Int) := by omega
  have l0 : (1 : Int) ≤ (len0 : Int) := by omega
  obtain ⟨x, hx⟩ : ∃ x, x = z0.set i (gb z0 i ^^^ by_) := ⟨_, rfl⟩
  have hxl : x.length = len0 := by rw [hx, List.length_set]; exact H0.out
  have Hx := Lib.hid hx
  have Hxl2 := Lib.hid hxl
  clear hx hxl hz hb hy hn m1 m2
  by_cases he : hash x = hash z0
  · have he1 : decide (hash x = hash z0) = true := by simpa using he
    clear he
    go_enter Try.func11, Try.ntmps11; go_wp2_with (first | (go_at_call 29; refine (known1 _).mono ?_; rintro _ _ ⟨rfl, hb⟩; replace hF := hF.call hb; clear hb) | ((with_reducible apply wpl_buildSlice hF (ht := Try.underlying43) (he := byteElem) ([])); (focus omega); (focus (first | exact rfl | kernel_rfl)); clear hF; intro bt _ hF) | ((with_reducible apply wpl_append (dst := some 28) hF 0 ([]) ([]) (bs z0) (ht := Try.underlying43) (he := byteElem)); exact rfl; (focus (first | exact rfl | kernel_rfl)); (focus (first | exact rfl | (rw [bs_length]; exact Hl1.out) | (simp only [bs_length, List.length_append, List.length_replicate, List.length_nil, List.length_cons] <;> omega))); (focus (first | exact rfl | omega | (simp only [bs_length, List.length_append, List.length_replicate, List.length_nil, List.length_cons] <;> omega))); exact rfl; (focus (first | omega | (simp only [bs_length, List.length_append, List.length_replicate, List.length_nil, List.length_cons] <;> omega))); (focus (exact s0.fr hF)); exact bs_oneCell _; (focus omega); (focus (unfold maxLen; omega)); clear hF; intro bt ct tt _ hct hF; have hct1 := Nat.le_of_eq hct; have hct2 := Nat.le_of_eq hct.symm; clear hct) | ((with_reducible apply wpl_loadV hF (T := 5) (hu := Try.underlying5)); exact rfl; (first | exact ⟨0, rfl⟩ | exact ⟨1, rfl⟩ | exact ⟨2, rfl⟩ | exact ⟨3, rfl⟩ | exact ⟨4, rfl⟩ | exact ⟨5, rfl⟩ | exact ⟨6, rfl⟩); exact (by rw [List.nil_append]; exact bs_get_app (by rw [H0.out]; exact hil))) | ((with_reducible apply wpl_storeV hF 0 (T := 5) (u := B (gb z0 i ^^^ by_))); exact rfl; exact rfl; exact rfl; exact info_u8_; exact (by rw [List.nil_append]; exact bs_get_app (by rw [H0.out]; exact hil)); exact rfl; clear hF; intro _ hF; rw [List.nil_append (bs z0), List.set_append_left (s := bs z0) i _ (by rw [bs_length, H0.out]; exact hil), bs_set, ← Hx.out] at hF) | (go_at_call 31; refine (refSum (x) _ _ _ (Hxl2.out) _ (Sl.pre hF ⟨0, rfl⟩) (by omega)).mono ?_; rintro _ _ ⟨rfl, hb⟩; replace hF := hF.call hb; clear hb) | (go_at_call 31; refine (refSum (z0) _ _ _ (H0.out) _ (s0.fr hF) (by omega)).mono ?_; rintro _ _ ⟨rfl, hb⟩; replace hF := hF.call hb; clear hb) | (go_at_call 30; refine (shaSum (x) _ _ _ (Hxl2.out) _ (Sl.pre hF ⟨0, rfl⟩) (by omega)).mono ?_; rintro _ _ ⟨rfl, hb⟩; replace hF := hF.call hb; clear hb) | (go_at_call 30; refine (shaSum (z0) _ _ _ (H0.out) _ (s0.fr hF) (by omega)).mono ?_; rintro _ _ ⟨rfl, hb⟩; replace hF := hF.call hb; clear hb) | go_skip | ((with_reducible refine wpl_unguard ?_ ?_); (focus (go_simp; done))) | ((with_reducible apply wpl_eqbytes (T := 29)); exact rfl; exact rfl; exact Try.eqGuardType29; exact (fun w => run_eqId w _ _ (by first | assumption | exact hash_length _ | exact Hxl.out) (by first | assumption | exact hash_length _ | exact Hxl.out))) | ((with_reducible apply wpl_neqbytes (T := 29)); exact rfl; exact rfl; exact Try.eqGuardType29; exact (fun w => run_eqId w _ _ (by first | assumption | exact hash_length _ | exact Hxl.out) (by first | assumption | exact hash_length _ | exact Hxl.out)))); go_ret; exact ⟨by first | rfl | simp [he1], hF.below⟩
  · have he1 : decide (hash x = hash z0) = false := by simpa using he
    clear he
    go_enter Try.func11, Try.ntmps11; go_wp2_with (first | (go_at_call 29; refine (known1 _).mono ?_; rintro _ _ ⟨rfl, hb⟩; replace hF := hF.call hb; clear hb) | ((with_reducible apply wpl_buildSlice hF (ht := Try.underlying43) (he := byteElem) ([])); (focus omega); (focus (first | exact rfl | kernel_rfl)); clear hF; intro bt _ hF) | ((with_reducible apply wpl_append (dst := some 28) hF 0 ([]) ([]) (bs z0) (ht := Try.underlying43) (he := byteElem)); exact rfl; (focus (first | exact rfl | kernel_rfl)); (focus (first | exact rfl | (rw [bs_length]; exact Hl1.out) | (simp only [bs_length, List.length_append, List.length_replicate, List.length_nil, List.length_cons] <;> omega))); (focus (first | exact rfl | omega | (simp only [bs_length, List.length_append, List.length_replicate, List.length_nil, List.length_cons] <;> omega))); exact rfl; (focus (first | omega | (simp only [bs_length, List.length_append, List.length_replicate, List.length_nil, List.length_cons] <;> omega))); (focus (exact s0.fr hF)); exact bs_oneCell _; (focus omega); (focus (unfold maxLen; omega)); clear hF; intro bt ct tt _ hct hF; have hct1 := Nat.le_of_eq hct; have hct2 := Nat.le_of_eq hct.symm; clear hct) | ((with_reducible apply wpl_loadV hF (T := 5) (hu := Try.underlying5)); exact rfl; (first | exact ⟨0, rfl⟩ | exact ⟨1, rfl⟩ | exact ⟨2, rfl⟩ | exact ⟨3, rfl⟩ | exact ⟨4, rfl⟩ | exact ⟨5, rfl⟩ | exact ⟨6, rfl⟩); exact (by rw [List.nil_append]; exact bs_get_app (by rw [H0.out]; exact hil))) | ((with_reducible apply wpl_storeV hF 0 (T := 5) (u := B (gb z0 i ^^^ by_))); exact rfl; exact rfl; exact rfl; exact info_u8_; exact (by rw [List.nil_append]; exact bs_get_app (by rw [H0.out]; exact hil)); exact rfl; clear hF; intro _ hF; rw [List.nil_append (bs z0), List.set_append_left (s := bs z0) i _ (by rw [bs_length, H0.out]; exact hil), bs_set, ← Hx.out] at hF) | (go_at_call 31; refine (refSum (x) _ _ _ (Hxl2.out) _ (Sl.pre hF ⟨0, rfl⟩) (by omega)).mono ?_; rintro _ _ ⟨rfl, hb⟩; replace hF := hF.call hb; clear hb) | (go_at_call 31; refine (refSum (z0) _ _ _ (H0.out) _ (s0.fr hF) (by omega)).mono ?_; rintro _ _ ⟨rfl, hb⟩; replace hF := hF.call hb; clear hb) | (go_at_call 30; refine (shaSum (x) _ _ _ (Hxl2.out) _ (Sl.pre hF ⟨0, rfl⟩) (by omega)).mono ?_; rintro _ _ ⟨rfl, hb⟩; replace hF := hF.call hb; clear hb) | (go_at_call 30; refine (shaSum (z0) _ _ _ (H0.out) _ (s0.fr hF) (by omega)).mono ?_; rintro _ _ ⟨rfl, hb⟩; replace hF := hF.call hb; clear hb) | go_skip | ((with_reducible refine wpl_unguard ?_ ?_); (focus (go_simp; done))) | ((with_reducible apply wpl_eqbytes (T := 29)); exact rfl; exact rfl; exact Try.eqGuardType29; exact (fun w => run_eqId w _ _ (by first | assumption | exact hash_length _ | exact Hxl.out) (by first | assumption | exact hash_length _ | exact Hxl.out))) | ((with_reducible apply wpl_neqbytes (T := 29)); exact rfl; exact rfl; exact Try.eqGuardType29; exact (fun w => run_eqId w _ _ (by first | assumption | exact hash_length _ | exact Hxl.out) (by first | assumption | exact hash_length _ | exact Hxl.out)))); go_ret; exact ⟨by first | rfl | simp [he1], hF.below⟩

set_option maxRecDepth 100000 in
theorem ShaTurns_lifted (os : Os) (started : os.Started) (H : Type) (enc : TypeId × Value → H) :
    ReturnsInHanded {} Try.checked os 11 .any (Rows.shaTurnsSpec.pre6 enc Try.prog Try.f11 Rows.shaTurnsRow.domain false) (Rows.shaTurnsSpec.post enc Try.prog Try.f11 false true false false) := by
  refine returnsInHanded_of_change_sized (C := Try.checked) own started (by kernel_rfl) Try.func11
    (ChangeSpec.witness6 (enc := enc) (C := Try.checked) false ⟨#[], #[.slice none 0 0, .int .i64 0, .int .u8 0], []⟩ 8 (by kernel_rfl) (by kernel_rfl) (by kernel_rfl) (by kernel_rfl)) ?_
  intro W base args ds gs before hval0 hW hcnd hsz0 _
  have hsz : (DataW.weightsEach Try.prog (Try.f11.params.toList ++ Rows.shaTurnsSpec.plain.varTypes Try.prog) (ds ++ gs)).all (· ≤ reachBytes) = true := hsz0
  have hval : ∀ (j : Nat) t v, Try.f11.params[j]? = some t → args[j]? = some v → Value.okWide Try.prog W .any base t v := hval0
  have hW' := hW
  obtain ⟨p, q, hA0, hV, rfl, hfz, hnd⟩ := hW
  have hA : DataW.TrodAll enc Try.prog W 0 (fun _ => true) true Try.f11.params.toList args.toList ds p := hA0
  rw [Try.params11] at hA hval hsz
  obtain ⟨v0, vs0, d0, ds0, p0, q0, hargs, rfl, rfl, h0, r0⟩ := trodAll_cons hA
  obtain ⟨v1, vs1, d1, ds1, p1, q1, rfl, rfl, rfl, h1, r1⟩ := trodAll_cons r0
  obtain ⟨v2, vs2, d2, ds2, p2, q2, rfl, rfl, rfl, h2, r2⟩ := trodAll_cons r1
  obtain ⟨rfl, rfl, rfl⟩ := trodAll_nil r2
  obtain rfl : args = #[v0, v1, v2] := by cases args; simp_all
  obtain ⟨rfl, rfl⟩ := trodVars_none hV
  have k0 := h0
  have lt0 : ∀ x ∈ p0, x.block < W.heap.size := by obtain ⟨m, hm⟩ := k0; exact DataW.trod_lt m _ _ _ hm
  obtain ⟨a0, len0, cap0, rfl⟩ := okWide_slice Try.underlying43 (hval 0 43 v0 rfl rfl)
  obtain ⟨z0, n0⟩ : ∃ zs, IsB W a0 len0 cap0 zs := by obtain ⟨fuel, hf⟩ := h0; exact isB_of 0 Try.underlying43 Try.underlying5 (by kernel_rfl) (by kernel_rfl) hf hsz rfl rfl
  have k1 := h1
  have lt1 : ∀ x ∈ p1, x.block < W.heap.size := by obtain ⟨m, hm⟩ := k1; exact DataW.trod_lt m _ _ _ hm
  obtain ⟨l1, rfl, n1⟩ := okWide_i64 Try.underlying3 (hval 1 3 v1 rfl rfl)
  have k2 := h2
  have lt2 : ∀ x ∈ p2, x.block < W.heap.size := by obtain ⟨m, hm⟩ := k2; exact DataW.trod_lt m _ _ _ hm
  obtain ⟨l2, rfl⟩ := okWide_u8 Try.underlying5 (hval 2 5 v2 rfl rfl)
  clear hA0 hval0 hcnd hsz hsz0
  refine (ShaTurns_walk a0 len0 cap0 z0 l1 l2 n0 n1.1 n1.2 ).mono fun e W' ⟨he, bel⟩ => ?_
  subst he
  exact ⟨_, rfl, _, _, _, [], _, [], hW', trodAll_mk1 (shut_bool Try.underlying4 _), (trodAll_cons_mk (Below.trod laidOut (by kernel_rfl) (of_decide_eq_true (by kernel_rfl)) k0 bel lt0) (trodAll_cons_mk (Below.trod laidOut (by kernel_rfl) (of_decide_eq_true (by kernel_rfl)) k1 bel lt1) (trodAll_cons_mk (Below.trod laidOut (by kernel_rfl) (of_decide_eq_true (by kernel_rfl)) k2 bel lt2) trodAll_mk0))), rfl, bel.frame _, fun h => by cases h⟩

theorem ShaTurns_over : Rows.shaTurnsRow.holds Try.pinned (OpenSpec.ofChange Rows.shaTurnsSpec) :=
  OpenClaim.holds_of_wide 11 Try.f11 rfl rfl rfl rfl rfl rfl rfl ⟨rfl, rfl, rfl, rfl, rfl⟩ rfl rfl rfl rfl rfl (by kernel_rfl) Try.func11 (by kernel_rfl)
    (of_decide_eq_true (by kernel_rfl)) (by unfold Func.isWrapper; first | (rw [if_pos (by decide +kernel)]; kernel_rfl) | (rw [if_neg (by decide +kernel)]; exact ⟨rfl, rfl⟩))
    (fun os started H enc _ => ShaTurns_lifted os started H enc)

theorem ShaTurns_holds : Rows.ShaTurnsSaid := ShaTurns_over
#print axioms ShaTurns_holds
end Go.Proofs.Ytnocldlfmkmiaaa
