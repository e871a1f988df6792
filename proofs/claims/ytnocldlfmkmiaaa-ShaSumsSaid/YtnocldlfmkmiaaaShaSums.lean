/-
  ShaSums: for any two rows of bytes that the form speaks of, the hash of one, and of both, by sha.Sum and sha.Pair, is the document's, and so is its text. No conditions.
-/
import Derived.Test.YtnocldlfmkmiaaaEq
import Derived.Test.YtnocldlfmkmiaaaArgs2
namespace Go.Proofs.Ytnocldlfmkmiaaa
set_option linter.unusedSimpArgs false
set_option linter.unusedVariables false
open Go.ChangeShapes Go.WideShapes Go.ChangeAt Go.RowKit
attribute [local irreducible] wpQuiet Calls
set_option maxRecDepth 4000

set_option maxHeartbeats 4000000 in
theorem ShaSums_walk (a0 : Option Addr) (len0 cap0 : Nat) (z0 : List UInt8) (a1 : Option Addr) (len1 cap1 : Nat) (z1 : List UInt8) {w : World} (n0 : IsB w a0 len0 cap0 z0) (n1 : IsB w a1 len1 cap1 z1) :
    Calls Try.prog 9 #[.slice a0 len0 cap0, .slice a1 len1 cap1] w fun e w' => e = .returned (.bool true) ∧ Below w.heap.size w w' := by
  have hF := Fr.start w
  obtain ⟨h0, c0, r0, s0⟩ := n0
  obtain ⟨h1, c1, r1, s1⟩ := n1
  have b0 : z0.length ≤ len0 := by omega
  have b0' : len0 ≤ z0.length := by omega
  have b1 : z1.length ≤ len1 := by omega
  have b1' : len1 ≤ z1.length := by omega
  have H0 := Lib.hid h0
  have H1 := Lib.hid h1
  clear h0 h1
  by_cases hb : len0 + len1 > 3000
  · have hb' : (3000 : Int) < (len0 : Int) + (len1 : Int) := by omega
    go_enter Try.func9, Try.ntmps9
    go_wp2_with (first | (go_at_call 29; refine (known1 _).mono ?_; rintro _ _ ⟨rfl, hb⟩; replace hF := hF.call hb; clear hb))
    go_ret
    exact ⟨rfl, hF.below⟩
  · have hb' : ¬ (3000 : Int) < (len0 : Int) + (len1 : Int) := by omega
    have Hxl := Lib.hid (hash_length z0)
    go_enter Try.func9, Try.ntmps9
    go_wp2_with (first | (go_at_call 29; refine (known1 _).mono ?_; rintro _ _ ⟨rfl, hb⟩; replace hF := hF.call hb; clear hb) | ((with_reducible apply wpl_buildSlice hF (ht := Try.underlying43) (he := byteElem) ([])); (focus omega); (focus (first | exact rfl | kernel_rfl)); clear hF; intro bt _ hF) | ((with_reducible apply wpl_append (dst := some 17) hF 0 ([]) ([]) (bs z0) (ht := Try.underlying43) (he := byteElem)); exact rfl; (focus (first | exact rfl | kernel_rfl)); (focus (first | exact rfl | (rw [bs_length]; exact Hl1.out) | (simp only [bs_length, List.length_append, List.length_replicate, List.length_nil, List.length_cons] <;> omega))); (focus (first | exact rfl | omega | (simp only [bs_length, List.length_append, List.length_replicate, List.length_nil, List.length_cons] <;> omega))); exact rfl; (focus (first | omega | (simp only [bs_length, List.length_append, List.length_replicate, List.length_nil, List.length_cons] <;> omega))); (focus (exact s0.fr hF)); exact bs_oneCell _; (focus omega); (focus (unfold maxLen; omega)); clear hF; intro bt ct tt _ hct hF; have hct1 := Nat.le_of_eq hct; have hct2 := Nat.le_of_eq hct.symm; clear hct) | ((with_reducible apply wpl_append (dst := some 19) hF 0 ([] ++ bs z0) (tt) (bs z1) (ht := Try.underlying43) (he := byteElem)); exact rfl; (focus (first | exact rfl | kernel_rfl)); (focus (first | exact rfl | (rw [bs_length]; exact Hl1.out) | (simp only [bs_length, List.length_append, List.length_replicate, List.length_nil, List.length_cons] <;> omega))); (focus (first | exact rfl | omega | (simp only [bs_length, List.length_append, List.length_replicate, List.length_nil, List.length_cons] <;> omega))); exact rfl; (focus (first | omega | (simp only [bs_length, List.length_append, List.length_replicate, List.length_nil, List.length_cons] <;> omega))); (focus (exact s1.fr hF)); exact bs_oneCell _; (focus omega); (focus (unfold maxLen; omega)); clear hF; intro bt ct tt _ hct hF; have hct1 := Nat.le_of_eq hct; have hct2 := Nat.le_of_eq hct.symm; clear hct) | (go_at_call 30; refine (shaSum (z0) _ _ _ (H0.out) _ (s0.fr hF) (by omega)).mono ?_; rintro _ _ ⟨rfl, hb⟩; replace hF := hF.call hb; clear hb) | ((with_reducible refine wpl_alloc (dst := some 6) hF (bs zeros) (T := 29) (hz := Try.zeroValue29) ?_ ?_); exact rfl; clear hF; intro bx _ hF) | ((with_reducible apply wpl_store hF 1 (T := 29)); exact rfl; exact rfl; exact rfl; exact info_idl Hxl.out; (focus (rw [bs_length, bs_length, Hxl.out]; rfl)); exact bs_oneCell _; clear hF; intro _ hF))
    have e0 : [] ++ bs z0 ++ bs z1 = bs (z0 ++ z1) := by simp [bs]
    rw [e0] at hF
    clear e0
    have h01 : (z0 ++ z1).length = len0 + len1 := by rw [List.length_append, H0.out, H1.out]
    have H01 := Lib.hid h01
    clear h01
    ((refine wp_region_fr (by kernel_rfl) (by kernel_rfl) hF ?_); clear hF)
    repeat (first | ((with_reducible apply wq_move); (focus (simp only [Act.eval, Array.getD_eq_getD_getElem?, List.getElem?_toArray, List.getElem?_cons_succ, List.getElem?_cons_zero, Option.getD_some, List.map_toArray, List.map_cons, List.map_nil] <;> exact rfl)); simp only [Act.put, List.setIfInBounds_toArray, List.set_cons_succ, List.set_cons_zero, eq_self, decide_true, decide_false, Bool.not_true, Bool.not_false, eq_self]) | ((with_reducible apply wq_assign); (focus (simp only [Act.eval, Array.getD_eq_getD_getElem?, List.getElem?_toArray, List.getElem?_cons_succ, List.getElem?_cons_zero, Option.getD_some, List.map_toArray, List.map_cons, List.map_nil] <;> exact rfl)); simp only [Act.put, List.setIfInBounds_toArray, List.set_cons_succ, List.set_cons_zero, eq_self, decide_true, decide_false, Bool.not_true, Bool.not_false, eq_self]) | ((with_reducible apply wq_load (T := 29) (hu := Try.underlying29)); exact rfl; (first | exact ⟨0, rfl⟩ | exact ⟨1, rfl⟩ | exact ⟨2, rfl⟩ | exact ⟨3, rfl⟩ | exact ⟨4, rfl⟩ | exact ⟨5, rfl⟩ | exact ⟨6, rfl⟩); exact info_idl (by first | (with_reducible exact hash_length _) | (with_reducible exact zeros_length) | (with_reducible assumption) | exact Hxl.out); simp only [Act.put, List.setIfInBounds_toArray, List.set_cons_succ, List.set_cons_zero, eq_self, decide_true, decide_false, Bool.not_true, Bool.not_false, eq_self]) | ((with_reducible apply wq_call (dst := some 24) (f := 31) (hc := Try.call31)); (focus (simp only [Act.eval, Array.getD_eq_getD_getElem?, List.getElem?_toArray, List.getElem?_cons_succ, List.getElem?_cons_zero, Option.getD_some, List.map_toArray, List.map_cons, List.map_nil] <;> exact rfl)); exact (fun w hw => refSum z0 _ _ _ H0.out _ (s0.fr hw) (by omega)); simp only [Act.put, List.setIfInBounds_toArray, List.set_cons_succ, List.set_cons_zero, eq_self, decide_true, decide_false, Bool.not_true, Bool.not_false, eq_self]) | ((with_reducible apply wq_call (dst := some 31) (f := 31) (hc := Try.call31)); (focus (simp only [Act.eval, Array.getD_eq_getD_getElem?, List.getElem?_toArray, List.getElem?_cons_succ, List.getElem?_cons_zero, Option.getD_some, List.map_toArray, List.map_cons, List.map_nil] <;> exact rfl)); exact (fun w hw => refSum (z0 ++ z1) _ _ _ H01.out _ (Sl.pre hw ⟨0, rfl⟩) (by omega)); simp only [Act.put, List.setIfInBounds_toArray, List.set_cons_succ, List.set_cons_zero, eq_self, decide_true, decide_false, Bool.not_true, Bool.not_false, eq_self]) | ((with_reducible apply wq_call (dst := some 38) (f := 31) (hc := Try.call31)); (focus (simp only [Act.eval, Array.getD_eq_getD_getElem?, List.getElem?_toArray, List.getElem?_cons_succ, List.getElem?_cons_zero, Option.getD_some, List.map_toArray, List.map_cons, List.map_nil] <;> exact rfl)); exact (fun w hw => refSum (z0 ++ z1) _ _ _ H01.out _ (Sl.pre hw ⟨0, rfl⟩) (by omega)); simp only [Act.put, List.setIfInBounds_toArray, List.set_cons_succ, List.set_cons_zero, eq_self, decide_true, decide_false, Bool.not_true, Bool.not_false, eq_self]) | ((with_reducible apply wq_call (dst := some 36) (f := 30) (hc := Try.call30)); (focus (simp only [Act.eval, Array.getD_eq_getD_getElem?, List.getElem?_toArray, List.getElem?_cons_succ, List.getElem?_cons_zero, Option.getD_some, List.map_toArray, List.map_cons, List.map_nil] <;> exact rfl)); exact (fun w hw => shaSum (z0 ++ z1) _ _ _ H01.out _ (Sl.pre hw ⟨0, rfl⟩) (by omega)); simp only [Act.put, List.setIfInBounds_toArray, List.set_cons_succ, List.set_cons_zero, eq_self, decide_true, decide_false, Bool.not_true, Bool.not_false, eq_self]) | ((with_reducible apply wq_call (dst := some 29) (f := 32) (hc := Try.call32)); (focus (simp only [Act.eval, Array.getD_eq_getD_getElem?, List.getElem?_toArray, List.getElem?_cons_succ, List.getElem?_cons_zero, Option.getD_some, List.map_toArray, List.map_cons, List.map_nil] <;> exact rfl)); exact (fun w hw => pair_ z0 z1 _ _ _ _ _ _ H0.out H1.out _ (s0.fr hw) (s1.fr hw) (by omega)); simp only [Act.put, List.setIfInBounds_toArray, List.set_cons_succ, List.set_cons_zero, eq_self, decide_true, decide_false, Bool.not_true, Bool.not_false, eq_self]) | ((with_reducible apply wq_call (dst := some 43) (f := 33) (hc := Try.call33)); (focus (simp only [Act.eval, Array.getD_eq_getD_getElem?, List.getElem?_toArray, List.getElem?_cons_succ, List.getElem?_cons_zero, Option.getD_some, List.map_toArray, List.map_cons, List.map_nil] <;> exact rfl)); exact (fun w hw => shaText _ Hxl.out _); simp only [Act.put, List.setIfInBounds_toArray, List.set_cons_succ, List.set_cons_zero, eq_self, decide_true, decide_false, Bool.not_true, Bool.not_false, eq_self]) | ((with_reducible apply wq_call (dst := some 45) (f := 34) (hc := Try.call34)); (focus (simp only [Act.eval, Array.getD_eq_getD_getElem?, List.getElem?_toArray, List.getElem?_cons_succ, List.getElem?_cons_zero, Option.getD_some, List.map_toArray, List.map_cons, List.map_nil] <;> exact rfl)); exact (fun w hw => refText _ Hxl.out _); simp only [Act.put, List.setIfInBounds_toArray, List.set_cons_succ, List.set_cons_zero, eq_self, decide_true, decide_false, Bool.not_true, Bool.not_false, eq_self]) | ((with_reducible apply wq_eqbytes (T := 29)); exact rfl; exact rfl; exact Try.eqGuardType29; exact (fun w => run_eqId w _ _ (by first | (with_reducible exact hash_length _) | (with_reducible exact zeros_length) | (with_reducible assumption) | exact Hxl.out) (by first | (with_reducible exact hash_length _) | (with_reducible exact zeros_length) | (with_reducible assumption) | exact Hxl.out)); simp only [Act.put, List.setIfInBounds_toArray, List.set_cons_succ, List.set_cons_zero, eq_self, decide_true, decide_false, Bool.not_true, Bool.not_false, eq_self]) | ((with_reducible apply wq_neqbytes (T := 29)); exact rfl; exact rfl; exact Try.eqGuardType29; exact (fun w => run_eqId w _ _ (by first | (with_reducible exact hash_length _) | (with_reducible exact zeros_length) | (with_reducible assumption) | exact Hxl.out) (by first | (with_reducible exact hash_length _) | (with_reducible exact zeros_length) | (with_reducible assumption) | exact Hxl.out)); simp only [Act.put, List.setIfInBounds_toArray, List.set_cons_succ, List.set_cons_zero, eq_self, decide_true, decide_false, Bool.not_true, Bool.not_false, eq_self]) | ((with_reducible apply wq_eqSt); exact rfl; exact rfl; simp only [Act.put, List.setIfInBounds_toArray, List.set_cons_succ, List.set_cons_zero, eq_self, decide_true, decide_false, Bool.not_true, Bool.not_false, eq_self]) | ((with_reducible apply wq_pick); exact rfl; (focus (simp only [Act.eval, Array.getD_eq_getD_getElem?, List.getElem?_toArray, List.getElem?_cons_succ, List.getElem?_cons_zero, Option.getD_some, List.map_toArray, List.map_cons, List.map_nil] <;> exact rfl)); simp only [Act.put, List.setIfInBounds_toArray, List.set_cons_succ, List.set_cons_zero, eq_self, decide_true, decide_false, Bool.not_true, Bool.not_false, eq_self]) | ((with_reducible apply wq_pick'); exact rfl; (focus (simp only [Act.eval, Array.getD_eq_getD_getElem?, List.getElem?_toArray, List.getElem?_cons_succ, List.getElem?_cons_zero, Option.getD_some, List.map_toArray, List.map_cons, List.map_nil] <;> exact rfl)); simp only [Act.put, List.setIfInBounds_toArray, List.set_cons_succ, List.set_cons_zero, eq_self, decide_true, decide_false, Bool.not_true, Bool.not_false, eq_self]) | ((with_reducible apply wq_not); exact rfl; simp only [Act.put, List.setIfInBounds_toArray, List.set_cons_succ, List.set_cons_zero, eq_self, decide_true, decide_false, Bool.not_true, Bool.not_false, eq_self]) | ((with_reducible refine wq_unguard ?_ ?_); (focus (go_simp; done))) | ((with_reducible refine wq_skip ?_ ?_); (focus (go_simp; done)); simp only [Act.put, List.setIfInBounds_toArray, List.set_cons_succ, List.set_cons_zero]) | ((with_reducible refine wq_skip_none ?_ ?_); (focus (go_simp; done)); simp only [Act.put, List.setIfInBounds_toArray, List.set_cons_succ, List.set_cons_zero]))
    ((refine wpQuiet_nil ?_); intro _ hF)
    go_wp2_with (first | fail)
    go_ret
    exact ⟨rfl, hF.below⟩

set_option maxRecDepth 100000 in
theorem ShaSums_lifted (os : Os) (started : os.Started) (H : Type) (enc : TypeId × Value → H) :
    ReturnsInHanded {} Try.checked os 9 .any (Rows.shaSumsSpec.pre6 enc Try.prog Try.f9 Rows.shaSumsRow.domain false) (Rows.shaSumsSpec.post enc Try.prog Try.f9 false true false false) := by
  refine returnsInHanded_of_change_sized (C := Try.checked) own started (by kernel_rfl) Try.func9
    (ChangeSpec.witness6 (enc := enc) (C := Try.checked) false ⟨#[], #[.slice none 0 0, .slice none 0 0], []⟩ 8 (by kernel_rfl) (by kernel_rfl) (by kernel_rfl) (by kernel_rfl)) ?_
  intro W base args ds gs before hval0 hW hcnd hsz0 _
  have hsz : (DataW.weightsEach Try.prog (Try.f9.params.toList ++ Rows.shaSumsSpec.plain.varTypes Try.prog) (ds ++ gs)).all (· ≤ reachBytes) = true := hsz0
  have hval : ∀ (j : Nat) t v, Try.f9.params[j]? = some t → args[j]? = some v → Value.okWide Try.prog W .any base t v := hval0
  have hW' := hW
  obtain ⟨p, q, hA0, hV, rfl, hfz, hnd⟩ := hW
  have hA : DataW.TrodAll enc Try.prog W 0 (fun _ => true) true Try.f9.params.toList args.toList ds p := hA0
  rw [Try.params9] at hA hval hsz
  obtain ⟨v0, vs0, d0, ds0, p0, q0, hargs, rfl, rfl, h0, r0⟩ := trodAll_cons hA
  obtain ⟨v1, vs1, d1, ds1, p1, q1, rfl, rfl, rfl, h1, r1⟩ := trodAll_cons r0
  obtain ⟨rfl, rfl, rfl⟩ := trodAll_nil r1
  obtain rfl : args = #[v0, v1] := by cases args; simp_all
  obtain ⟨rfl, rfl⟩ := trodVars_none hV
  have k0 := h0
  have lt0 : ∀ x ∈ p0, x.block < W.heap.size := by obtain ⟨m, hm⟩ := k0; exact DataW.trod_lt m _ _ _ hm
  obtain ⟨a0, len0, cap0, rfl⟩ := okWide_slice Try.underlying43 (hval 0 43 v0 rfl rfl)
  obtain ⟨z0, n0⟩ : ∃ zs, IsB W a0 len0 cap0 zs := by obtain ⟨fuel, hf⟩ := h0; exact isB_of 0 Try.underlying43 Try.underlying5 (by kernel_rfl) (by kernel_rfl) hf hsz rfl rfl
  have k1 := h1
  have lt1 : ∀ x ∈ p1, x.block < W.heap.size := by obtain ⟨m, hm⟩ := k1; exact DataW.trod_lt m _ _ _ hm
  obtain ⟨a1, len1, cap1, rfl⟩ := okWide_slice Try.underlying43 (hval 1 43 v1 rfl rfl)
  obtain ⟨z1, n1⟩ : ∃ zs, IsB W a1 len1 cap1 zs := by obtain ⟨fuel, hf⟩ := h1; exact isB_of 1 Try.underlying43 Try.underlying5 (by kernel_rfl) (by kernel_rfl) hf hsz rfl rfl
  clear hA0 hval0 hcnd hsz hsz0
  refine (ShaSums_walk a0 len0 cap0 z0 a1 len1 cap1 z1 n0 n1).mono fun e W' ⟨he, bel⟩ => ?_
  subst he
  exact ⟨_, rfl, _, _, _, [], _, [], hW', trodAll_mk1 (shut_bool Try.underlying4 _), (trodAll_cons_mk (Below.trod laidOut (by kernel_rfl) (of_decide_eq_true (by kernel_rfl)) k0 bel lt0) (trodAll_cons_mk (Below.trod laidOut (by kernel_rfl) (of_decide_eq_true (by kernel_rfl)) k1 bel lt1) trodAll_mk0)), rfl, bel.frame _, fun h => by cases h⟩

theorem ShaSums_over : Rows.shaSumsRow.holds Try.pinned (OpenSpec.ofChange Rows.shaSumsSpec) :=
  OpenClaim.holds_of_wide 9 Try.f9 rfl rfl rfl rfl rfl rfl rfl ⟨rfl, rfl, rfl, rfl, rfl⟩ rfl rfl rfl rfl rfl (by kernel_rfl) Try.func9 (by kernel_rfl)
    (of_decide_eq_true (by kernel_rfl)) (by unfold Func.isWrapper; first | (rw [if_pos (by decide +kernel)]; kernel_rfl) | (rw [if_neg (by decide +kernel)]; exact ⟨rfl, rfl⟩))
    (fun os started H enc _ => ShaSums_lifted os started H enc)

theorem ShaSums_holds : Rows.ShaSumsSaid := ShaSums_over
#print axioms ShaSums_holds
end Go.Proofs.Ytnocldlfmkmiaaa
