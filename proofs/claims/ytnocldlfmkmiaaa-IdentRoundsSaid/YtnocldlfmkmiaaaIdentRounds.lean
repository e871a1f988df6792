/-
  IdentRounds: for every three ids that are unlike, one is met first, going up from any; just one of two orders holds. No conditions.
-/
import Derived.Test.YtnocldlfmkmiaaaIdLaws
import Derived.Test.YtnocldlfmkmiaaaArgs
namespace Go.Proofs.Ytnocldlfmkmiaaa
set_option linter.unusedSimpArgs false
set_option linter.unusedVariables false
open Go.ChangeShapes Go.WideShapes Go.ChangeAt Go.RowKit
attribute [local irreducible] wpQuiet Calls

theorem btw_nums {a x b : List UInt8} (ha : a.length = 32) (hx : x.length = 32) (hb : b.length = 32) (hne : a ≠ b) :
    btw a x b = bif decide (num a < num b) then decide (num a < num x) && decide (num x < num b) else decide (num a < num x) || decide (num x < num b) := by
  have h1 := idlt_num a b (by rw [ha, hb])
  have h2 := idlt_num a x (by rw [ha, hx])
  have h3 := idlt_num x b (by rw [hx, hb])
  simp [btw, hne, h1, h2, h3]

/-- Of three unlike numbers: the two orders. -/
theorem rounds_plain {a b c : List UInt8} (ha : a.length = 32) (hb : b.length = 32) (hc : c.length = 32) (h1 : a ≠ b) (h2 : b ≠ c) (h3 : a ≠ c) :
    btw a c b = !btw a b c ∧ btw b c a = btw a b c ∧ btw c a b = btw a b c := by
  have n1 : num a ≠ num b := fun h => h1 (num_inj a b (by rw [ha, hb]) h)
  have n2 : num b ≠ num c := fun h => h2 (num_inj b c (by rw [hb, hc]) h)
  have n3 : num a ≠ num c := fun h => h3 (num_inj a c (by rw [ha, hc]) h)
  rw [btw_nums ha hc hb h1, btw_nums ha hb hc h3, btw_nums hb hc ha (Ne.symm h1), btw_nums hc ha hb (Ne.symm h2)]
  generalize num a = A at *
  generalize num b = B' at *
  generalize num c = C at *
  rcases Nat.lt_or_gt_of_ne n1 with p | p <;> rcases Nat.lt_or_gt_of_ne n2 with q | q <;> rcases Nat.lt_or_gt_of_ne n3 with r | r
  all_goals
    have p' := Nat.lt_asymm p
    have q' := Nat.lt_asymm q
    have r' := Nat.lt_asymm r
    first
    | (exfalso; omega)
    | simp [p, q, r, p', q', r']

theorem btw_left (a b : List UInt8) : btw a a b = false := by rw [← btw_ends]; simp
theorem btw_right (a b : List UInt8) : btw a b b = false := by rw [← btw_ends]; simp
theorem btw_round {a b : List UInt8} (h : b ≠ a) : btw a b a = true := by simp [btw, h]

set_option maxHeartbeats 4000000 in
/-- One walk for each way in: 'b'' is what lies in the second block behind the test on 'at'. -/
theorem IdentRounds_way (a b b' c : List UInt8) (i : Int) (y : UInt8) (ha : a.length = 32) (hb : b.length = 32) (hb' : b'.length = 32) (hc : c.length = 32) (hhi : i ≤ 9223372036854775807)
    (hnear : ∀ w, Calls Try.prog 20 #[agg a, .int .i64 i, B y] w fun e w' => e = .returned (agg (nearp a i y)) ∧ Below w.heap.size w w')
    (hway : (i < 0 ∧ b' = b) ∨ (0 ≤ i ∧ (i % 3 == 0) = false ∧ b' = b) ∨ (0 ≤ i ∧ (i % 3 == 0) = true ∧ b' = nearp a i y)) (w : World) :
    Calls Try.prog 4 #[agg a, agg b, agg c, .int .i64 i, B y] w fun e w' => e = .returned (.bool true) ∧ Below w.heap.size w w' := by
  have hF := Fr.start w
  have Hnear := Lib.hid hnear
  clear hnear
  by_cases e1 : a = b'
  · have d1 : decide (a = b') = true := by simpa using e1
    clear e1
    rcases hway with ⟨c1, rfl⟩ | ⟨c1, c2, rfl⟩ | ⟨c1, c2, rfl⟩
    all_goals
      go_enter Try.func4, Try.ntmps4
      go_wp2_with (first | ((with_reducible apply wpl_box (x := Operand.tmp 0) hF); exact rfl; clear hF; intro ba _ hF) | ((with_reducible apply wpl_box (x := Operand.tmp 1) hF); exact rfl; clear hF; intro bb _ hF) | ((with_reducible apply wpl_box (x := Operand.tmp 2) hF); exact rfl; clear hF; intro bc _ hF) | ((with_reducible apply wpl_load hF (T := 29) (hu := Try.underlying29)); exact rfl; (first | exact ⟨0, rfl⟩ | exact ⟨1, rfl⟩ | exact ⟨2, rfl⟩ | exact ⟨3, rfl⟩ | exact ⟨4, rfl⟩ | exact ⟨5, rfl⟩ | exact ⟨6, rfl⟩); exact info_id' (by first | assumption | (with_reducible exact zeros_length) | (with_reducible exact addp_length _ _) | (simp only [List.length_set]; assumption))) | go_skip | ((with_reducible refine wpl_unguard ?_ ?_); (focus (go_simp; done))) | ((with_reducible apply wpl_store hF 1 (T := 29)); exact rfl; exact rfl; exact rfl; exact info_id' (by first | assumption | (with_reducible exact zeros_length) | (with_reducible exact addp_length _ _) | (simp only [List.length_set]; assumption)); (focus (simp only [bs_length, List.length_set, zeros_length, addp_length] <;> omega)); exact bs_oneCell _; clear hF; intro _ hF) | (go_at_call 19; refine (known2 _).mono ?_; rintro _ _ ⟨rfl, hb⟩; replace hF := hF.call hb; clear hb) | (go_at_call 20; refine (Hnear.out _).mono ?_; rintro _ _ ⟨rfl, hb⟩; replace hF := hF.call hb; clear hb))
      go_ret
      exact ⟨rfl, hF.below⟩
  · have d1 : decide (a = b') = false := by simpa using e1
    by_cases e2 : b' = c
    · have d2 : decide (b' = c) = true := by simpa using e2
      clear e1 e2
      rcases hway with ⟨c1, rfl⟩ | ⟨c1, c2, rfl⟩ | ⟨c1, c2, rfl⟩
      all_goals
        go_enter Try.func4, Try.ntmps4
        go_wp2_with (first | ((with_reducible apply wpl_box (x := Operand.tmp 0) hF); exact rfl; clear hF; intro ba _ hF) | ((with_reducible apply wpl_box (x := Operand.tmp 1) hF); exact rfl; clear hF; intro bb _ hF) | ((with_reducible apply wpl_box (x := Operand.tmp 2) hF); exact rfl; clear hF; intro bc _ hF) | ((with_reducible apply wpl_load hF (T := 29) (hu := Try.underlying29)); exact rfl; (first | exact ⟨0, rfl⟩ | exact ⟨1, rfl⟩ | exact ⟨2, rfl⟩ | exact ⟨3, rfl⟩ | exact ⟨4, rfl⟩ | exact ⟨5, rfl⟩ | exact ⟨6, rfl⟩); exact info_id' (by first | assumption | (with_reducible exact zeros_length) | (with_reducible exact addp_length _ _) | (simp only [List.length_set]; assumption))) | go_skip | ((with_reducible refine wpl_unguard ?_ ?_); (focus (go_simp; done))) | ((with_reducible apply wpl_store hF 1 (T := 29)); exact rfl; exact rfl; exact rfl; exact info_id' (by first | assumption | (with_reducible exact zeros_length) | (with_reducible exact addp_length _ _) | (simp only [List.length_set]; assumption)); (focus (simp only [bs_length, List.length_set, zeros_length, addp_length] <;> omega)); exact bs_oneCell _; clear hF; intro _ hF) | (go_at_call 19; refine (known2 _).mono ?_; rintro _ _ ⟨rfl, hb⟩; replace hF := hF.call hb; clear hb) | (go_at_call 20; refine (Hnear.out _).mono ?_; rintro _ _ ⟨rfl, hb⟩; replace hF := hF.call hb; clear hb))
        go_ret
        exact ⟨rfl, hF.below⟩
    · have d2 : decide (b' = c) = false := by simpa using e2
      by_cases e3 : a = c
      · have d3 : decide (a = c) = true := by simpa using e3
        clear e1 e2 e3
        rcases hway with ⟨c1, rfl⟩ | ⟨c1, c2, rfl⟩ | ⟨c1, c2, rfl⟩
        all_goals
          go_enter Try.func4, Try.ntmps4
          go_wp2_with (first | ((with_reducible apply wpl_box (x := Operand.tmp 0) hF); exact rfl; clear hF; intro ba _ hF) | ((with_reducible apply wpl_box (x := Operand.tmp 1) hF); exact rfl; clear hF; intro bb _ hF) | ((with_reducible apply wpl_box (x := Operand.tmp 2) hF); exact rfl; clear hF; intro bc _ hF) | ((with_reducible apply wpl_load hF (T := 29) (hu := Try.underlying29)); exact rfl; (first | exact ⟨0, rfl⟩ | exact ⟨1, rfl⟩ | exact ⟨2, rfl⟩ | exact ⟨3, rfl⟩ | exact ⟨4, rfl⟩ | exact ⟨5, rfl⟩ | exact ⟨6, rfl⟩); exact info_id' (by first | assumption | (with_reducible exact zeros_length) | (with_reducible exact addp_length _ _) | (simp only [List.length_set]; assumption))) | go_skip | ((with_reducible refine wpl_unguard ?_ ?_); (focus (go_simp; done))) | ((with_reducible apply wpl_store hF 1 (T := 29)); exact rfl; exact rfl; exact rfl; exact info_id' (by first | assumption | (with_reducible exact zeros_length) | (with_reducible exact addp_length _ _) | (simp only [List.length_set]; assumption)); (focus (simp only [bs_length, List.length_set, zeros_length, addp_length] <;> omega)); exact bs_oneCell _; clear hF; intro _ hF) | (go_at_call 19; refine (known2 _).mono ?_; rintro _ _ ⟨rfl, hb⟩; replace hF := hF.call hb; clear hb) | (go_at_call 20; refine (Hnear.out _).mono ?_; rintro _ _ ⟨rfl, hb⟩; replace hF := hF.call hb; clear hb))
          go_ret
          exact ⟨rfl, hF.below⟩
      · have d3 : decide (a = c) = false := by simpa using e3
        obtain ⟨t1, t2, t3⟩ := rounds_plain ha hb' hc e1 e2 e3
        have t4 := btw_left a b'
        have t5 := btw_right a b'
        have t6 := btw_round (a := a) (b := b') (fun h => e1 h.symm)
        have t7 : decide (b' = b') = true := by simp
        obtain ⟨p, hp⟩ : ∃ p, p = btw a b' c := ⟨_, rfl⟩
        rw [← hp] at t1 t2 t3
        have hp' := hp.symm
        clear e1 e2 e3 hp
        cases p
        all_goals
          simp only [Bool.not_true, Bool.not_false] at t1
          rcases hway with ⟨c1, rfl⟩ | ⟨c1, c2, rfl⟩ | ⟨c1, c2, rfl⟩
          all_goals
            go_enter Try.func4, Try.ntmps4
            go_wp2_with (first | ((with_reducible apply wpl_box (x := Operand.tmp 0) hF); exact rfl; clear hF; intro ba _ hF) | ((with_reducible apply wpl_box (x := Operand.tmp 1) hF); exact rfl; clear hF; intro bb _ hF) | ((with_reducible apply wpl_box (x := Operand.tmp 2) hF); exact rfl; clear hF; intro bc _ hF) | ((with_reducible apply wpl_load hF (T := 29) (hu := Try.underlying29)); exact rfl; (first | exact ⟨0, rfl⟩ | exact ⟨1, rfl⟩ | exact ⟨2, rfl⟩ | exact ⟨3, rfl⟩ | exact ⟨4, rfl⟩ | exact ⟨5, rfl⟩ | exact ⟨6, rfl⟩); exact info_id' (by first | assumption | (with_reducible exact zeros_length) | (with_reducible exact addp_length _ _) | (simp only [List.length_set]; assumption))) | go_skip | ((with_reducible refine wpl_unguard ?_ ?_); (focus (go_simp; done))) | ((with_reducible apply wpl_store hF 1 (T := 29)); exact rfl; exact rfl; exact rfl; exact info_id' (by first | assumption | (with_reducible exact zeros_length) | (with_reducible exact addp_length _ _) | (simp only [List.length_set]; assumption)); (focus (simp only [bs_length, List.length_set, zeros_length, addp_length] <;> omega)); exact bs_oneCell _; clear hF; intro _ hF) | (go_at_call 19; refine (known2 _).mono ?_; rintro _ _ ⟨rfl, hb⟩; replace hF := hF.call hb; clear hb) | (go_at_call 20; refine (Hnear.out _).mono ?_; rintro _ _ ⟨rfl, hb⟩; replace hF := hF.call hb; clear hb))
            ((refine wp_region_fr (by kernel_rfl) (by kernel_rfl) hF ?_); clear hF; (repeat (first | ((with_reducible apply wq_move); (focus (simp only [Act.eval, Array.getD_eq_getD_getElem?, List.getElem?_toArray, List.getElem?_cons_succ, List.getElem?_cons_zero, Option.getD_some, List.map_toArray, List.map_cons, List.map_nil] <;> exact rfl)); simp only [Act.put, List.setIfInBounds_toArray, List.set_cons_succ, List.set_cons_zero, t1, hp', eq_self]) | ((with_reducible apply wq_assign); (focus (simp only [Act.eval, Array.getD_eq_getD_getElem?, List.getElem?_toArray, List.getElem?_cons_succ, List.getElem?_cons_zero, Option.getD_some, List.map_toArray, List.map_cons, List.map_nil] <;> exact rfl)); simp only [Act.put, List.setIfInBounds_toArray, List.set_cons_succ, List.set_cons_zero, t1, hp', eq_self]) | ((with_reducible apply wq_load (T := 29) (hu := Try.underlying29)); exact rfl; (first | exact ⟨0, rfl⟩ | exact ⟨1, rfl⟩ | exact ⟨2, rfl⟩ | exact ⟨3, rfl⟩ | exact ⟨4, rfl⟩ | exact ⟨5, rfl⟩ | exact ⟨6, rfl⟩); exact info_id' (by first | assumption | (with_reducible exact zeros_length) | (with_reducible exact addp_length _ _) | (simp only [List.length_set]; assumption)); simp only [Act.put, List.setIfInBounds_toArray, List.set_cons_succ, List.set_cons_zero, t1, hp', eq_self]) | ((with_reducible apply wq_call (f := 21) (hc := Try.call21)); (focus (simp only [Act.eval, Array.getD_eq_getD_getElem?, List.getElem?_toArray, List.getElem?_cons_succ, List.getElem?_cons_zero, Option.getD_some, List.map_toArray, List.map_cons, List.map_nil] <;> exact rfl)); exact (fun w _ => identBetween _ _ _ (by first | assumption | (with_reducible exact zeros_length) | (with_reducible exact addp_length _ _) | (simp only [List.length_set]; assumption)) (by first | assumption | (with_reducible exact zeros_length) | (with_reducible exact addp_length _ _) | (simp only [List.length_set]; assumption)) (by first | assumption | (with_reducible exact zeros_length) | (with_reducible exact addp_length _ _) | (simp only [List.length_set]; assumption)) _); simp only [Act.put, List.setIfInBounds_toArray, List.set_cons_succ, List.set_cons_zero, t1, hp', eq_self]) | ((with_reducible apply wq_eqbytes (T := 29)); exact rfl; exact rfl; exact Try.eqGuardType29; exact (fun w => run_eq_id w _ _ (by first | assumption | (with_reducible exact zeros_length) | (with_reducible exact addp_length _ _) | (simp only [List.length_set]; assumption)) (by first | assumption | (with_reducible exact zeros_length) | (with_reducible exact addp_length _ _) | (simp only [List.length_set]; assumption))); simp only [Act.put, List.setIfInBounds_toArray, List.set_cons_succ, List.set_cons_zero, t1, hp', eq_self]) | ((with_reducible apply wq_pick); exact rfl; (focus (simp only [Act.eval, Array.getD_eq_getD_getElem?, List.getElem?_toArray, List.getElem?_cons_succ, List.getElem?_cons_zero, Option.getD_some, List.map_toArray, List.map_cons, List.map_nil] <;> exact rfl)); simp only [Act.put, List.setIfInBounds_toArray, List.set_cons_succ, List.set_cons_zero, t1, hp', eq_self]) | ((with_reducible apply wq_pick'); exact rfl; (focus (simp only [Act.eval, Array.getD_eq_getD_getElem?, List.getElem?_toArray, List.getElem?_cons_succ, List.getElem?_cons_zero, Option.getD_some, List.map_toArray, List.map_cons, List.map_nil] <;> exact rfl)); simp only [Act.put, List.setIfInBounds_toArray, List.set_cons_succ, List.set_cons_zero, t1, hp', eq_self]) | ((with_reducible apply wq_not); exact rfl; simp only [Act.put, List.setIfInBounds_toArray, List.set_cons_succ, List.set_cons_zero, t1, hp', eq_self]) | ((with_reducible apply wq_eqbool (hT := Try.underlying4)); exact rfl; exact rfl; simp only [Act.put, List.setIfInBounds_toArray, List.set_cons_succ, List.set_cons_zero, t1, hp', eq_self]) | ((with_reducible apply wq_neqbool (hT := Try.underlying4)); exact rfl; exact rfl; simp only [Act.put, List.setIfInBounds_toArray, List.set_cons_succ, List.set_cons_zero, t1, hp', eq_self]) | ((with_reducible refine wq_unguard ?_ ?_); (focus (go_simp; done))) | ((with_reducible refine wq_skip ?_ ?_); (focus (go_simp; done)); simp only [Act.put, List.setIfInBounds_toArray, List.set_cons_succ, List.set_cons_zero]) | ((with_reducible refine wq_skip_none ?_ ?_); (focus (go_simp; done)); simp only [Act.put, List.setIfInBounds_toArray, List.set_cons_succ, List.set_cons_zero]))); (refine wpQuiet_nil ?_); intro _ hF)
            go_wp2_with (first | ((with_reducible apply wpl_load hF (T := 29) (hu := Try.underlying29)); exact rfl; (first | exact ⟨0, rfl⟩ | exact ⟨1, rfl⟩ | exact ⟨2, rfl⟩ | exact ⟨3, rfl⟩ | exact ⟨4, rfl⟩ | exact ⟨5, rfl⟩ | exact ⟨6, rfl⟩); exact info_id' (by first | assumption | (with_reducible exact zeros_length) | (with_reducible exact addp_length _ _) | (simp only [List.length_set]; assumption))) | go_skip | ((with_reducible refine wpl_unguard ?_ ?_); (focus (go_simp; done))) | (go_at_call 21; refine (identBetween _ _ _ (by first | assumption | (with_reducible exact zeros_length) | (with_reducible exact addp_length _ _) | (simp only [List.length_set]; assumption)) (by first | assumption | (with_reducible exact zeros_length) | (with_reducible exact addp_length _ _) | (simp only [List.length_set]; assumption)) (by first | assumption | (with_reducible exact zeros_length) | (with_reducible exact addp_length _ _) | (simp only [List.length_set]; assumption)) _).mono ?_; rintro _ _ ⟨rfl, hb⟩; replace hF := hF.call hb; clear hb) | (go_at_call 22; refine (identWithin _ _ _ (by first | assumption | (with_reducible exact zeros_length) | (with_reducible exact addp_length _ _) | (simp only [List.length_set]; assumption)) (by first | assumption | (with_reducible exact zeros_length) | (with_reducible exact addp_length _ _) | (simp only [List.length_set]; assumption)) (by first | assumption | (with_reducible exact zeros_length) | (with_reducible exact addp_length _ _) | (simp only [List.length_set]; assumption)) _).mono ?_; rintro _ _ ⟨rfl, hb⟩; replace hF := hF.call hb; clear hb))
            go_ret
            exact ⟨rfl, hF.below⟩

theorem IdentRounds_walk (a b c : List UInt8) (i : Int) (y : UInt8) (ha : a.length = 32) (hb : b.length = 32) (hc : c.length = 32) (hlo : -9223372036854775808 ≤ i) (hhi : i ≤ 9223372036854775807) (w : World) :
    Calls Try.prog 4 #[agg a, agg b, agg c, .int .i64 i, B y] w fun e w' => e = .returned (.bool true) ∧ Below w.heap.size w w' := by
  by_cases h : i < 0
  · exact IdentRounds_way a b b c i y ha hb hb hc hhi (fun w => near a ha i y hhi w) (Or.inl ⟨h, rfl⟩) w
  · by_cases h2 : i % 3 = 0
    · exact IdentRounds_way a b (nearp a i y) c i y ha hb (by rw [nearp_length, ha]) hc hhi (fun w => near a ha i y hhi w) (Or.inr (Or.inr ⟨by omega, by simpa using h2, rfl⟩)) w
    · exact IdentRounds_way a b b c i y ha hb hb hc hhi (fun w => near a ha i y hhi w) (Or.inr (Or.inl ⟨by omega, by simpa using h2, rfl⟩)) w

set_option maxRecDepth 100000 in
theorem IdentRounds_lifted (os : Os) (started : os.Started) (H : Type) (enc : TypeId × Value → H) :
    ReturnsInHanded {} Try.checked os 4 .any (Rows.identRoundsSpec.pre6 enc Try.prog Try.f4 Rows.identRoundsRow.domain false) (Rows.identRoundsSpec.post enc Try.prog Try.f4 false true false false) := by
  refine returnsInHanded_of_change (C := Try.checked) own started (by kernel_rfl) Try.func4
    (ChangeSpec.witness6 (enc := enc) (C := Try.checked) false ⟨#[], #[.agg (Array.replicate 32 (.int .u8 0)), .agg (Array.replicate 32 (.int .u8 0)), .agg (Array.replicate 32 (.int .u8 0)), .int .i64 0, .int .u8 0], []⟩ 8 (by kernel_rfl) (by kernel_rfl) (by kernel_rfl) (by kernel_rfl)) ?_
  intro W base args ds gs before hval0 hW hcnd _
  have hval : ∀ (j : Nat) t v, Try.f4.params[j]? = some t → args[j]? = some v → Value.okWide Try.prog W .any base t v := hval0
  have hW' := hW
  obtain ⟨p, q, hA0, hV, rfl, hfz, hnd⟩ := hW
  have hA : DataW.TrodAll enc Try.prog W 0 (fun _ => true) true Try.f4.params.toList args.toList ds p := hA0
  rw [Try.params4] at hA hval
  obtain ⟨v0, vs0, d0, ds0, p0, q0, hargs, rfl, rfl, h0, r0⟩ := trodAll_cons hA
  obtain ⟨v1, vs1, d1, ds1, p1, q1, rfl, rfl, rfl, h1, r1⟩ := trodAll_cons r0
  obtain ⟨v2, vs2, d2, ds2, p2, q2, rfl, rfl, rfl, h2, r2⟩ := trodAll_cons r1
  obtain ⟨v3, vs3, d3, ds3, p3, q3, rfl, rfl, rfl, h3, r3⟩ := trodAll_cons r2
  obtain ⟨v4, vs4, d4, ds4, p4, q4, rfl, rfl, rfl, h4, r4⟩ := trodAll_cons r3
  obtain ⟨rfl, rfl, rfl⟩ := trodAll_nil r4
  obtain rfl : args = #[v0, v1, v2, v3, v4] := by cases args; simp_all
  obtain ⟨rfl, rfl⟩ := trodVars_none hV
  have k0 := h0
  have lt0 : ∀ x ∈ p0, x.block < W.heap.size := by obtain ⟨m, hm⟩ := k0; exact DataW.trod_lt m _ _ _ hm
  obtain ⟨l0, n0, rfl⟩ := okWide_bytes Try.underlying29 Try.underlying5 (by kernel_rfl) (by kernel_rfl) (hval 0 29 v0 rfl rfl)
  have k1 := h1
  have lt1 : ∀ x ∈ p1, x.block < W.heap.size := by obtain ⟨m, hm⟩ := k1; exact DataW.trod_lt m _ _ _ hm
  obtain ⟨l1, n1, rfl⟩ := okWide_bytes Try.underlying29 Try.underlying5 (by kernel_rfl) (by kernel_rfl) (hval 1 29 v1 rfl rfl)
  have k2 := h2
  have lt2 : ∀ x ∈ p2, x.block < W.heap.size := by obtain ⟨m, hm⟩ := k2; exact DataW.trod_lt m _ _ _ hm
  obtain ⟨l2, n2, rfl⟩ := okWide_bytes Try.underlying29 Try.underlying5 (by kernel_rfl) (by kernel_rfl) (hval 2 29 v2 rfl rfl)
  have k3 := h3
  have lt3 : ∀ x ∈ p3, x.block < W.heap.size := by obtain ⟨m, hm⟩ := k3; exact DataW.trod_lt m _ _ _ hm
  obtain ⟨l3, rfl, n3⟩ := okWide_i64 Try.underlying3 (hval 3 3 v3 rfl rfl)
  have k4 := h4
  have lt4 : ∀ x ∈ p4, x.block < W.heap.size := by obtain ⟨m, hm⟩ := k4; exact DataW.trod_lt m _ _ _ hm
  obtain ⟨l4, rfl⟩ := okWide_u8 Try.underlying5 (hval 4 5 v4 rfl rfl)
  clear hA0 hval0 hcnd
  refine (IdentRounds_walk l0 l1 l2 l3 l4 n0 n1 n2 n3.1 n3.2  W).mono fun e W' ⟨he, bel⟩ => ?_
  subst he
  exact ⟨_, rfl, _, _, _, [], _, [], hW', trodAll_mk1 (shut_bool Try.underlying4 _), (trodAll_cons_mk (Below.trod laidOut (by kernel_rfl) (of_decide_eq_true (by kernel_rfl)) k0 bel lt0) (trodAll_cons_mk (Below.trod laidOut (by kernel_rfl) (of_decide_eq_true (by kernel_rfl)) k1 bel lt1) (trodAll_cons_mk (Below.trod laidOut (by kernel_rfl) (of_decide_eq_true (by kernel_rfl)) k2 bel lt2) (trodAll_cons_mk (Below.trod laidOut (by kernel_rfl) (of_decide_eq_true (by kernel_rfl)) k3 bel lt3) (trodAll_cons_mk (Below.trod laidOut (by kernel_rfl) (of_decide_eq_true (by kernel_rfl)) k4 bel lt4) trodAll_mk0))))), rfl, bel.frame _, fun h => by cases h⟩

theorem IdentRounds_over : Rows.identRoundsRow.holds Try.pinned (OpenSpec.ofChange Rows.identRoundsSpec) :=
  OpenClaim.holds_of_wide 4 Try.f4 rfl rfl rfl rfl rfl rfl rfl ⟨rfl, rfl, rfl, rfl, rfl⟩ rfl rfl rfl rfl rfl (by kernel_rfl) Try.func4 (by kernel_rfl)
    (of_decide_eq_true (by kernel_rfl)) (by unfold Func.isWrapper; first | (rw [if_pos (by decide +kernel)]; kernel_rfl) | (rw [if_neg (by decide +kernel)]; exact ⟨rfl, rfl⟩))
    (fun os started H enc _ => IdentRounds_lifted os started H enc)

theorem IdentRounds_holds : Rows.IdentRoundsSaid := IdentRounds_over
#print axioms IdentRounds_holds
end Go.Proofs.Ytnocldlfmkmiaaa
