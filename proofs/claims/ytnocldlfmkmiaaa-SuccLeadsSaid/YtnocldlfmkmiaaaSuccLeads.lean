/-
  SuccLeads: for every number and every list, its node is laid ahead of the list's first twelve nodes, and R are left, in order. No conditions.
-/
import Derived.Test.YtnocldlfmkmiaaaSucc1
import Derived.Test.YtnocldlfmkmiaaaArgs2
namespace Go.Proofs.Ytnocldlfmkmiaaa
set_option linter.unusedSimpArgs false
set_option linter.unusedVariables false
open Go.ChangeShapes Go.WideShapes Go.ChangeAt Go.RowKit
attribute [local irreducible] wpQuiet Calls
set_option maxRecDepth 4000

set_option maxHeartbeats 4000000 in
theorem SuccLeads_walk (s : Int) (a1 : Option Addr) (len1 cap1 : Nat) (z1 : List Int) {w : World} (m1 : -9223372036854775808 ≤ s) (m2 : s ≤ 9223372036854775807) (n1 : IsI w a1 len1 cap1 z1) :
    Calls Try.prog 3 #[.int .i64 s, .slice a1 len1 cap1] w fun e w' => e = .returned (.bool true) ∧ Below w.heap.size w w' := by
  have hF := Fr.start w
  obtain ⟨h1, c1, r1, s1, f1⟩ := n1
  replace s1 : Sl w a1 (is z1) := s1
  obtain ⟨t, ht⟩ : ∃ t, t = s % 12 := ⟨_, rfl⟩
  have Hm := Lib.hid (And.intro m1 m2)
  have H1 := Lib.hid h1
  have Hf := Lib.hid f1
  have Ht := Lib.hid ht.symm
  clear m1 m2 h1 f1 ht
  by_cases h0 : len1 = 0
  · subst h0
    go_enter Try.func3, Try.ntmps3
    go_wp2_with (first | (go_at_call 15; refine (known15 _).mono ?_; rintro _ _ ⟨rfl, hb⟩; replace hF := hF.call hb; clear hb) | (go_at_call 16; refine (within15 _ _ (by omega) (by omega) Hm.out.1 Hm.out.2 _).mono ?_; rintro _ _ ⟨rfl, hww⟩; rw [Ht.out]; subst hww) | (go_at_call 17; refine (nodesNil _ _ _).mono ?_; rintro _ _ ⟨rfl, hb⟩; replace hF := hF.call hb; clear hb) | (go_at_call 18; refine (succLead t [] none 0 0 rfl (by omega) (Sl.nil _ _)).mono ?_; rintro _ _ ⟨b, rfl, ha⟩; replace hF := hF.adopt ha; clear ha) | ((with_reducible apply wpl_loadV hF (T := 3) (hu := Try.underlying3)); exact rfl; (first | exact ⟨0, rfl⟩ | exact ⟨1, rfl⟩ | exact ⟨2, rfl⟩ | exact ⟨3, rfl⟩ | exact ⟨4, rfl⟩ | exact ⟨5, rfl⟩ | exact ⟨6, rfl⟩); exact rfl) | go_skip | ((with_reducible refine wpl_unguard ?_ ?_); (focus (go_simp; done))))
    refine wp_loop_rounds 1 ?_
    rw [rounds_succ]
    go_wp2_with (first | fail)
    go_ret
    exact ⟨rfl, hF.below⟩
  · obtain ⟨x, rfl⟩ := s1.addr (by rw [is_length, H1.out]; omega)
    have hnl : (nodesOf z1).length = min 12 len1 := by rw [nodesOf_length, H1.out]
    obtain ⟨m, hm⟩ : ∃ m, m = min 12 len1 := ⟨_, rfl⟩
    have hm0 : 0 < m := by omega
    have hm12 : m ≤ 12 := by omega
    obtain ⟨ns, hns⟩ : ∃ ns, ns = nodesOf z1 := ⟨_, rfl⟩
    rw [← hm, ← hns] at hnl
    have Hnl := Lib.hid hnl
    have Hmm := Lib.hid hm.symm
    have Hns := Lib.hid hns.symm
    obtain ⟨r, hr⟩ : ∃ r, r = min (m + 1) 3 := ⟨_, rfl⟩
    have hr2 : 2 ≤ r := by omega
    have hr3 : r ≤ 3 := by omega
    have hrm : r ≤ m + 1 := by omega
    have rcase : ((m : Int) + 1 < 3 ∧ r = m + 1) ∨ (¬ (m : Int) + 1 < 3 ∧ r = 3) := by omega
    have Hr := Lib.hid hr.symm
    have hxl : ((t :: ns).take 3).length = r := by rw [List.length_take, List.length_cons, hnl, hr]; omega
    have Hxl := Lib.hid hxl
    clear hnl hm hns hr hxl
    rcases rcase with ⟨hA, hB⟩ | ⟨hA, hB⟩
    · have n1 : ((r : Int) != (m : Int) + 1) = false := by rw [bne_eq_false_iff_eq]; omega
      have n2 : ((r : Int) == (m : Int) + 1) = true := by rw [beq_iff_eq]; omega
      have n3 : (t != t) = false := by simp
      clear hB
      go_enter Try.func3, Try.ntmps3
      go_wp2_with (first | (go_at_call 15; refine (known15 _).mono ?_; rintro _ _ ⟨rfl, hb⟩; replace hF := hF.call hb; clear hb) | (go_at_call 16; refine (within15 _ _ (by omega) (by omega) Hm.out.1 Hm.out.2 _).mono ?_; rintro _ _ ⟨rfl, hww⟩; rw [Ht.out]; subst hww) | (go_at_call 17; refine (nodesCons z1 x len1 cap1 H1.out (by omega) (by omega) Hf.out (s1.fr hF)).mono ?_; rintro _ _ ⟨b1, k1, t1, rfl, hk1, ha⟩; rw [Hns.out] at ha; rw [Hmm.out]; replace hF := hF.adopt ha; clear ha hk1) | (go_at_call 18; refine (succLead t ns _ _ _ Hnl.out (by omega) (Sl.pre hF ⟨0, rfl⟩)).mono ?_; rintro _ _ ⟨b, rfl, ha⟩; rw [Hr.out]; replace hF := hF.adopt ha; clear ha) | ((with_reducible apply wpl_loadV hF (T := 3) (hu := Try.underlying3)); exact rfl; (first | exact ⟨0, rfl⟩ | exact ⟨1, rfl⟩ | exact ⟨2, rfl⟩ | exact ⟨3, rfl⟩ | exact ⟨4, rfl⟩ | exact ⟨5, rfl⟩ | exact ⟨6, rfl⟩); exact rfl) | go_skip | ((with_reducible refine wpl_unguard ?_ ?_); (focus (go_simp; done))))
      go_loopw [6] (fun v wr => ∃ (i : Nat), 1 ≤ i ∧ i ≤ r ∧ v = .int .i64 i ∧ Fr w wr [⟨b1, is ns ++ t1, 3⟩, ⟨b, is ((t :: ns).take 3), 3⟩]) (fun v _ => r - (intOf v).toNat)
      case atStart => exact ⟨1, by omega, by omega, rfl, hF⟩
      case round =>
        clear hF
        obtain ⟨i, hi1, hi2, rfl, hF⟩ := hrel
        by_cases hlt : i < r
        · have d1 : (0 : Int) ≤ (i : Int) := by omega
          have d2 : (i : Int) < (r : Int) := by omega
          have d3 : (0 : Int) ≤ (i : Int) - 1 := by omega
          have d4 : (i : Int) - 1 < (m : Int) := by omega
          have e1 : ((i : Int) - 1).toNat = i - 1 := by omega
          have k1' : (is ((t :: ns).take 3))[i]? = some (.int .i64 (ns.getD (i - 1) 0)) := by
            have := is_get (l := (t :: ns).take 3) (i := i) (by rw [Hxl.out]; exact hlt)
            rw [this]
            congr 2
            obtain ⟨j, rfl⟩ : ∃ j, i = j + 1 := ⟨i - 1, by omega⟩
            have hj3 : j < 2 := by omega
            have hj4 : j + 1 < 3 := by omega
            simp [List.getD, List.getElem?_take, hj3, hj4]
          have k2' : (is ns ++ t1)[i - 1]? = some (.int .i64 (ns.getD (i - 1) 0)) := by
            rw [List.getElem?_append_left (by rw [is_length, Hnl.out]; omega), is_get (by rw [Hnl.out]; omega)]
          have K1 := Lib.hid k1'
          have K2 := Lib.hid k2'
          obtain ⟨y, hy⟩ : ∃ y, y = ns.getD (i - 1) 0 := ⟨_, rfl⟩
          rw [← hy] at K1 K2
          have y1 : (y != y) = false := by simp
          clear k1' k2' hy
          go_wp2_with (first | fail)
          ((refine wp_region_fr (by kernel_rfl) (by kernel_rfl) hF ?_); clear hF)
          repeat (first | ((with_reducible apply wq_move); (focus (simp only [Act.eval, Array.getD_eq_getD_getElem?, List.getElem?_toArray, List.getElem?_cons_succ, List.getElem?_cons_zero, Option.getD_some, List.map_toArray, List.map_cons, List.map_nil] <;> exact rfl)); simp only [Act.put, List.setIfInBounds_toArray, List.set_cons_succ, List.set_cons_zero, e1, Nat.zero_add, Int.toNat_natCast]) | ((with_reducible apply wq_assign); (focus (simp only [Act.eval, Array.getD_eq_getD_getElem?, List.getElem?_toArray, List.getElem?_cons_succ, List.getElem?_cons_zero, Option.getD_some, List.map_toArray, List.map_cons, List.map_nil] <;> exact rfl)); simp only [Act.put, List.setIfInBounds_toArray, List.set_cons_succ, List.set_cons_zero, e1, Nat.zero_add, Int.toNat_natCast]) | ((with_reducible apply wq_idxS (hu := Try.underlying22) (he := info_int)); exact rfl; exact rfl; (focus omega); (focus omega); simp only [Act.put, List.setIfInBounds_toArray, List.set_cons_succ, List.set_cons_zero, e1, Nat.zero_add, Int.toNat_natCast]) | ((with_reducible apply wq_loadV (T := 3) (hu := Try.underlying3)); exact rfl; (first | exact ⟨0, rfl⟩ | exact ⟨1, rfl⟩ | exact ⟨2, rfl⟩ | exact ⟨3, rfl⟩ | exact ⟨4, rfl⟩ | exact ⟨5, rfl⟩ | exact ⟨6, rfl⟩); exact K1.out; simp only [Act.put, List.setIfInBounds_toArray, List.set_cons_succ, List.set_cons_zero, e1, Nat.zero_add, Int.toNat_natCast]) | ((with_reducible apply wq_loadV (T := 3) (hu := Try.underlying3)); exact rfl; (first | exact ⟨0, rfl⟩ | exact ⟨1, rfl⟩ | exact ⟨2, rfl⟩ | exact ⟨3, rfl⟩ | exact ⟨4, rfl⟩ | exact ⟨5, rfl⟩ | exact ⟨6, rfl⟩); exact K2.out; simp only [Act.put, List.setIfInBounds_toArray, List.set_cons_succ, List.set_cons_zero, e1, Nat.zero_add, Int.toNat_natCast]) | ((with_reducible apply wq_neqI); exact rfl; exact rfl; simp only [Act.put, List.setIfInBounds_toArray, List.set_cons_succ, List.set_cons_zero, e1, y1]) | ((with_reducible apply wq_addI); exact rfl; exact rfl; (focus omega); simp only [Act.put, List.setIfInBounds_toArray, List.set_cons_succ, List.set_cons_zero, e1, Nat.zero_add, Int.toNat_natCast]) | ((with_reducible apply wq_subI); exact rfl; exact rfl; (focus omega); simp only [Act.put, List.setIfInBounds_toArray, List.set_cons_succ, List.set_cons_zero, e1, Nat.zero_add, Int.toNat_natCast]) | ((with_reducible apply wq_mulI); exact rfl; exact rfl; (focus omega); simp only [Act.put, List.setIfInBounds_toArray, List.set_cons_succ, List.set_cons_zero, e1, Nat.zero_add, Int.toNat_natCast]) | ((with_reducible refine wq_unguard ?_ ?_); (focus (go_simp; done))) | ((with_reducible refine wq_skip ?_ ?_); (focus (go_simp; done)); simp only [Act.put, List.setIfInBounds_toArray, List.set_cons_succ, List.set_cons_zero]) | ((with_reducible refine wq_skip_none ?_ ?_); (focus (go_simp; done)); simp only [Act.put, List.setIfInBounds_toArray, List.set_cons_succ, List.set_cons_zero]))
          ((refine wpQuiet_nil ?_); intro _ hF)
          go_wp2_with (first | fail)
          go_roundw
          case rel => exact ⟨i + 1, by omega, by omega, by go_num, hF⟩
          case measure => simp [intOf]; omega
        · obtain rfl : i = r := by omega
          have d2 : ¬ (i : Int) < (i : Int) := by omega
          clear hlt
          go_wp2_with (first | fail)
          go_ret
          exact ⟨rfl, hF.below⟩
    · have n1 : ((r : Int) != 3) = false := by rw [bne_eq_false_iff_eq]; omega
      have n2 : ((r : Int) == 3) = true := by rw [beq_iff_eq]; omega
      have n3 : (t != t) = false := by simp
      clear hB
      go_enter Try.func3, Try.ntmps3
      go_wp2_with (first | (go_at_call 15; refine (known15 _).mono ?_; rintro _ _ ⟨rfl, hb⟩; replace hF := hF.call hb; clear hb) | (go_at_call 16; refine (within15 _ _ (by omega) (by omega) Hm.out.1 Hm.out.2 _).mono ?_; rintro _ _ ⟨rfl, hww⟩; rw [Ht.out]; subst hww) | (go_at_call 17; refine (nodesCons z1 x len1 cap1 H1.out (by omega) (by omega) Hf.out (s1.fr hF)).mono ?_; rintro _ _ ⟨b1, k1, t1, rfl, hk1, ha⟩; rw [Hns.out] at ha; rw [Hmm.out]; replace hF := hF.adopt ha; clear ha hk1) | (go_at_call 18; refine (succLead t ns _ _ _ Hnl.out (by omega) (Sl.pre hF ⟨0, rfl⟩)).mono ?_; rintro _ _ ⟨b, rfl, ha⟩; rw [Hr.out]; replace hF := hF.adopt ha; clear ha) | ((with_reducible apply wpl_loadV hF (T := 3) (hu := Try.underlying3)); exact rfl; (first | exact ⟨0, rfl⟩ | exact ⟨1, rfl⟩ | exact ⟨2, rfl⟩ | exact ⟨3, rfl⟩ | exact ⟨4, rfl⟩ | exact ⟨5, rfl⟩ | exact ⟨6, rfl⟩); exact rfl) | go_skip | ((with_reducible refine wpl_unguard ?_ ?_); (focus (go_simp; done))))
      go_loopw [6] (fun v wr => ∃ (i : Nat), 1 ≤ i ∧ i ≤ r ∧ v = .int .i64 i ∧ Fr w wr [⟨b1, is ns ++ t1, 3⟩, ⟨b, is ((t :: ns).take 3), 3⟩]) (fun v _ => r - (intOf v).toNat)
      case atStart => exact ⟨1, by omega, by omega, rfl, hF⟩
      case round =>
        clear hF
        obtain ⟨i, hi1, hi2, rfl, hF⟩ := hrel
        by_cases hlt : i < r
        · have d1 : (0 : Int) ≤ (i : Int) := by omega
          have d2 : (i : Int) < (r : Int) := by omega
          have d3 : (0 : Int) ≤ (i : Int) - 1 := by omega
          have d4 : (i : Int) - 1 < (m : Int) := by omega
          have e1 : ((i : Int) - 1).toNat = i - 1 := by omega
          have k1' : (is ((t :: ns).take 3))[i]? = some (.int .i64 (ns.getD (i - 1) 0)) := by
            have := is_get (l := (t :: ns).take 3) (i := i) (by rw [Hxl.out]; exact hlt)
            rw [this]
            congr 2
            obtain ⟨j, rfl⟩ : ∃ j, i = j + 1 := ⟨i - 1, by omega⟩
            have hj3 : j < 2 := by omega
            have hj4 : j + 1 < 3 := by omega
            simp [List.getD, List.getElem?_take, hj3, hj4]
          have k2' : (is ns ++ t1)[i - 1]? = some (.int .i64 (ns.getD (i - 1) 0)) := by
            rw [List.getElem?_append_left (by rw [is_length, Hnl.out]; omega), is_get (by rw [Hnl.out]; omega)]
          have K1 := Lib.hid k1'
          have K2 := Lib.hid k2'
          obtain ⟨y, hy⟩ : ∃ y, y = ns.getD (i - 1) 0 := ⟨_, rfl⟩
          rw [← hy] at K1 K2
          have y1 : (y != y) = false := by simp
          clear k1' k2' hy
          go_wp2_with (first | fail)
          ((refine wp_region_fr (by kernel_rfl) (by kernel_rfl) hF ?_); clear hF)
          repeat (first | ((with_reducible apply wq_move); (focus (simp only [Act.eval, Array.getD_eq_getD_getElem?, List.getElem?_toArray, List.getElem?_cons_succ, List.getElem?_cons_zero, Option.getD_some, List.map_toArray, List.map_cons, List.map_nil] <;> exact rfl)); simp only [Act.put, List.setIfInBounds_toArray, List.set_cons_succ, List.set_cons_zero, e1, Nat.zero_add, Int.toNat_natCast]) | ((with_reducible apply wq_assign); (focus (simp only [Act.eval, Array.getD_eq_getD_getElem?, List.getElem?_toArray, List.getElem?_cons_succ, List.getElem?_cons_zero, Option.getD_some, List.map_toArray, List.map_cons, List.map_nil] <;> exact rfl)); simp only [Act.put, List.setIfInBounds_toArray, List.set_cons_succ, List.set_cons_zero, e1, Nat.zero_add, Int.toNat_natCast]) | ((with_reducible apply wq_idxS (hu := Try.underlying22) (he := info_int)); exact rfl; exact rfl; (focus omega); (focus omega); simp only [Act.put, List.setIfInBounds_toArray, List.set_cons_succ, List.set_cons_zero, e1, Nat.zero_add, Int.toNat_natCast]) | ((with_reducible apply wq_loadV (T := 3) (hu := Try.underlying3)); exact rfl; (first | exact ⟨0, rfl⟩ | exact ⟨1, rfl⟩ | exact ⟨2, rfl⟩ | exact ⟨3, rfl⟩ | exact ⟨4, rfl⟩ | exact ⟨5, rfl⟩ | exact ⟨6, rfl⟩); exact K1.out; simp only [Act.put, List.setIfInBounds_toArray, List.set_cons_succ, List.set_cons_zero, e1, Nat.zero_add, Int.toNat_natCast]) | ((with_reducible apply wq_loadV (T := 3) (hu := Try.underlying3)); exact rfl; (first | exact ⟨0, rfl⟩ | exact ⟨1, rfl⟩ | exact ⟨2, rfl⟩ | exact ⟨3, rfl⟩ | exact ⟨4, rfl⟩ | exact ⟨5, rfl⟩ | exact ⟨6, rfl⟩); exact K2.out; simp only [Act.put, List.setIfInBounds_toArray, List.set_cons_succ, List.set_cons_zero, e1, Nat.zero_add, Int.toNat_natCast]) | ((with_reducible apply wq_neqI); exact rfl; exact rfl; simp only [Act.put, List.setIfInBounds_toArray, List.set_cons_succ, List.set_cons_zero, e1, y1]) | ((with_reducible apply wq_addI); exact rfl; exact rfl; (focus omega); simp only [Act.put, List.setIfInBounds_toArray, List.set_cons_succ, List.set_cons_zero, e1, Nat.zero_add, Int.toNat_natCast]) | ((with_reducible apply wq_subI); exact rfl; exact rfl; (focus omega); simp only [Act.put, List.setIfInBounds_toArray, List.set_cons_succ, List.set_cons_zero, e1, Nat.zero_add, Int.toNat_natCast]) | ((with_reducible apply wq_mulI); exact rfl; exact rfl; (focus omega); simp only [Act.put, List.setIfInBounds_toArray, List.set_cons_succ, List.set_cons_zero, e1, Nat.zero_add, Int.toNat_natCast]) | ((with_reducible refine wq_unguard ?_ ?_); (focus (go_simp; done))) | ((with_reducible refine wq_skip ?_ ?_); (focus (go_simp; done)); simp only [Act.put, List.setIfInBounds_toArray, List.set_cons_succ, List.set_cons_zero]) | ((with_reducible refine wq_skip_none ?_ ?_); (focus (go_simp; done)); simp only [Act.put, List.setIfInBounds_toArray, List.set_cons_succ, List.set_cons_zero]))
          ((refine wpQuiet_nil ?_); intro _ hF)
          go_wp2_with (first | fail)
          go_roundw
          case rel => exact ⟨i + 1, by omega, by omega, by go_num, hF⟩
          case measure => simp [intOf]; omega
        · obtain rfl : i = r := by omega
          have d2 : ¬ (i : Int) < (i : Int) := by omega
          clear hlt
          go_wp2_with (first | fail)
          go_ret
          exact ⟨rfl, hF.below⟩

set_option maxRecDepth 100000 in
theorem SuccLeads_lifted (os : Os) (started : os.Started) (H : Type) (enc : TypeId × Value → H) :
    ReturnsInHanded {} Try.checked os 3 .any (Rows.succLeadsSpec.pre6 enc Try.prog Try.f3 Rows.succLeadsRow.domain false) (Rows.succLeadsSpec.post enc Try.prog Try.f3 false true false false) := by
  refine returnsInHanded_of_change_sized (C := Try.checked) own started (by kernel_rfl) Try.func3
    (ChangeSpec.witness6 (enc := enc) (C := Try.checked) false ⟨#[], #[.int .i64 0, .slice none 0 0], []⟩ 8 (by kernel_rfl) (by kernel_rfl) (by kernel_rfl) (by kernel_rfl)) ?_
  intro W base args ds gs before hval0 hW hcnd hsz0 _
  have hsz : (DataW.weightsEach Try.prog (Try.f3.params.toList ++ Rows.succLeadsSpec.plain.varTypes Try.prog) (ds ++ gs)).all (· ≤ reachBytes) = true := hsz0
  have hval : ∀ (j : Nat) t v, Try.f3.params[j]? = some t → args[j]? = some v → Value.okWide Try.prog W .any base t v := hval0
  have hW' := hW
  obtain ⟨p, q, hA0, hV, rfl, hfz, hnd⟩ := hW
  have hA : DataW.TrodAll enc Try.prog W 0 (fun _ => true) true Try.f3.params.toList args.toList ds p := hA0
  rw [Try.params3] at hA hval hsz
  obtain ⟨v0, vs0, d0, ds0, p0, q0, hargs, rfl, rfl, h0, r0⟩ := trodAll_cons hA
  obtain ⟨v1, vs1, d1, ds1, p1, q1, rfl, rfl, rfl, h1, r1⟩ := trodAll_cons r0
  obtain ⟨rfl, rfl, rfl⟩ := trodAll_nil r1
  obtain rfl : args = #[v0, v1] := by cases args; simp_all
  obtain ⟨rfl, rfl⟩ := trodVars_none hV
  have k0 := h0
  have lt0 : ∀ x ∈ p0, x.block < W.heap.size := by obtain ⟨m, hm⟩ := k0; exact DataW.trod_lt m _ _ _ hm
  obtain ⟨l0, rfl, n0⟩ := okWide_i64 Try.underlying3 (hval 0 3 v0 rfl rfl)
  have k1 := h1
  have lt1 : ∀ x ∈ p1, x.block < W.heap.size := by obtain ⟨m, hm⟩ := k1; exact DataW.trod_lt m _ _ _ hm
  obtain ⟨a1, len1, cap1, rfl⟩ := okWide_slice Try.underlying22 (hval 1 22 v1 rfl rfl)
  obtain ⟨z1, n1⟩ : ∃ zs, IsI W a1 len1 cap1 zs := by obtain ⟨fuel, hf⟩ := h1; exact isI_of 1 Try.underlying22 Try.underlying3 (by kernel_rfl) (by kernel_rfl) hf hsz rfl rfl
  clear hA0 hval0 hcnd hsz hsz0
  refine (SuccLeads_walk l0 a1 len1 cap1 z1 n0.1 n0.2 n1).mono fun e W' ⟨he, bel⟩ => ?_
  subst he
  exact ⟨_, rfl, _, _, _, [], _, [], hW', trodAll_mk1 (shut_bool Try.underlying4 _), (trodAll_cons_mk (Below.trod laidOut (by kernel_rfl) (of_decide_eq_true (by kernel_rfl)) k0 bel lt0) (trodAll_cons_mk (Below.trod laidOut (by kernel_rfl) (of_decide_eq_true (by kernel_rfl)) k1 bel lt1) trodAll_mk0)), rfl, bel.frame _, fun h => by cases h⟩

theorem SuccLeads_over : Rows.succLeadsRow.holds Try.pinned (OpenSpec.ofChange Rows.succLeadsSpec) :=
  OpenClaim.holds_of_wide 3 Try.f3 rfl rfl rfl rfl rfl rfl rfl ⟨rfl, rfl, rfl, rfl, rfl⟩ rfl rfl rfl rfl rfl (by kernel_rfl) Try.func3 (by kernel_rfl)
    (of_decide_eq_true (by kernel_rfl)) (by unfold Func.isWrapper; first | (rw [if_pos (by decide +kernel)]; kernel_rfl) | (rw [if_neg (by decide +kernel)]; exact ⟨rfl, rfl⟩))
    (fun os started H enc _ => SuccLeads_lifted os started H enc)

theorem SuccLeads_holds : Rows.SuccLeadsSaid := SuccLeads_over
#print axioms SuccLeads_holds
end Go.Proofs.Ytnocldlfmkmiaaa
