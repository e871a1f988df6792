/-
  IdentAsks: of any five ids, made of three, which is the lesser, what lies between, and what a power of two makes, is the document's. No conditions.
-/
import Derived.Test.YtnocldlfmkmiaaaIdLaws
import Derived.Test.YtnocldlfmkmiaaaRows32
import Derived.Test.YtnocldlfmkmiaaaArgs
namespace Go.Proofs.Ytnocldlfmkmiaaa
set_option linter.unusedSimpArgs false
set_option linter.unusedVariables false
open Go.ChangeShapes Go.WideShapes Go.ChangeAt Go.RowKit
attribute [local irreducible] wpQuiet Calls
set_option maxRecDepth 4000

theorem idElem32 : Elem32 Try.prog 29 := by
  have h : ((Try.prog.info? 29).bind fun i => i.zero).isSome = true ∧ (Try.prog.info? 29).map (·.size) = some 32 := ⟨by kernel_rfl, info_id⟩
  cases hq : Try.prog.info? 29 with
  | none => rw [hq] at h; simp at h
  | some i =>
    rw [hq] at h
    obtain ⟨h1, h2⟩ := h
    simp only [Option.bind_some] at h1
    obtain ⟨z, hz⟩ := Option.isSome_iff_exists.1 h1
    exact ⟨i, z, hq, hz, by simpa using h2⟩
theorem wrap_le (n : Int) : IntKind.i64.wrap n ≤ 9223372036854775807 := by
  rw [IntKind.wrap_i64]
  omega

set_option maxHeartbeats 8000000 in
theorem IdentAsks_walk (a b c : List UInt8) (at_ : Int) (by_ : UInt8) (k : Int) (ha : a.length = 32) (hb : b.length = 32) (hc : c.length = 32) (m1 : -9223372036854775808 ≤ at_) (m2 : at_ ≤ 9223372036854775807) (k1 : -9223372036854775808 ≤ k) (k2 : k ≤ 9223372036854775807) (w : World) :
    Calls Try.prog 6 #[agg a, agg b, agg c, .int .i64 at_, B by_, .int .i64 k] w fun e w' => e = .returned (.bool true) ∧ Below w.heap.size w w' := by
  have hF := Fr.start w
  obtain ⟨d, hd⟩ : ∃ d, d = nearp a at_ by_ := ⟨_, rfl⟩
  obtain ⟨e, he⟩ : ∃ e, e = nearp a (IntKind.i64.wrap (at_ + 1)) by_ := ⟨_, rfl⟩
  have hdl : d.length = 32 := by rw [hd, nearp_length, ha]
  have hel : e.length = 32 := by rw [he, nearp_length, ha]
  obtain ⟨xs, hxs⟩ : ∃ xs : List (List UInt8), xs = [a, b, c, d, e] := ⟨_, rfl⟩
  have hx32 : ∀ y ∈ xs, y.length = 32 := by
    intro y hy
    rw [hxs] at hy
    simp only [List.mem_cons, List.not_mem_nil, or_false] at hy
    rcases hy with rfl | rfl | rfl | rfl | rfl <;> assumption
  have hx5 : xs.length = 5 := by rw [hxs]; rfl
  have hrow : ∀ i, i < 5 → (xs.getD i []).length = 32 := by
    intro i hi
    have hil : i < xs.length := by rw [hx5]; exact hi
    have : xs.getD i [] = xs[i] := by simp [List.getD, hil]
    rw [this]
    exact hx32 _ (List.getElem_mem hil)
  have Hd := Lib.hid hd.symm
  have He := Lib.hid he.symm
  have Hxs := Lib.hid hxs
  have H32 := Lib.hid hx32
  have H5 := Lib.hid hx5
  have Hrow := Lib.hid hrow
  have Hm2 := Lib.hid m2
  clear hd he hxs hx32 hx5 hrow m1 m2 k1 k2
  go_enter Try.func6, Try.ntmps6
  go_wp2_with (first | ((with_reducible apply wpl_box (x := Operand.tmp 0) hF); exact rfl; clear hF; intro ba _ hF) | ((with_reducible apply wpl_box (x := Operand.tmp 1) hF); exact rfl; clear hF; intro bb _ hF) | ((with_reducible apply wpl_box (x := Operand.tmp 2) hF); exact rfl; clear hF; intro bc _ hF) | (go_at_call 19; refine (known2 _).mono ?_; rintro _ _ ⟨rfl, hb⟩; replace hF := hF.call hb; clear hb))
  ((refine wp_region_fr_tail 12 (by kernel_rfl) (by kernel_rfl) hF ?_); clear hF; simp only [List.take_succ_cons, List.take_zero, List.drop_succ_cons, List.drop_zero])
  repeat (first | ((with_reducible apply wq_move); (focus (simp only [Act.eval, Array.getD_eq_getD_getElem?, List.getElem?_toArray, List.getElem?_cons_succ, List.getElem?_cons_zero, Option.getD_some, List.map_toArray, List.map_cons, List.map_nil] <;> exact rfl)); simp only [Act.put, List.setIfInBounds_toArray, List.set_cons_succ, List.set_cons_zero, eq_self]) | ((with_reducible apply wq_assign); (focus (simp only [Act.eval, Array.getD_eq_getD_getElem?, List.getElem?_toArray, List.getElem?_cons_succ, List.getElem?_cons_zero, Option.getD_some, List.map_toArray, List.map_cons, List.map_nil] <;> exact rfl)); simp only [Act.put, List.setIfInBounds_toArray, List.set_cons_succ, List.set_cons_zero, eq_self]) | ((with_reducible apply wq_load (T := 29) (hu := Try.underlying29)); exact rfl; (first | exact ⟨0, rfl⟩ | exact ⟨1, rfl⟩ | exact ⟨2, rfl⟩ | exact ⟨3, rfl⟩ | exact ⟨4, rfl⟩ | exact ⟨5, rfl⟩ | exact ⟨6, rfl⟩); exact info_id' (by assumption); simp only [Act.put, List.setIfInBounds_toArray, List.set_cons_succ, List.set_cons_zero]) | ((with_reducible apply wq_call (dst := some 29) (f := 20) (hc := Try.call20) (v := agg d)); (focus (simp only [Act.eval, Array.getD_eq_getD_getElem?, List.getElem?_toArray, List.getElem?_cons_succ, List.getElem?_cons_zero, Option.getD_some, List.map_toArray, List.map_cons, List.map_nil] <;> exact rfl)); exact (fun w hw => (near a ha at_ by_ Hm2.out _).mono (fun _ _ h => ⟨by rw [h.1, Hd.out], h.2⟩)); simp only [Act.put, List.setIfInBounds_toArray, List.set_cons_succ, List.set_cons_zero]) | ((with_reducible apply wq_call (dst := some 34) (f := 20) (hc := Try.call20) (v := agg e)); (focus (simp only [Act.eval, Array.getD_eq_getD_getElem?, List.getElem?_toArray, List.getElem?_cons_succ, List.getElem?_cons_zero, Option.getD_some, List.map_toArray, List.map_cons, List.map_nil] <;> exact rfl)); exact (fun w hw => (near a ha _ by_ (wrap_le _) _).mono (fun _ _ h => ⟨by rw [h.1, He.out], h.2⟩)); simp only [Act.put, List.setIfInBounds_toArray, List.set_cons_succ, List.set_cons_zero]) | ((with_reducible apply wq_addIw); exact rfl; exact rfl; simp only [Act.put, List.setIfInBounds_toArray, List.set_cons_succ, List.set_cons_zero]))
  ((refine wpQuiet_nil ?_); intro _ hF)
  go_wp2_with (first | ((with_reducible apply wpl_rows32 hF xs (ht := Try.underlying34) (he := idElem32)); exact H5.out; (focus omega); exact H32.out; (focus omega); (focus (rw [Hxs.out]; first | rfl | kernel_rfl)); clear hF; intro br _ hF))
  have hF0 : Fr w _ [⟨ba, bs a, 29⟩, ⟨bb, bs b, 29⟩, ⟨bc, bs c, 29⟩, ⟨br, bs xs.flatten, 29⟩] := hF
  clear hF
  go_loopw [14] (fun t wr => ∃ i : Nat, i ≤ 5 ∧ t = .int .i64 i ∧ Fr w wr [⟨ba, bs a, 29⟩, ⟨bb, bs b, 29⟩, ⟨bc, bs c, 29⟩, ⟨br, bs xs.flatten, 29⟩]) (fun t _ => (5 - intOf t).toNat)
  case atStart => exact ⟨0, by omega, rfl, hF0⟩
  case round =>
    clear hF0
    obtain ⟨i, hi, rfl, hF⟩ := hrel
    by_cases hlt : i < 5
    · have i0 : (0 : Int) ≤ (i : Int) := by omega
      have i1 : (i : Int) < 5 := by omega
      go_wp2_with (first | fail)
      obtain ⟨wo, hwo⟩ : ∃ wo : World, wo = wr := ⟨_, rfl⟩
      clear hwo
      go_loopw [15] (fun t wr => ∃ j : Nat, j ≤ 5 ∧ t = .int .i64 j ∧ Fr w wr [⟨ba, bs a, 29⟩, ⟨bb, bs b, 29⟩, ⟨bc, bs c, 29⟩, ⟨br, bs xs.flatten, 29⟩]) (fun t _ => (5 - intOf t).toNat)
      case atStart => exact ⟨0, by omega, rfl, hF⟩
      case round =>
        clear hF
        obtain ⟨j, hj, rfl, hF⟩ := hrel
        by_cases hlt2 : j < 5
        · have j0 : (0 : Int) ≤ (j : Int) := by omega
          have j1 : (j : Int) < 5 := by omega
          go_wp2_with (first | fail)
          ((refine wp_region_fr (by kernel_rfl) (by kernel_rfl) hF ?_); clear hF)
          repeat (first | ((with_reducible apply wq_move); (focus (simp only [Act.eval, Array.getD_eq_getD_getElem?, List.getElem?_toArray, List.getElem?_cons_succ, List.getElem?_cons_zero, Option.getD_some, List.map_toArray, List.map_cons, List.map_nil] <;> exact rfl)); simp only [Act.put, List.setIfInBounds_toArray, List.set_cons_succ, List.set_cons_zero, Int.toNat_natCast, bne_self_eq_false]) | ((with_reducible apply wq_assign); (focus (simp only [Act.eval, Array.getD_eq_getD_getElem?, List.getElem?_toArray, List.getElem?_cons_succ, List.getElem?_cons_zero, Option.getD_some, List.map_toArray, List.map_cons, List.map_nil] <;> exact rfl)); simp only [Act.put, List.setIfInBounds_toArray, List.set_cons_succ, List.set_cons_zero, Int.toNat_natCast, bne_self_eq_false]) | ((with_reducible apply wq_idx32 (hu := Try.underlying34) (he := info_id)); exact rfl; exact rfl; (focus omega); (focus omega); simp only [Act.put, List.setIfInBounds_toArray, List.set_cons_succ, List.set_cons_zero, Int.toNat_natCast, bne_self_eq_false]) | ((with_reducible apply wq_loadRow xs H32.out (T := 29) (hu := Try.underlying29) (hs := info_id)); exact rfl; (focus (rw [H5.out]; omega)); exact ⟨3, rfl⟩; simp only [Act.put, List.setIfInBounds_toArray, List.set_cons_succ, List.set_cons_zero, Int.toNat_natCast, bne_self_eq_false]) | ((with_reducible apply wq_call (f := 23) (hc := Try.call23)); (focus (simp only [Act.eval, Array.getD_eq_getD_getElem?, List.getElem?_toArray, List.getElem?_cons_succ, List.getElem?_cons_zero, Option.getD_some, List.map_toArray, List.map_cons, List.map_nil] <;> exact rfl)); exact (fun w hw => identLess _ _ (Hrow.out _ (by omega)) (Hrow.out _ (by omega)) _); simp only [Act.put, List.setIfInBounds_toArray, List.set_cons_succ, List.set_cons_zero, eq_self, decide_true, decide_false, Bool.not_true, Bool.not_false, Int.toNat_natCast]) | ((with_reducible apply wq_call (f := 24) (hc := Try.call24)); (focus (simp only [Act.eval, Array.getD_eq_getD_getElem?, List.getElem?_toArray, List.getElem?_cons_succ, List.getElem?_cons_zero, Option.getD_some, List.map_toArray, List.map_cons, List.map_nil] <;> exact rfl)); exact (fun w hw => refLess _ _ (Hrow.out _ (by omega)) (Hrow.out _ (by omega)) _); simp only [Act.put, List.setIfInBounds_toArray, List.set_cons_succ, List.set_cons_zero, eq_self, decide_true, decide_false, Bool.not_true, Bool.not_false, Int.toNat_natCast]) | ((with_reducible apply wq_neqbool (hT := Try.underlying4)); exact rfl; exact rfl; simp only [Act.put, List.setIfInBounds_toArray, List.set_cons_succ, List.set_cons_zero, beq_self_eq_true, Bool.not_true]))
          ((refine wpQuiet_nil ?_); intro _ hF)
          go_wp2_with (first | fail)
          obtain ⟨wo, hwo⟩ : ∃ wo : World, wo = wr := ⟨_, rfl⟩
          clear hwo
          go_loopw [16] (fun t wr => ∃ m : Nat, m ≤ 5 ∧ t = .int .i64 m ∧ Fr w wr [⟨ba, bs a, 29⟩, ⟨bb, bs b, 29⟩, ⟨bc, bs c, 29⟩, ⟨br, bs xs.flatten, 29⟩]) (fun t _ => (5 - intOf t).toNat)
          case atStart => exact ⟨0, by omega, rfl, hF⟩
          case round =>
            clear hF
            obtain ⟨m, hm, rfl, hF⟩ := hrel
            by_cases hlt3 : m < 5
            · have q0 : (0 : Int) ≤ (m : Int) := by omega
              have q1 : (m : Int) < 5 := by omega
              go_wp2_with (first | fail)
              ((refine wp_region_fr (by kernel_rfl) (by kernel_rfl) hF ?_); clear hF)
              repeat (first | (first | ((with_reducible apply wq_move); (focus (simp only [Act.eval, Array.getD_eq_getD_getElem?, List.getElem?_toArray, List.getElem?_cons_succ, List.getElem?_cons_zero, Option.getD_some, List.map_toArray, List.map_cons, List.map_nil] <;> exact rfl)); simp only [Act.put, List.setIfInBounds_toArray, List.set_cons_succ, List.set_cons_zero, Int.toNat_natCast]) | ((with_reducible apply wq_assign); (focus (simp only [Act.eval, Array.getD_eq_getD_getElem?, List.getElem?_toArray, List.getElem?_cons_succ, List.getElem?_cons_zero, Option.getD_some, List.map_toArray, List.map_cons, List.map_nil] <;> exact rfl)); simp only [Act.put, List.setIfInBounds_toArray, List.set_cons_succ, List.set_cons_zero, Int.toNat_natCast]) | ((with_reducible apply wq_idx32 (hu := Try.underlying34) (he := info_id)); exact rfl; exact rfl; (focus omega); (focus omega); simp only [Act.put, List.setIfInBounds_toArray, List.set_cons_succ, List.set_cons_zero, Int.toNat_natCast]) | ((with_reducible apply wq_loadRow xs H32.out (T := 29) (hu := Try.underlying29) (hs := info_id)); exact rfl; (focus (rw [H5.out]; omega)); exact ⟨3, rfl⟩; simp only [Act.put, List.setIfInBounds_toArray, List.set_cons_succ, List.set_cons_zero, Int.toNat_natCast]) | ((with_reducible apply wq_call (f := 21) (hc := Try.call21)); (focus (simp only [Act.eval, Array.getD_eq_getD_getElem?, List.getElem?_toArray, List.getElem?_cons_succ, List.getElem?_cons_zero, Option.getD_some, List.map_toArray, List.map_cons, List.map_nil] <;> exact rfl)); exact (fun w hw => identBetween _ _ _ (Hrow.out _ (by omega)) (Hrow.out _ (by omega)) (Hrow.out _ (by omega)) _); simp only [Act.put, List.setIfInBounds_toArray, List.set_cons_succ, List.set_cons_zero, eq_self, decide_true, decide_false, Bool.not_true, Bool.not_false, Int.toNat_natCast]) | ((with_reducible apply wq_call (f := 25) (hc := Try.call25)); (focus (simp only [Act.eval, Array.getD_eq_getD_getElem?, List.getElem?_toArray, List.getElem?_cons_succ, List.getElem?_cons_zero, Option.getD_some, List.map_toArray, List.map_cons, List.map_nil] <;> exact rfl)); exact (fun w hw => refBetween _ _ _ (Hrow.out _ (by omega)) (Hrow.out _ (by omega)) (Hrow.out _ (by omega)) _); simp only [Act.put, List.setIfInBounds_toArray, List.set_cons_succ, List.set_cons_zero, eq_self, decide_true, decide_false, Bool.not_true, Bool.not_false, Int.toNat_natCast]) | ((with_reducible apply wq_call (f := 22) (hc := Try.call22)); (focus (simp only [Act.eval, Array.getD_eq_getD_getElem?, List.getElem?_toArray, List.getElem?_cons_succ, List.getElem?_cons_zero, Option.getD_some, List.map_toArray, List.map_cons, List.map_nil] <;> exact rfl)); exact (fun w hw => identWithin _ _ _ (Hrow.out _ (by omega)) (Hrow.out _ (by omega)) (Hrow.out _ (by omega)) _); simp only [Act.put, List.setIfInBounds_toArray, List.set_cons_succ, List.set_cons_zero, eq_self, decide_true, decide_false, Bool.not_true, Bool.not_false, Int.toNat_natCast]) | ((with_reducible apply wq_call (f := 26) (hc := Try.call26)); (focus (simp only [Act.eval, Array.getD_eq_getD_getElem?, List.getElem?_toArray, List.getElem?_cons_succ, List.getElem?_cons_zero, Option.getD_some, List.map_toArray, List.map_cons, List.map_nil] <;> exact rfl)); exact (fun w hw => refWithin _ _ _ (Hrow.out _ (by omega)) (Hrow.out _ (by omega)) (Hrow.out _ (by omega)) _); simp only [Act.put, List.setIfInBounds_toArray, List.set_cons_succ, List.set_cons_zero, eq_self, decide_true, decide_false, Bool.not_true, Bool.not_false, Int.toNat_natCast]) | ((with_reducible apply wq_neqbool (hT := Try.underlying4)); exact rfl; exact rfl; simp only [Act.put, List.setIfInBounds_toArray, List.set_cons_succ, List.set_cons_zero, beq_self_eq_true, Bool.not_true])) | ((with_reducible apply wq_pick); exact rfl; (focus (simp only [Act.eval, Array.getD_eq_getD_getElem?, List.getElem?_toArray, List.getElem?_cons_succ, List.getElem?_cons_zero, Option.getD_some, List.map_toArray, List.map_cons, List.map_nil] <;> exact rfl)); simp only [Act.put, List.setIfInBounds_toArray, List.set_cons_succ, List.set_cons_zero]) | ((with_reducible apply wq_pick'); exact rfl; (focus (simp only [Act.eval, Array.getD_eq_getD_getElem?, List.getElem?_toArray, List.getElem?_cons_succ, List.getElem?_cons_zero, Option.getD_some, List.map_toArray, List.map_cons, List.map_nil] <;> exact rfl)); simp only [Act.put, List.setIfInBounds_toArray, List.set_cons_succ, List.set_cons_zero]) | ((with_reducible refine wq_unguard ?_ ?_); (focus (go_simp; done))))
              ((refine wpQuiet_nil ?_); intro _ hF)
              go_wp2_with (first | fail)
              go_roundw
              case rel => exact ⟨m + 1, by omega, by go_num, hF⟩
              case measure => simp [intOf]; omega
            · obtain rfl : m = 5 := by omega
              clear hlt3
              go_wp2_with (first | fail)
              go_roundw
              case rel => exact ⟨j + 1, by omega, by go_num, hF⟩
              case measure => simp [intOf]; omega
        · obtain rfl : j = 5 := by omega
          clear hlt2
          go_wp2_with (first | fail)
          go_roundw
          case rel => exact ⟨i + 1, by omega, by go_num, hF⟩
          case measure => simp [intOf]; omega
    · obtain rfl : i = 5 := by omega
      clear hlt
      by_cases hk : 0 ≤ k ∧ k ≤ 255
      · obtain ⟨hk0, hk1⟩ := hk
        obtain ⟨n, rfl⟩ : ∃ n : Nat, k = (n : Int) := ⟨k.toNat, by omega⟩
        have hn : n ≤ 255 := by omega
        obtain ⟨y, hy⟩ : ∃ y, y = addp a n := ⟨_, rfl⟩
        have hyl : y.length = 32 := by rw [hy]; exact addp_length _ _
        have Hy := Lib.hid hy.symm
        clear hy hk0 hk1
        go_wp2_with (first | ((with_reducible apply wpl_load hF (T := 29) (hu := Try.underlying29)); exact rfl; (first | exact ⟨0, rfl⟩ | exact ⟨1, rfl⟩ | exact ⟨2, rfl⟩ | exact ⟨3, rfl⟩ | exact ⟨4, rfl⟩ | exact ⟨5, rfl⟩ | exact ⟨6, rfl⟩); exact info_id' (by first | assumption | (with_reducible exact zeros_length) | (with_reducible exact addp_length _ _) | (simp only [List.length_set]; assumption))) | (go_at_call 27; refine (identAdd a ha n hn _).mono ?_; rintro _ _ ⟨rfl, hb⟩; rw [Hy.out]; replace hF := hF.call hb; clear hb) | (go_at_call 28; refine (refAdd a ha n hn _).mono ?_; rintro _ _ ⟨rfl, hb⟩; rw [Hy.out]; replace hF := hF.call hb; clear hb) | ((with_reducible refine wpl_alloc (dst := some 17) hF (bs zeros) (T := 29) (hz := Try.zeroValue29) ?_ ?_); exact rfl; clear hF; intro bp _ hF) | ((with_reducible refine wpl_alloc (dst := some 19) hF (bs zeros) (T := 29) (hz := Try.zeroValue29) ?_ ?_); exact rfl; clear hF; intro bq _ hF) | ((with_reducible apply wpl_store hF 4 (T := 29)); exact rfl; exact rfl; exact rfl; exact info_id' hyl; (focus (rw [bs_length, bs_length, hyl]; rfl)); exact bs_oneCell _; clear hF; intro _ hF) | ((with_reducible apply wpl_store hF 5 (T := 29)); exact rfl; exact rfl; exact rfl; exact info_id' hyl; (focus (rw [bs_length, bs_length, hyl]; rfl)); exact bs_oneCell _; clear hF; intro _ hF) | go_skip | ((with_reducible refine wpl_unguard ?_ ?_); (focus (go_simp; done))))
        go_ret
        exact ⟨by simp, hF.below⟩
      · have hk' : k < 0 ∨ 255 < k := by omega
        have hzl : zeros.length = 32 := rfl
        clear hk
        go_wp2_with (first | ((with_reducible apply wpl_load hF (T := 29) (hu := Try.underlying29)); exact rfl; (first | exact ⟨0, rfl⟩ | exact ⟨1, rfl⟩ | exact ⟨2, rfl⟩ | exact ⟨3, rfl⟩ | exact ⟨4, rfl⟩ | exact ⟨5, rfl⟩ | exact ⟨6, rfl⟩); exact info_id' (by first | assumption | (with_reducible exact zeros_length) | (with_reducible exact addp_length _ _) | (simp only [List.length_set]; assumption))) | (go_at_call 27; refine (identAdd_no a ha k hk' _).mono ?_; rintro _ _ ⟨rfl, hb⟩; replace hF := hF.call hb; clear hb) | (go_at_call 28; refine (refAdd_no a k hk' _).mono ?_; rintro _ _ ⟨rfl, hb⟩; replace hF := hF.call hb; clear hb) | ((with_reducible refine wpl_alloc (dst := some 17) hF (bs zeros) (T := 29) (hz := Try.zeroValue29) ?_ ?_); exact rfl; clear hF; intro bp _ hF) | ((with_reducible refine wpl_alloc (dst := some 19) hF (bs zeros) (T := 29) (hz := Try.zeroValue29) ?_ ?_); exact rfl; clear hF; intro bq _ hF) | ((with_reducible apply wpl_store hF 4 (T := 29)); exact rfl; exact rfl; exact rfl; exact info_id' hzl; (focus (with_reducible rfl)); exact bs_oneCell _; clear hF; intro _ hF) | ((with_reducible apply wpl_store hF 5 (T := 29)); exact rfl; exact rfl; exact rfl; exact info_id' hzl; (focus (with_reducible rfl)); exact bs_oneCell _; clear hF; intro _ hF) | go_skip | ((with_reducible refine wpl_unguard ?_ ?_); (focus (go_simp; done))))
        go_ret
        exact ⟨by simp, hF.below⟩

set_option maxRecDepth 100000 in
theorem IdentAsks_lifted (os : Os) (started : os.Started) (H : Type) (enc : TypeId × Value → H) :
    ReturnsInHanded {} Try.checked os 6 .any (Rows.identAsksSpec.pre6 enc Try.prog Try.f6 Rows.identAsksRow.domain false) (Rows.identAsksSpec.post enc Try.prog Try.f6 false true false false) := by
  refine returnsInHanded_of_change (C := Try.checked) own started (by kernel_rfl) Try.func6
    (ChangeSpec.witness6 (enc := enc) (C := Try.checked) false ⟨#[], #[.agg (Array.replicate 32 (.int .u8 0)), .agg (Array.replicate 32 (.int .u8 0)), .agg (Array.replicate 32 (.int .u8 0)), .int .i64 0, .int .u8 0, .int .i64 0], []⟩ 8 (by kernel_rfl) (by kernel_rfl) (by kernel_rfl) (by kernel_rfl)) ?_
  intro W base args ds gs before hval0 hW hcnd _
  have hval : ∀ (j : Nat) t v, Try.f6.params[j]? = some t → args[j]? = some v → Value.okWide Try.prog W .any base t v := hval0
  have hW' := hW
  obtain ⟨p, q, hA0, hV, rfl, hfz, hnd⟩ := hW
  have hA : DataW.TrodAll enc Try.prog W 0 (fun _ => true) true Try.f6.params.toList args.toList ds p := hA0
  rw [Try.params6] at hA hval
  obtain ⟨v0, vs0, d0, ds0, p0, q0, hargs, rfl, rfl, h0, r0⟩ := trodAll_cons hA
  obtain ⟨v1, vs1, d1, ds1, p1, q1, rfl, rfl, rfl, h1, r1⟩ := trodAll_cons r0
  obtain ⟨v2, vs2, d2, ds2, p2, q2, rfl, rfl, rfl, h2, r2⟩ := trodAll_cons r1
  obtain ⟨v3, vs3, d3, ds3, p3, q3, rfl, rfl, rfl, h3, r3⟩ := trodAll_cons r2
  obtain ⟨v4, vs4, d4, ds4, p4, q4, rfl, rfl, rfl, h4, r4⟩ := trodAll_cons r3
  obtain ⟨v5, vs5, d5, ds5, p5, q5, rfl, rfl, rfl, h5, r5⟩ := trodAll_cons r4
  obtain ⟨rfl, rfl, rfl⟩ := trodAll_nil r5
  obtain rfl : args = #[v0, v1, v2, v3, v4, v5] := by cases args; simp_all
  obtain ⟨rfl, rfl⟩ := trodVars_none hV
  have k0 := h0
  have lt0 : ∀ x ∈ p0, x.block < W.heap.size := by obtain ⟨m, hm⟩ := k0; exact DataW.trod_lt m _ _ _ hm
  obtain ⟨l0, n0, rfl⟩ := okWide_bytes Try.underlying29 Try.underlying5 (by kernel_rfl) (by kernel_rfl) (hval 0 29 v0 rfl rfl)
  have k1 := h1
  have lt1 : ∀ x ∈ p1, x.block < W.heap.size := by obtain ⟨m, hm⟩ := k1; exact DataW.trod_lt m _ _ _ hm
  obtain ⟨l1, n1, rfl⟩ := okWide_bytes Try.underlying29 Try.underlying5 (by kernel_rfl) (by kernel_rfl) (hval 1 29 v1 rfl rfl)
  have k2 := h2
  have lt2 : ∀ x ∈ p2, x.block < W.heap.size := by obtain ⟨m, hm⟩ := k2; exact DataW.trod_lt m _ _ _ hm
  obtain ⟨l2, n2, rfl⟩ := okWide_bytes Try.underlying29 Try.underlying5 (by kernel_rfl) (by kernel_rfl) (hval 2 29 v2 rfl rfl)
  have k3 := h3
  have lt3 : ∀ x ∈ p3, x.block < W.heap.size := by obtain ⟨m, hm⟩ := k3; exact DataW.trod_lt m _ _ _ hm
  obtain ⟨l3, rfl, n3⟩ := okWide_i64 Try.underlying3 (hval 3 3 v3 rfl rfl)
  have k4 := h4
  have lt4 : ∀ x ∈ p4, x.block < W.heap.size := by obtain ⟨m, hm⟩ := k4; exact DataW.trod_lt m _ _ _ hm
  obtain ⟨l4, rfl⟩ := okWide_u8 Try.underlying5 (hval 4 5 v4 rfl rfl)
  have k5 := h5
  have lt5 : ∀ x ∈ p5, x.block < W.heap.size := by obtain ⟨m, hm⟩ := k5; exact DataW.trod_lt m _ _ _ hm
  obtain ⟨l5, rfl, n5⟩ := okWide_i64 Try.underlying3 (hval 5 3 v5 rfl rfl)
  clear hA0 hval0 hcnd
  refine (IdentAsks_walk l0 l1 l2 l3 l4 l5 n0 n1 n2 n3.1 n3.2  n5.1 n5.2 W).mono fun e W' ⟨he, bel⟩ => ?_
  subst he
  exact ⟨_, rfl, _, _, _, [], _, [], hW', trodAll_mk1 (shut_bool Try.underlying4 _), (trodAll_cons_mk (Below.trod laidOut (by kernel_rfl) (of_decide_eq_true (by kernel_rfl)) k0 bel lt0) (trodAll_cons_mk (Below.trod laidOut (by kernel_rfl) (of_decide_eq_true (by kernel_rfl)) k1 bel lt1) (trodAll_cons_mk (Below.trod laidOut (by kernel_rfl) (of_decide_eq_true (by kernel_rfl)) k2 bel lt2) (trodAll_cons_mk (Below.trod laidOut (by kernel_rfl) (of_decide_eq_true (by kernel_rfl)) k3 bel lt3) (trodAll_cons_mk (Below.trod laidOut (by kernel_rfl) (of_decide_eq_true (by kernel_rfl)) k4 bel lt4) (trodAll_cons_mk (Below.trod laidOut (by kernel_rfl) (of_decide_eq_true (by kernel_rfl)) k5 bel lt5) trodAll_mk0)))))), rfl, bel.frame _, fun h => by cases h⟩

theorem IdentAsks_over : Rows.identAsksRow.holds Try.pinned (OpenSpec.ofChange Rows.identAsksSpec) :=
  OpenClaim.holds_of_wide 6 Try.f6 rfl rfl rfl rfl rfl rfl rfl ⟨rfl, rfl, rfl, rfl, rfl⟩ rfl rfl rfl rfl rfl (by kernel_rfl) Try.func6 (by kernel_rfl)
    (of_decide_eq_true (by kernel_rfl)) (by unfold Func.isWrapper; first | (rw [if_pos (by decide +kernel)]; kernel_rfl) | (rw [if_neg (by decide +kernel)]; exact ⟨rfl, rfl⟩))
    (fun os started H enc _ => IdentAsks_lifted os started H enc)

theorem IdentAsks_holds : Rows.IdentAsksSaid := IdentAsks_over
#print axioms IdentAsks_holds
end Go.Proofs.Ytnocldlfmkmiaaa
