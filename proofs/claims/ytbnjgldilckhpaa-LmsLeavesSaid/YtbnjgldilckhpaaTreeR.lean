/-
  THE WALK of latticeref6.tree.
-/
import Derived.Test.YtbnjgldilckhpaaTreeL
namespace Go.Proofs.Ytbnjgldilckhpaa
set_option linter.unusedSimpArgs false
set_option linter.unusedVariables false
open Go.RowKit
attribute [local irreducible] wpQuiet Calls wpLine wpSeq
set_option maxRecDepth 4000

set_option maxHeartbeats 8000000 in
theorem treeR (nm : List UInt8) (hnm : nm.length = 16) (seed : List UInt8) (hs : seed.length = 32) (h n : Nat) (hn : n = 2 ^ h) (h1 : 1 ≤ h) (h5 : h ≤ 5) (w : World) :
    Calls Try.prog 43 #[agg nm, agg seed, .int .i64 (h : Int)] w (TreePost nm seed n w) := by
  have hF := Fr.start w
  have Hnm := Lib.hid hnm
  have Hs := Lib.hid hs
  have hn32 : n ≤ 32 := by rw [hn]; exact (Nat.pow_le_pow_right (n := 2) (by decide) h5 : 2 ^ h ≤ 2 ^ 5)
  have hn2 : 2 ≤ n := by rw [hn]; exact (Nat.pow_le_pow_right (n := 2) (by decide) h1 : 2 ^ 1 ≤ 2 ^ h)
  have Hp := Lib.hid (show (1 : Int) * 2 ^ ((h : Int)).toNat = (n : Int) by rw [hn, Int.toNat_natCast, Int.one_mul]; exact (Int.natCast_pow 2 h).symm)
  have e2 : (2 * (n : Int)).toNat = 2 * n := by omega
  have He2 := Lib.hid e2
  clear hn hnm hs e2
  go_enter Try.func43, Try.ntmps43
  go_wp2_with (first | ((with_reducible apply wpl_box (x := Operand.tmp 0) hF); exact rfl; clear hF; intro bn _ hF) | ((with_reducible apply wpl_box (x := Operand.tmp 1) hF); exact rfl; clear hF; intro bd _ hF) | ((with_reducible apply wpl_shlI); exact rfl; exact rfl; (focus omega); (focus omega); (focus (rw [Hp.out]; omega)); (focus (rw [Hp.out]; omega)); rw [Hp.out]) | ((with_reducible apply wpl_make32 hF (ht := Try.underlying68) (he := idRows)); exact rfl; exact rfl; (focus omega); (focus omega); clear hF; intro bt _ hF; rw [He2.out] at hF; rw [He2.out]))
  go_loopw [9] (fun v wr => ∃ (k : Nat) (xs : List (List UInt8)), k ≤ n ∧ v = .int .i64 (k : Int) ∧ xs.length = 2 * n ∧ (∀ x ∈ xs, x.length = 32) ∧ (∀ j, n ≤ j → j < n + k → xs.getD j [] = tn nm seed n j) ∧ Fr w wr [⟨bn, bs nm, 22⟩, ⟨bd, bs seed, 24⟩, ⟨bt, bs xs.flatten, 24⟩]) (fun v _ => ((n : Int) - intOf v).toNat)
  case atStart => exact ⟨0, List.replicate (2 * n) zeros, by omega, rfl, List.length_replicate, rep_rows _, fun j h1 h2 => by omega, hF⟩
  case round =>
    clear hF
    obtain ⟨k, xs, hk, rfl, hxl, hxs, hxt, hF⟩ := hrel
    have Hxl := Lib.hid hxl
    have Hxs := Lib.hid hxs
    have Hxt := Lib.hid hxt
    clear hxl hxs hxt
    by_cases hkn : k < n
    · have d1 : (k : Int) < (n : Int) := by omega
      obtain ⟨p, hp⟩ : ∃ p, pubOf nm (k : Int) seed = p := ⟨_, rfl⟩
      have Hpp := Lib.hid hp
      have Hpl := Lib.hid (show p.length = 32 by rw [← hp]; exact pubOf_length _ _ _)
      obtain ⟨z, hz⟩ : ∃ z, tn nm seed n (n + k) = z := ⟨_, rfl⟩
      have Hzz := Lib.hid hz
      have Hz := Lib.hid (show nodeOf nm ((n : Int) + (k : Int)) 130 p = z by rw [← hz, tn_leaf (by omega), show ((n + k : Nat) : Int) - (n : Int) = (k : Int) by omega, hp, Int.natCast_add])
      have Hzl := Lib.hid (show z.length = 32 by rw [← hz]; exact tn_length _ _ _ _)
      have q1 : ((n : Int) + (k : Int)).toNat = n + k := by omega
      have Q1 := Lib.hid q1
      clear hp hz q1
      go_wp2_with (first | ((with_reducible apply wpl_load hF (T := 22) (hu := Try.underlying22)); exact rfl; (first | exact ⟨0, rfl⟩ | exact ⟨1, rfl⟩ | exact ⟨2, rfl⟩ | exact ⟨3, rfl⟩ | exact ⟨4, rfl⟩ | exact ⟨5, rfl⟩ | exact ⟨6, rfl⟩ | exact ⟨7, rfl⟩ | exact ⟨8, rfl⟩ | exact ⟨9, rfl⟩ | exact ⟨10, rfl⟩ | exact ⟨11, rfl⟩); exact info_nm Hnm.out) | ((with_reducible apply wpl_load hF (T := 24) (hu := Try.underlying24)); exact rfl; (first | exact ⟨0, rfl⟩ | exact ⟨1, rfl⟩ | exact ⟨2, rfl⟩ | exact ⟨3, rfl⟩ | exact ⟨4, rfl⟩ | exact ⟨5, rfl⟩ | exact ⟨6, rfl⟩ | exact ⟨7, rfl⟩ | exact ⟨8, rfl⟩ | exact ⟨9, rfl⟩ | exact ⟨10, rfl⟩ | exact ⟨11, rfl⟩); exact info_idl Hs.out) | (go_at_call 16; refine (refPublic nm Hnm.out (k : Int) (by omega) (by omega) seed Hs.out _).mono ?_; rintro _ _ ⟨rfl, hb⟩; replace hF := hF.call hb; clear hb; rw [Hpp.out]) | ((with_reducible refine wpl_alloc (dst := some 10) hF (bs zeros) (T := 24) (hz := Try.zeroValue24) ?_ ?_); exact rfl; clear hF; intro bp _ hF) | ((with_reducible apply wpl_store hF 3 (T := 24)); exact rfl; exact rfl; exact rfl; exact info_idl Hpl.out; (focus (simp only [bs_length, zeros_length, Hpl.out, Hpl.out])); exact bs_oneCell _; clear hF; intro _ hF))
      ((refine wp_region_line ([⟨bn, bs nm, 22⟩, ⟨bd, bs seed, 24⟩]) ([⟨bt, bs xs.flatten, 24⟩, ⟨bp, bs p, 24⟩]) [0, 1, 2, 3, 4, 5, 6, 7, 8] ([ln 9, tk 10, ln 11]) (by kernel_rfl) (by kernel_rfl) hF ?_); clear hF; (simp only [planOf, List.filterMap_cons, List.filterMap_nil, List.getElem?_toArray, List.getElem?_cons_succ, List.getElem?_cons_zero, Option.map_some]))
      repeat (first | ((with_reducible apply wq_move); (focus (simp only [Act.eval, Array.getD_eq_getD_getElem?, List.getElem?_toArray, List.getElem?_cons_succ, List.getElem?_cons_zero, Option.getD_some, List.map_toArray, List.map_cons, List.map_nil] <;> exact rfl)); simp only [Act.put, List.setIfInBounds_toArray, List.set_cons_succ, List.set_cons_zero]) | ((with_reducible apply wq_load (T := 22) (hu := Try.underlying22)); exact rfl; (first | exact ⟨0, rfl⟩ | exact ⟨1, rfl⟩ | exact ⟨2, rfl⟩ | exact ⟨3, rfl⟩ | exact ⟨4, rfl⟩ | exact ⟨5, rfl⟩ | exact ⟨6, rfl⟩ | exact ⟨7, rfl⟩ | exact ⟨8, rfl⟩ | exact ⟨9, rfl⟩ | exact ⟨10, rfl⟩ | exact ⟨11, rfl⟩); exact info_nm Hnm.out; simp only [Act.put, List.setIfInBounds_toArray, List.set_cons_succ, List.set_cons_zero]) | ((with_reducible apply wq_addI); exact rfl; exact rfl; (focus omega); simp only [Act.put, List.setIfInBounds_toArray, List.set_cons_succ, List.set_cons_zero]) | ((with_reducible apply wq_sliceA (T := 24) (hu := Try.underlying24) (he := info_u8_)); exact rfl; simp only [Act.put, List.setIfInBounds_toArray, List.set_cons_succ, List.set_cons_zero]))
      refine wpQuiet_nil ?_
      (refine And.intro ?_ ?_; (focus (repeat (first | (with_reducible exact FOK.nil) | (with_reducible refine FOK.ln ?_) | (with_reducible refine FOK.tk ?_) | (with_reducible refine FOK.fl ?_ ?_; (focus fail))))))
      ((with_reducible apply wpLine_callp (f := 49) (hc := Try.call49)); exact wanted_plain; (focus (simp only [Act.eval, Array.getD_eq_getD_getElem?, List.getElem?_toArray, List.getElem?_cons_succ, List.getElem?_cons_zero, Option.getD_some, List.map_toArray, List.map_cons, List.map_nil] <;> exact rfl)); (focus (intro _ _ hw; exact nodeR nm Hnm.out ((n : Int) + (k : Int)) (by omega) (by omega) 130 p (some ⟨bp, 0, none⟩) 32 32 Hpl.out (by omega) (Sl.whole hw ⟨3, rfl⟩))); (simp only [Act.put, List.setIfInBounds_toArray, List.set_cons_succ, List.set_cons_zero, List.cons_append, List.nil_append, ← bs_append]))
      rw [Hz.out]
      ((refine wpLine_take rfl ?_); (first | ((with_reducible apply wq_move); (focus (simp only [Act.eval, Array.getD_eq_getD_getElem?, List.getElem?_toArray, List.getElem?_cons_succ, List.getElem?_cons_zero, Option.getD_some, List.map_toArray, List.map_cons, List.map_nil] <;> exact rfl)); simp only [Act.put, List.setIfInBounds_toArray, List.set_cons_succ, List.set_cons_zero]) | ((with_reducible apply wq_assign); (focus (simp only [Act.eval, Array.getD_eq_getD_getElem?, List.getElem?_toArray, List.getElem?_cons_succ, List.getElem?_cons_zero, Option.getD_some, List.map_toArray, List.map_cons, List.map_nil] <;> exact rfl)); simp only [Act.put, List.setIfInBounds_toArray, List.set_cons_succ, List.set_cons_zero]) | ((with_reducible apply wq_idx32 (hu := Try.underlying68) (he := info_id_)); exact rfl; exact rfl; (focus omega); (focus omega); simp only [Act.put, List.setIfInBounds_toArray, List.set_cons_succ, List.set_cons_zero, Q1.out])); (refine wpQuiet_nil ?_))
      ((with_reducible apply wpLine_storeRow 0 (T := 24) (xs := xs) (v := z) (j := n + k)); exact wanted_plain; exact rfl; exact rfl; exact rfl; exact Hxs.out; (focus (rw [Hxl.out]; omega)); exact Hzl.out; exact info_id_; (simp only [Act.put, List.setIfInBounds_toArray, List.set_cons_succ, List.set_cons_zero, List.cons_append, List.nil_append, ← bs_append]))
      ((refine wpLine_nil ?_); intro wl hF)
      go_wp2_with (first | fail)
      go_roundw
      case rel =>
        refine ⟨k + 1, xs.set (n + k) z, by omega, by go_num, by rw [List.length_set, Hxl.out], set_rows Hxs.out Hzl.out (n + k), fun j h1 h2 => ?_, hF.sub (List.sublist_append_left [_, _, _] _)⟩
        by_cases hj : n + k = j
        · subst hj
          rw [getD_set_self (by rw [Hxl.out]; omega), Hzz.out]
        · rw [getD_set_other hj]
          exact Hxt.out j h1 (by omega)
      case measure => simp [intOf]; omega
    · have d1 : ¬ (k : Int) < (n : Int) := by omega
      obtain rfl : k = n := by omega
      go_wp2_with (first | fail)
      go_loopw [11] (fun v wr => ∃ (r : Nat) (xs : List (List UInt8)), r < k ∧ v = .int .i64 (r : Int) ∧ xs.length = 2 * k ∧ (∀ x ∈ xs, x.length = 32) ∧ (∀ j, r < j → j < 2 * k → xs.getD j [] = tn nm seed k j) ∧ Fr w wr [⟨bn, bs nm, 22⟩, ⟨bd, bs seed, 24⟩, ⟨bt, bs xs.flatten, 24⟩]) (fun v _ => (intOf v).toNat)
      case atStart => exact ⟨k - 1, xs, by omega, by congr; omega, Hxl.out, Hxs.out, fun j h1 h2 => Hxt.out j (by omega) (by omega), hF⟩
      case round =>
        clear hF Hxl Hxs Hxt xs
        obtain ⟨r, xs, hr, rfl, hxl, hxs, hxt, hF⟩ := hrel
        have Hxl := Lib.hid hxl
        have Hxs := Lib.hid hxs
        have Hxt := Lib.hid hxt
        clear hxl hxs hxt
        by_cases hr0 : 0 < r
        · have d3 : (r : Int) > 0 := by omega
          have hr2 : 2 * r < 2 * k := by omega
          have hr3 : 2 * r + 1 < 2 * k := by omega
          obtain ⟨u, hu⟩ : ∃ u, xs.getD (2 * r) [] = u := ⟨_, rfl⟩
          obtain ⟨v, hv⟩ : ∃ v, xs.getD (2 * r + 1) [] = v := ⟨_, rfl⟩
          have Hu := Lib.hid hu
          have Hv := Lib.hid hv
          have Hul := Lib.hid (show u.length = 32 by rw [← hu]; exact getD_len Hxs.out (by rw [Hxl.out]; exact hr2))
          have Hvl := Lib.hid (show v.length = 32 by rw [← hv]; exact getD_len Hxs.out (by rw [Hxl.out]; exact hr3))
          obtain ⟨z, hz⟩ : ∃ z, tn nm seed k r = z := ⟨_, rfl⟩
          have Hzz := Lib.hid hz
          have Hz := Lib.hid (show nodeOf nm (r : Int) 131 (u ++ v) = z by rw [← hz, tn_inner (by omega) hr0, ← Hxt.out (2 * r) (by omega) hr2, ← Hxt.out (2 * r + 1) (by omega) hr3, hu, hv])
          have Hzl := Lib.hid (show z.length = 32 by rw [← hz]; exact tn_length _ _ _ _)
          have q1 : ((2 : Int) * (r : Int)).toNat = 2 * r := by omega
          have q2 : ((2 : Int) * (r : Int) + 1).toNat = 2 * r + 1 := by omega
          have Q1 := Lib.hid q1
          have Q2 := Lib.hid q2
          have Hwu := Lib.hid (show ∀ w' (R : List Blk), Fr w w' ([⟨bn, bs nm, 22⟩, ⟨bd, bs seed, 24⟩, ⟨bt, bs xs.flatten, 24⟩] ++ R) → Sl w' (some ⟨bt, 2 * r * 32, none⟩) (bs u) from fun w' R hF' => by rw [← hu]; exact hF'.slRow (k := 2) rfl Hxs.out (by rw [Hxl.out]; exact hr2))
          have Hwv := Lib.hid (show ∀ w' (R : List Blk), Fr w w' ([⟨bn, bs nm, 22⟩, ⟨bd, bs seed, 24⟩, ⟨bt, bs xs.flatten, 24⟩] ++ R) → Sl w' (some ⟨bt, (2 * r + 1) * 32, none⟩) (bs v) from fun w' R hF' => by rw [← hv]; exact hF'.slRow (k := 2) rfl Hxs.out (by rw [Hxl.out]; exact hr3))
          clear hu hv hz q1 q2
          go_wp2_with (first | fail)
          ((refine wp_region_line ([⟨bn, bs nm, 22⟩, ⟨bd, bs seed, 24⟩]) ([⟨bt, bs xs.flatten, 24⟩]) [0, 1, 2, 3, 5, 6, 7, 8, 9, 11, 12, 13, 14, 15, 16] ([fl 4 [] 5 (fun b => .slice (some ⟨b, 0, none⟩) 0 0), ln 10, ln 17, ln 18, tk 19, ln 20]) (by kernel_rfl) (by kernel_rfl) hF ?_); clear hF; (simp only [planOf, List.filterMap_cons, List.filterMap_nil, List.getElem?_toArray, List.getElem?_cons_succ, List.getElem?_cons_zero, Option.map_some]))
          repeat (first | ((with_reducible apply wq_move); (focus (simp only [Act.eval, Array.getD_eq_getD_getElem?, List.getElem?_toArray, List.getElem?_cons_succ, List.getElem?_cons_zero, Option.getD_some, List.map_toArray, List.map_cons, List.map_nil] <;> exact rfl)); simp only [Act.put, List.setIfInBounds_toArray, List.set_cons_succ, List.set_cons_zero]) | ((with_reducible apply wq_load (T := 22) (hu := Try.underlying22)); exact rfl; (first | exact ⟨0, rfl⟩ | exact ⟨1, rfl⟩ | exact ⟨2, rfl⟩ | exact ⟨3, rfl⟩ | exact ⟨4, rfl⟩ | exact ⟨5, rfl⟩ | exact ⟨6, rfl⟩ | exact ⟨7, rfl⟩ | exact ⟨8, rfl⟩ | exact ⟨9, rfl⟩ | exact ⟨10, rfl⟩ | exact ⟨11, rfl⟩); exact info_nm Hnm.out; simp only [Act.put, List.setIfInBounds_toArray, List.set_cons_succ, List.set_cons_zero]) | ((with_reducible apply wq_mulI); exact rfl; exact rfl; (focus omega); simp only [Act.put, List.setIfInBounds_toArray, List.set_cons_succ, List.set_cons_zero]) | ((with_reducible apply wq_addI); exact rfl; exact rfl; (focus omega); simp only [Act.put, List.setIfInBounds_toArray, List.set_cons_succ, List.set_cons_zero]) | ((with_reducible apply wq_idx32 (hu := Try.underlying68) (he := info_id_)); exact rfl; exact rfl; (focus omega); (focus omega); simp only [Act.put, List.setIfInBounds_toArray, List.set_cons_succ, List.set_cons_zero, Q1.out, Q2.out]) | ((with_reducible apply wq_sliceAny (T := 24) (hu := Try.underlying24) (he := info_u8_)); exact rfl; simp only [Act.put, List.setIfInBounds_toArray, List.set_cons_succ, List.set_cons_zero]))
          refine wpQuiet_nil ?_
          (refine And.intro ?_ ?_; (focus (repeat (first | (with_reducible exact FOK.nil) | (with_reducible refine FOK.ln ?_) | (with_reducible refine FOK.tk ?_) | (with_reducible refine FOK.fl ?_ ?_; (focus (exact fstep_build Try.underlying28 byteElem (by omega) (by kernel_rfl))))))))
          refine wpLine_float fun be => ?_
          (simp only [Act.put, List.setIfInBounds_toArray, List.set_cons_succ, List.set_cons_zero, List.cons_append, List.nil_append, ← bs_append])
          ((with_reducible apply wpLine_append 1 ([]) ([]) (bs u) (ht := Try.underlying28) (he := byteElem)); exact wanted_plain; exact rfl; exact rfl; (focus (simp [bs_length, Hul.out])); (focus exact rfl); exact rfl; (focus (simp [bs_length, Hul.out])); (focus (intro _ _ hw; exact Hwu.out _ _ hw)); exact bs_oneCell _; (focus omega); (focus (unfold maxLen; omega)); (intro b1 c1 t1 hc1); have H1 := Lib.hid hc1; clear hc1; (simp only [Act.put, List.setIfInBounds_toArray, List.set_cons_succ, List.set_cons_zero, List.cons_append, List.nil_append, ← bs_append]))
          ((with_reducible apply wpLine_append 1 (bs u) (t1) (bs v) (ht := Try.underlying28) (he := byteElem)); exact wanted_plain; exact rfl; exact rfl; (focus (simp [bs_length, Hul.out, Hvl.out])); (focus exact (by have := H1.out; omega)); exact rfl; (focus (simp [bs_length, Hul.out, Hvl.out])); (focus (intro _ _ hw; exact Hwv.out _ _ hw)); exact bs_oneCell _; (focus omega); (focus (unfold maxLen; omega)); (intro b2 c2 t2 hc2); have H2 := Lib.hid hc2; clear hc2; (simp only [Act.put, List.setIfInBounds_toArray, List.set_cons_succ, List.set_cons_zero, List.cons_append, List.nil_append, ← bs_append]))
          ((with_reducible apply wpLine_callp (f := 49) (hc := Try.call49)); exact wanted_plain; (focus (simp only [Act.eval, Array.getD_eq_getD_getElem?, List.getElem?_toArray, List.getElem?_cons_succ, List.getElem?_cons_zero, Option.getD_some, List.map_toArray, List.map_cons, List.map_nil] <;> exact rfl)); (focus (intro _ _ hw; exact nodeR nm Hnm.out (r : Int) (by omega) (by omega) 131 (u ++ v) _ _ _ (by simp [Hul.out, Hvl.out]) (by omega) (Sl.pre hw ⟨3, rfl⟩))); (simp only [Act.put, List.setIfInBounds_toArray, List.set_cons_succ, List.set_cons_zero, List.cons_append, List.nil_append, ← bs_append]))
          rw [Hz.out]
          ((refine wpLine_take rfl ?_); (first | ((with_reducible apply wq_move); (focus (simp only [Act.eval, Array.getD_eq_getD_getElem?, List.getElem?_toArray, List.getElem?_cons_succ, List.getElem?_cons_zero, Option.getD_some, List.map_toArray, List.map_cons, List.map_nil] <;> exact rfl)); simp only [Act.put, List.setIfInBounds_toArray, List.set_cons_succ, List.set_cons_zero]) | ((with_reducible apply wq_assign); (focus (simp only [Act.eval, Array.getD_eq_getD_getElem?, List.getElem?_toArray, List.getElem?_cons_succ, List.getElem?_cons_zero, Option.getD_some, List.map_toArray, List.map_cons, List.map_nil] <;> exact rfl)); simp only [Act.put, List.setIfInBounds_toArray, List.set_cons_succ, List.set_cons_zero]) | ((with_reducible apply wq_idx32 (hu := Try.underlying68) (he := info_id_)); exact rfl; exact rfl; (focus omega); (focus omega); simp only [Act.put, List.setIfInBounds_toArray, List.set_cons_succ, List.set_cons_zero, Int.toNat_natCast])); (refine wpQuiet_nil ?_))
          ((with_reducible apply wpLine_storeRow 0 (T := 24) (xs := xs) (v := z) (j := r)); exact wanted_plain; exact rfl; exact rfl; exact rfl; exact Hxs.out; (focus (rw [Hxl.out]; omega)); exact Hzl.out; exact info_id_; (simp only [Act.put, List.setIfInBounds_toArray, List.set_cons_succ, List.set_cons_zero, List.cons_append, List.nil_append, ← bs_append]))
          ((refine wpLine_nil ?_); intro wl hF)
          go_wp2_with (first | fail)
          go_roundw
          case rel =>
            refine ⟨r - 1, xs.set r z, by omega, by congr; omega, by rw [List.length_set, Hxl.out], set_rows Hxs.out Hzl.out r, fun j h1 h2 => ?_, hF.sub (List.sublist_append_left [_, _, _] _)⟩
            by_cases hj : r = j
            · subst hj
              rw [getD_set_self (by rw [Hxl.out]; exact h2), Hzz.out]
            · rw [getD_set_other hj]
              exact Hxt.out j (by omega) h2
          case measure => simp [intOf]; omega
        · have d3 : ¬ (r : Int) > 0 := by omega
          go_wp2_with (first | fail)
          go_ret
          exact ⟨bt, xs, rfl, Hxl.out, Hxs.out, fun j h1 h2 => Hxt.out j (by omega) h2, hF.made (by simp)⟩
end Go.Proofs.Ytbnjgldilckhpaa
