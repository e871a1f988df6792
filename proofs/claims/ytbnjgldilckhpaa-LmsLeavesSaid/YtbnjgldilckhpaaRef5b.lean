/-
  THE WALKS of latticeref5.secret, walk.
-/
import Derived.Test.YtbnjgldilckhpaaRef5a
import Derived.Test.YtbnjgldilckhpaaRow
namespace Go.Proofs.Ytbnjgldilckhpaa
set_option linter.unusedSimpArgs false
set_option linter.unusedVariables false
open Go.RowKit
attribute [local irreducible] wpQuiet Calls wpLine
set_option maxRecDepth 4000

set_option maxHeartbeats 4000000 in
theorem secret5 (nm : List UInt8) (hnm : nm.length = 16) (q : Int) (h0 : -9223372036854775808 ≤ q) (h1 : q ≤ 9223372036854775807) (i : Int) (i0 : -9223372036854775808 ≤ i) (i1 : i ≤ 9223372036854775807) (t : List UInt8) (ht : t.length = 32) (w : World) :
    Calls Try.prog 35 #[agg nm, .int .i64 q, .int .i64 i, agg t] w fun e w' => e = .returned (agg (hashOf nm q i 255 t)) ∧ Below w.heap.size w w' := by
  have hF := Fr.start w
  have Hq := Lib.hid (And.intro h0 h1)
  have Hi := Lib.hid (And.intro i0 i1)
  have Hnm := Lib.hid hnm
  have Ht := Lib.hid ht
  have Hnl := Lib.hid (show (bs nm).length = 16 by rw [bs_length]; exact hnm)
  clear h0 h1 hnm i0 i1 ht
  go_enter Try.func35, Try.ntmps35
  go_wp2_with (first | ((with_reducible apply wpl_box (x := Operand.tmp 0) hF); exact rfl; clear hF; intro bn _ hF) | ((with_reducible apply wpl_box (x := Operand.tmp 3) hF); exact rfl; clear hF; intro bt _ hF) | ((with_reducible refine wpl_alloc (dst := some 8) hF (bs zeros) (T := 24) (hz := Try.zeroValue24) ?_ ?_); exact rfl; clear hF; intro bo _ hF))
  ((refine wp_region_line ([⟨bn, bs nm, 22⟩, ⟨bt, bs t, 24⟩]) ([⟨bo, bs zeros, 24⟩]) [0, 1, 3, 7] ([ln 2, ln 4, fl 5 (bs [255]) 5 (fun b => .slice (some ⟨b, 0, none⟩) 1 1), ln 6, ln 8, ln 9, ln 10]) (by kernel_rfl) (by kernel_rfl) hF ?_); clear hF; (simp only [planOf, List.filterMap_cons, List.filterMap_nil, List.getElem?_toArray, List.getElem?_cons_succ, List.getElem?_cons_zero, Option.map_some]))
  repeat (first | ((with_reducible apply wq_move); (focus (simp only [Act.eval, Array.getD_eq_getD_getElem?, List.getElem?_toArray, List.getElem?_cons_succ, List.getElem?_cons_zero, Option.getD_some, List.map_toArray, List.map_cons, List.map_nil] <;> exact rfl)); simp only [Act.put, List.setIfInBounds_toArray, List.set_cons_succ, List.set_cons_zero]) | ((with_reducible apply wq_load (T := 22) (hu := Try.underlying22)); exact rfl; (first | exact ⟨0, rfl⟩ | exact ⟨1, rfl⟩ | exact ⟨2, rfl⟩ | exact ⟨3, rfl⟩ | exact ⟨4, rfl⟩ | exact ⟨5, rfl⟩ | exact ⟨6, rfl⟩ | exact ⟨7, rfl⟩ | exact ⟨8, rfl⟩ | exact ⟨9, rfl⟩ | exact ⟨10, rfl⟩ | exact ⟨11, rfl⟩); exact info_nm Hnm.out; simp only [Act.put, List.setIfInBounds_toArray, List.set_cons_succ, List.set_cons_zero]) | ((with_reducible apply wq_sliceA (T := 24) (hu := Try.underlying24) (he := info_u8_)); exact rfl; simp only [Act.put, List.setIfInBounds_toArray, List.set_cons_succ, List.set_cons_zero]))
  refine wpQuiet_nil ?_
  (refine And.intro ?_ ?_; (focus (repeat (first | (with_reducible exact FOK.nil) | (with_reducible refine FOK.ln ?_) | (with_reducible refine FOK.tk ?_) | (with_reducible refine FOK.fl ?_ ?_; (focus (exact fstep_build Try.underlying28 byteElem (by omega) (by kernel_rfl))))))))
  ((with_reducible apply wpLine_made (f := 33) (hc := Try.call33)); exact wanted_plain; (focus (simp only [Act.eval, Array.getD_eq_getD_getElem?, List.getElem?_toArray, List.getElem?_cons_succ, List.getElem?_cons_zero, Option.getD_some, List.map_toArray, List.map_cons, List.map_nil] <;> exact rfl)); intro _ _ hw; refine (head5 nm Hnm.out q Hq.out.1 Hq.out.2 _).mono ?_; clear hw; rintro _ _ ⟨b1, c1, t1, rfl, hc1, hm⟩; refine ⟨_, _, rfl, hm, ?_⟩; clear hm; have H1 := Lib.hid hc1; clear hc1; (simp only [Act.put, List.setIfInBounds_toArray, List.set_cons_succ, List.set_cons_zero, List.cons_append, List.nil_append, ← bs_append]))
  ((with_reducible apply wpLine_grown 1 (f := 38) (hc := Try.call38)); exact wanted_plain; (focus (simp only [Act.eval, Array.getD_eq_getD_getElem?, List.getElem?_toArray, List.getElem?_cons_succ, List.getElem?_cons_zero, Option.getD_some, List.map_toArray, List.map_cons, List.map_nil] <;> exact rfl)); rotate_left; exact rfl; intro _ _ hw hkk; refine (two5 i Hi.out.1 Hi.out.2 hw _ hkk (by simp [bs_length, headOf_length Hnm.out]) H1.out (by omega)).mono ?_; clear hw hkk; rintro _ _ ⟨b2, c2, t2, rfl, hc2, hF2⟩; refine ⟨_, _, rfl, hF2, ?_⟩; clear hF2; have H2 := Lib.hid hc2; clear hc2; (simp only [Act.put, List.setIfInBounds_toArray, List.set_cons_succ, List.set_cons_zero, List.cons_append, List.nil_append, ← bs_append]))
  refine wpLine_float fun bf => ?_
  (simp only [Act.put, List.setIfInBounds_toArray, List.set_cons_succ, List.set_cons_zero, List.cons_append, List.nil_append, ← bs_append])
  ((with_reducible apply wpLine_append 1 (bs (headOf nm q ++ two i)) (t2) (bs [255]) (ht := Try.underlying28) (he := byteElem)); exact wanted_plain; exact rfl; exact rfl; (focus (simp [bs_length, headOf_length Hnm.out, two_length])); (focus exact H2.out); exact rfl; (focus (simp [bs_length, headOf_length Hnm.out, two_length])); (focus (intro _ _ hw; exact Sl.whole hw ⟨4, rfl⟩)); exact bs_oneCell _; (focus omega); (focus (unfold maxLen; omega)); (intro b3 c3 t3 hc3); have H3 := Lib.hid hc3; clear hc3; (simp only [Act.put, List.setIfInBounds_toArray, List.set_cons_succ, List.set_cons_zero, List.cons_append, List.nil_append, ← bs_append]))
  ((with_reducible apply wpLine_append 1 (bs (headOf nm q ++ two i ++ [255])) (t3) (bs t) (ht := Try.underlying28) (he := byteElem)); exact wanted_plain; exact rfl; exact rfl; (focus (simp [bs_length, headOf_length Hnm.out, two_length, Ht.out])); (focus exact H3.out); exact rfl; (focus (simp [bs_length, headOf_length Hnm.out, two_length, Ht.out])); (focus (intro _ _ hw; exact Sl.whole hw ⟨1, rfl⟩)); exact bs_oneCell _; (focus omega); (focus (unfold maxLen; omega)); (intro b4 c4 t4 hc4); have H4 := Lib.hid hc4; clear hc4; (simp only [Act.put, List.setIfInBounds_toArray, List.set_cons_succ, List.set_cons_zero, List.cons_append, List.nil_append, ← bs_append]))
  ((with_reducible apply wpLine_callp (f := 36) (hc := Try.call36)); exact wanted_plain; (focus (simp only [Act.eval, Array.getD_eq_getD_getElem?, List.getElem?_toArray, List.getElem?_cons_succ, List.getElem?_cons_zero, Option.getD_some, List.map_toArray, List.map_cons, List.map_nil] <;> exact rfl)); (focus (intro _ _ hw; exact refSum (headOf nm q ++ two i ++ [255] ++ t) _ _ _ (by simp [headOf_length Hnm.out, two_length, Ht.out]) _ (Sl.pre hw ⟨3, rfl⟩) (by omega))); (simp only [Act.put, List.setIfInBounds_toArray, List.set_cons_succ, List.set_cons_zero, List.cons_append, List.nil_append, ← bs_append]))
  ((with_reducible apply wpLine_store 0 (T := 24)); exact wanted_plain; exact rfl; exact rfl; exact rfl; exact info_idl (hash_length _); (focus (simp only [bs_length, zeros_length, hash_length])); exact bs_oneCell _; (simp only [Act.put, List.setIfInBounds_toArray, List.set_cons_succ, List.set_cons_zero, List.cons_append, List.nil_append, ← bs_append]))
  ((refine wpLine_nil ?_); intro wl hF)
  go_wp2_with (first | fail)
  exact post_row hF rfl rfl rfl ⟨2, rfl⟩ Try.underlying24 (info_idl (hash_length _)) ⟨rfl, hF.below⟩

set_option maxHeartbeats 4000000 in
theorem walk5 (nm : List UInt8) (hnm : nm.length = 16) (q : Int) (h0 : -9223372036854775808 ≤ q) (h1 : q ≤ 9223372036854775807) (i : Int) (i0 : -9223372036854775808 ≤ i) (i1 : i ≤ 9223372036854775807) (j n : Nat) (to : Int) (hto : to = (j : Int) + (n : Int)) (hj : j + n ≤ 1000) (t : List UInt8) (ht : t.length = 32) (w : World) :
    Calls Try.prog 34 #[agg nm, .int .i64 q, .int .i64 i, .int .i64 j, .int .i64 to, agg t] w fun e w' => e = .returned (agg (chain nm q i j t n)) ∧ Below w.heap.size w w' := by
  have hF := Fr.start w
  have Hq := Lib.hid (And.intro h0 h1)
  have Hi := Lib.hid (And.intro i0 i1)
  have Hnm := Lib.hid hnm
  have Ht := Lib.hid ht
  have Hto := Lib.hid hto
  clear h0 h1 hnm i0 i1 ht hto
  go_enter Try.func34, Try.ntmps34
  go_wp2_with (first | ((with_reducible apply wpl_box (x := Operand.tmp 0) hF); exact rfl; clear hF; intro bn _ hF) | ((with_reducible apply wpl_box (x := Operand.tmp 5) hF); exact rfl; clear hF; intro bt _ hF) | ((with_reducible refine wpl_alloc (dst := some 12) hF (bs zeros) (T := 24) (hz := Try.zeroValue24) ?_ ?_); exact rfl; clear hF; intro bo _ hF))
  go_loopw [13] (fun v wr => ∃ m : Nat, m ≤ n ∧ v = .int .i64 ((j : Int) + (m : Int)) ∧ Fr w wr [⟨bn, bs nm, 22⟩, ⟨bt, bs (chain nm q i j t m), 24⟩, ⟨bo, bs zeros, 24⟩]) (fun v _ => (to - intOf v).toNat)
  case atStart => exact ⟨0, by omega, by simp, hF⟩
  case round =>
    clear hF
    obtain ⟨m, hm, rfl, hF⟩ := hrel
    obtain ⟨u, hu⟩ : ∃ u, u = chain nm q i j t m := ⟨_, rfl⟩
    have Hu := Lib.hid hu
    have Hul := Lib.hid (show u.length = 32 by rw [hu]; exact chain_length Ht.out m)
    rw [← hu] at hF
    clear hu
    by_cases hlt : m < n
    · have d1 : (j : Int) + (m : Int) < to := by have := Hto.out; omega
      go_wp2_with (first | fail)
      ((refine wp_region_line ([⟨bn, bs nm, 22⟩]) ([⟨bt, bs u, 24⟩, ⟨bo, bs zeros, 24⟩]) [0, 1, 3, 5, 6, 9] ([ln 2, ln 4, fl 7 (bs [b8 ((j : Int) + (m : Int))]) 5 (fun b => .slice (some ⟨b, 0, none⟩) 1 1), ln 8, ln 10, ln 11, ln 12]) (by kernel_rfl) (by kernel_rfl) hF ?_); clear hF; (simp only [planOf, List.filterMap_cons, List.filterMap_nil, List.getElem?_toArray, List.getElem?_cons_succ, List.getElem?_cons_zero, Option.map_some]))
      repeat (first | ((with_reducible apply wq_move); (focus (simp only [Act.eval, Array.getD_eq_getD_getElem?, List.getElem?_toArray, List.getElem?_cons_succ, List.getElem?_cons_zero, Option.getD_some, List.map_toArray, List.map_cons, List.map_nil] <;> exact rfl)); simp only [Act.put, List.setIfInBounds_toArray, List.set_cons_succ, List.set_cons_zero]) | ((with_reducible apply wq_load (T := 22) (hu := Try.underlying22)); exact rfl; (first | exact ⟨0, rfl⟩ | exact ⟨1, rfl⟩ | exact ⟨2, rfl⟩ | exact ⟨3, rfl⟩ | exact ⟨4, rfl⟩ | exact ⟨5, rfl⟩ | exact ⟨6, rfl⟩ | exact ⟨7, rfl⟩ | exact ⟨8, rfl⟩ | exact ⟨9, rfl⟩ | exact ⟨10, rfl⟩ | exact ⟨11, rfl⟩); exact info_nm Hnm.out; simp only [Act.put, List.setIfInBounds_toArray, List.set_cons_succ, List.set_cons_zero]) | ((with_reducible apply wq_sliceA (T := 24) (hu := Try.underlying24) (he := info_u8_)); exact rfl; simp only [Act.put, List.setIfInBounds_toArray, List.set_cons_succ, List.set_cons_zero]) | ((with_reducible apply wq_cvIB); exact rfl; exact (by rw [Try.underlying3]; rfl); exact Try.underlying5; simp only [Act.put, List.setIfInBounds_toArray, List.set_cons_succ, List.set_cons_zero]))
      refine wpQuiet_nil ?_
      (refine And.intro ?_ ?_; (focus (repeat (first | (with_reducible exact FOK.nil) | (with_reducible refine FOK.ln ?_) | (with_reducible refine FOK.tk ?_) | (with_reducible refine FOK.fl ?_ ?_; (focus (exact fstep_build Try.underlying28 byteElem (by omega) (by kernel_rfl))))))))
      ((with_reducible apply wpLine_made (f := 33) (hc := Try.call33)); exact wanted_plain; (focus (simp only [Act.eval, Array.getD_eq_getD_getElem?, List.getElem?_toArray, List.getElem?_cons_succ, List.getElem?_cons_zero, Option.getD_some, List.map_toArray, List.map_cons, List.map_nil] <;> exact rfl)); intro _ _ hw; refine (head5 nm Hnm.out q Hq.out.1 Hq.out.2 _).mono ?_; clear hw; rintro _ _ ⟨b1, c1, t1, rfl, hc1, hm⟩; refine ⟨_, _, rfl, hm, ?_⟩; clear hm; have H1 := Lib.hid hc1; clear hc1; (simp only [Act.put, List.setIfInBounds_toArray, List.set_cons_succ, List.set_cons_zero, List.cons_append, List.nil_append, ← bs_append]))
      ((with_reducible apply wpLine_grown 2 (f := 38) (hc := Try.call38)); exact wanted_plain; (focus (simp only [Act.eval, Array.getD_eq_getD_getElem?, List.getElem?_toArray, List.getElem?_cons_succ, List.getElem?_cons_zero, Option.getD_some, List.map_toArray, List.map_cons, List.map_nil] <;> exact rfl)); rotate_left; exact rfl; intro _ _ hw hkk; refine (two5 i Hi.out.1 Hi.out.2 hw _ hkk (by simp [bs_length, headOf_length Hnm.out]) H1.out (by omega)).mono ?_; clear hw hkk; rintro _ _ ⟨b2, c2, t2, rfl, hc2, hF2⟩; refine ⟨_, _, rfl, hF2, ?_⟩; clear hF2; have H2 := Lib.hid hc2; clear hc2; (simp only [Act.put, List.setIfInBounds_toArray, List.set_cons_succ, List.set_cons_zero, List.cons_append, List.nil_append, ← bs_append]))
      refine wpLine_float fun bf => ?_
      (simp only [Act.put, List.setIfInBounds_toArray, List.set_cons_succ, List.set_cons_zero, List.cons_append, List.nil_append, ← bs_append])
      ((with_reducible apply wpLine_append 2 (bs (headOf nm q ++ two i)) (t2) (bs [b8 ((j : Int) + (m : Int))]) (ht := Try.underlying28) (he := byteElem)); exact wanted_plain; exact rfl; exact rfl; (focus (simp [bs_length, headOf_length Hnm.out, two_length])); (focus exact H2.out); exact rfl; (focus (simp [bs_length, headOf_length Hnm.out, two_length])); (focus (intro _ _ hw; exact Sl.whole hw ⟨4, rfl⟩)); exact bs_oneCell _; (focus omega); (focus (unfold maxLen; omega)); (intro b3 c3 t3 hc3); have H3 := Lib.hid hc3; clear hc3; (simp only [Act.put, List.setIfInBounds_toArray, List.set_cons_succ, List.set_cons_zero, List.cons_append, List.nil_append, ← bs_append]))
      ((with_reducible apply wpLine_append 2 (bs (headOf nm q ++ two i ++ [b8 ((j : Int) + (m : Int))])) (t3) (bs u) (ht := Try.underlying28) (he := byteElem)); exact wanted_plain; exact rfl; exact rfl; (focus (simp [bs_length, headOf_length Hnm.out, two_length, Hul.out])); (focus exact H3.out); exact rfl; (focus (simp [bs_length, headOf_length Hnm.out, two_length, Hul.out])); (focus (intro _ _ hw; exact Sl.whole hw ⟨1, rfl⟩)); exact bs_oneCell _; (focus omega); (focus (unfold maxLen; omega)); (intro b4 c4 t4 hc4); have H4 := Lib.hid hc4; clear hc4; (simp only [Act.put, List.setIfInBounds_toArray, List.set_cons_succ, List.set_cons_zero, List.cons_append, List.nil_append, ← bs_append]))
      ((with_reducible apply wpLine_callp (f := 36) (hc := Try.call36)); exact wanted_plain; (focus (simp only [Act.eval, Array.getD_eq_getD_getElem?, List.getElem?_toArray, List.getElem?_cons_succ, List.getElem?_cons_zero, Option.getD_some, List.map_toArray, List.map_cons, List.map_nil] <;> exact rfl)); (focus (intro _ _ hw; exact refSum (headOf nm q ++ two i ++ [b8 ((j : Int) + (m : Int))] ++ u) _ _ _ (by simp [headOf_length Hnm.out, two_length, Hul.out]) _ (Sl.pre hw ⟨3, rfl⟩) (by omega))); (simp only [Act.put, List.setIfInBounds_toArray, List.set_cons_succ, List.set_cons_zero, List.cons_append, List.nil_append, ← bs_append]))
      ((with_reducible apply wpLine_store 0 (T := 24)); exact wanted_plain; exact rfl; exact rfl; exact rfl; exact info_idl (hash_length _); (focus (simp only [bs_length, zeros_length, Hul.out, hash_length])); exact bs_oneCell _; (simp only [Act.put, List.setIfInBounds_toArray, List.set_cons_succ, List.set_cons_zero, List.cons_append, List.nil_append, ← bs_append]))
      ((refine wpLine_nil ?_); intro wl hF)
      have hF3 : Fr w wl [⟨bn, bs nm, 22⟩, ⟨bt, bs (chain nm q i j t (m + 1)), 24⟩, ⟨bo, bs zeros, 24⟩] := by
        have e : chain nm q i j t (m + 1) = hash (headOf nm q ++ two i ++ [b8 ((j : Int) + (m : Int))] ++ u) := by rw [Hu.out]; rfl
        rw [e]
        exact hF.sub (List.sublist_append_left [_, _, _] _)
      clear hF
      go_wp2_with (first | fail)
      go_roundw
      case rel => exact ⟨m + 1, by omega, by go_num, hF3⟩
      case measure => simp [intOf]; omega
    · obtain rfl : m = n := by omega
      have d1 : ¬ (j : Int) + (m : Int) < to := by have := Hto.out; omega
      go_wp2_with (first | ((with_reducible apply wpl_load hF (T := 24) (hu := Try.underlying24)); exact rfl; (first | exact ⟨0, rfl⟩ | exact ⟨1, rfl⟩ | exact ⟨2, rfl⟩ | exact ⟨3, rfl⟩ | exact ⟨4, rfl⟩ | exact ⟨5, rfl⟩ | exact ⟨6, rfl⟩ | exact ⟨7, rfl⟩ | exact ⟨8, rfl⟩ | exact ⟨9, rfl⟩ | exact ⟨10, rfl⟩ | exact ⟨11, rfl⟩); exact info_idl Hul.out) | ((with_reducible apply wpl_store hF 2 (T := 24)); exact rfl; exact rfl; exact rfl; exact info_idl Hul.out; (focus (first | (with_reducible rfl) | (rw [bs_length, bs_length, Hul.out]; rfl))); exact bs_oneCell _; clear hF; intro _ hF))
      exact post_row hF rfl rfl rfl ⟨2, rfl⟩ Try.underlying24 (info_idl Hul.out) ⟨by rw [Hu.out], hF.below⟩
end Go.Proofs.Ytbnjgldilckhpaa
