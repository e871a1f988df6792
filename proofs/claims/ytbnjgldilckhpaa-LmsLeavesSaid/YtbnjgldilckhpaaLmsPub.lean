/-
  THE WALKS of lms.Public and latticeref6.Public.
-/
import Derived.Test.YtbnjgldilckhpaaTreeR
namespace Go.Proofs.Ytbnjgldilckhpaa
set_option linter.unusedSimpArgs false
set_option linter.unusedVariables false
open Go.RowKit
attribute [local irreducible] wpQuiet Calls wpLine wpSeq
set_option maxRecDepth 4000

set_option maxHeartbeats 2000000 in
theorem four6nil (q : Int) (h0 : -9223372036854775808 ≤ q) (h1 : q ≤ 9223372036854775807) (w : World) :
    Calls Try.prog 44 #[.slice none 0 0, .int .i64 q] w fun e w' => ∃ b cap tail, e = .returned (.slice (some ⟨b, 0, none⟩) 4 cap) ∧ cap = 4 + List.length tail ∧ Made w w' ⟨b, bs (four q) ++ tail, 5⟩ := by
  have hF := Fr.start w
  have Hq := Lib.hid (And.intro h0 h1)
  clear h0 h1
  go_enter Try.func44, Try.ntmps44
  go_wp2_with (first | ((with_reducible apply wpl_push_nil hF (bs (four q)) (ht := Try.underlying28) (he := byteElem)); (focus (intro _; exact rfl)); (focus (intro _; exact rfl)); (focus (first | exact rfl | kernel_rfl)); exact rfl; (focus omega); (focus omega); exact bs_oneCell _; (focus omega); clear hF; intro bt ct tt _ _ hct hF; have Hct := Lib.hid hct; clear hct))
  go_ret
  exact ⟨bt, ct, tt, rfl, Hct.out, hF.made (by simp)⟩

def PubPost (nm seed : List UInt8) (h : Nat) (w : World) (e : Ending) (w' : World) : Prop := ∃ (b cap : Nat) (tail : List Value), e = .returned (.tuple #[.slice (some ⟨b, 0, none⟩) 56 cap, .int .i64 0]) ∧ cap = 56 + tail.length ∧ Made w w' ⟨b, bs (lpub nm seed h) ++ tail, 5⟩

set_option maxHeartbeats 4000000 in
theorem pubBadL (nm : List UInt8) (hnm : nm.length = 16) (seed : List UInt8) (hs : seed.length = 32) (h : Int) (hh : h < 1 ∨ 5 < h) (w : World) :
    Calls Try.prog 20 #[agg nm, agg seed, .int .i64 h] w fun e w' => e = .returned (.tuple #[.slice none 0 0, .int .i64 1]) ∧ Below w.heap.size w w' := by
  have hF := Fr.start w
  by_cases d1 : h < 1
  · go_enter Try.func20, Try.ntmps20
    go_wp2_with (first | ((with_reducible apply wpl_box (x := Operand.tmp 0) hF); exact rfl; clear hF; intro bn _ hF) | ((with_reducible apply wpl_box (x := Operand.tmp 1) hF); exact rfl; clear hF; intro bd _ hF) | go_skip | ((with_reducible refine wpl_unguard ?_ ?_); (focus (go_simp; done))))
    go_ret2
    exact ⟨rfl, hF.below⟩
  · have d2 : h > 5 := by omega
    go_enter Try.func20, Try.ntmps20
    go_wp2_with (first | ((with_reducible apply wpl_box (x := Operand.tmp 0) hF); exact rfl; clear hF; intro bn _ hF) | ((with_reducible apply wpl_box (x := Operand.tmp 1) hF); exact rfl; clear hF; intro bd _ hF) | go_skip | ((with_reducible refine wpl_unguard ?_ ?_); (focus (go_simp; done))))
    go_ret2
    exact ⟨rfl, hF.below⟩
set_option maxHeartbeats 4000000 in
theorem pubBadR (nm : List UInt8) (hnm : nm.length = 16) (seed : List UInt8) (hs : seed.length = 32) (h : Int) (hh : h < 1 ∨ 5 < h) (w : World) :
    Calls Try.prog 21 #[agg nm, agg seed, .int .i64 h] w fun e w' => e = .returned (.tuple #[.slice none 0 0, .int .i64 1]) ∧ Below w.heap.size w w' := by
  have hF := Fr.start w
  by_cases d1 : h < 1
  · go_enter Try.func21, Try.ntmps21
    go_wp2_with (first | ((with_reducible apply wpl_box (x := Operand.tmp 0) hF); exact rfl; clear hF; intro bn _ hF) | ((with_reducible apply wpl_box (x := Operand.tmp 1) hF); exact rfl; clear hF; intro bd _ hF) | go_skip | ((with_reducible refine wpl_unguard ?_ ?_); (focus (go_simp; done))))
    go_ret2
    exact ⟨rfl, hF.below⟩
  · have d2 : h > 5 := by omega
    go_enter Try.func21, Try.ntmps21
    go_wp2_with (first | ((with_reducible apply wpl_box (x := Operand.tmp 0) hF); exact rfl; clear hF; intro bn _ hF) | ((with_reducible apply wpl_box (x := Operand.tmp 1) hF); exact rfl; clear hF; intro bd _ hF) | go_skip | ((with_reducible refine wpl_unguard ?_ ?_); (focus (go_simp; done))))
    go_ret2
    exact ⟨rfl, hF.below⟩

set_option maxHeartbeats 4000000 in
theorem pubL (nm : List UInt8) (hnm : nm.length = 16) (seed : List UInt8) (hs : seed.length = 32) (h : Nat) (h1 : 1 ≤ h) (h5 : h ≤ 5) (w : World) :
    Calls Try.prog 20 #[agg nm, agg seed, .int .i64 (h : Int)] w (PubPost nm seed h w) := by
  have hF := Fr.start w
  have Hnm := Lib.hid hnm
  have Hs := Lib.hid hs
  have d1 : ¬ (h : Int) < 1 := by omega
  have d2 : ¬ (h : Int) > 5 := by omega
  have hn2 : 2 ≤ 2 ^ h := (Nat.pow_le_pow_right (n := 2) (by decide) h1 : 2 ^ 1 ≤ 2 ^ h)
  obtain ⟨n, hn⟩ : ∃ n, n = 2 ^ h := ⟨_, rfl⟩
  rw [← hn] at hn2
  have hn32 : n ≤ 32 := by rw [hn]; exact (Nat.pow_le_pow_right (n := 2) (by decide) h5 : 2 ^ h ≤ 2 ^ 5)
  have Hn := Lib.hid hn
  obtain ⟨y, hy⟩ : ∃ y, tn nm seed n 1 = y := ⟨_, rfl⟩
  have Hy := Lib.hid hy
  have Hyl := Lib.hid (show y.length = 32 by rw [← hy]; exact tn_length _ _ _ _)
  have Hz := Lib.hid (show lpub nm seed h = four (h : Int) ++ four 2 ++ nm ++ y by rw [lpub, ← hn, hy])
  clear hn hy hnm hs
  go_enter Try.func20, Try.ntmps20
  go_wp2_with (first | ((with_reducible apply wpl_box (x := Operand.tmp 0) hF); exact rfl; clear hF; intro bn _ hF) | ((with_reducible apply wpl_box (x := Operand.tmp 1) hF); exact rfl; clear hF; intro bd _ hF) | go_skip | ((with_reducible refine wpl_unguard ?_ ?_); (focus (go_simp; done))) | ((with_reducible apply wpl_load hF (T := 22) (hu := Try.underlying22)); exact rfl; (first | exact ⟨0, rfl⟩ | exact ⟨1, rfl⟩ | exact ⟨2, rfl⟩ | exact ⟨3, rfl⟩ | exact ⟨4, rfl⟩ | exact ⟨5, rfl⟩ | exact ⟨6, rfl⟩ | exact ⟨7, rfl⟩ | exact ⟨8, rfl⟩ | exact ⟨9, rfl⟩ | exact ⟨10, rfl⟩ | exact ⟨11, rfl⟩); exact info_nm Hnm.out) | ((with_reducible apply wpl_load hF (T := 24) (hu := Try.underlying24)); exact rfl; (first | exact ⟨0, rfl⟩ | exact ⟨1, rfl⟩ | exact ⟨2, rfl⟩ | exact ⟨3, rfl⟩ | exact ⟨4, rfl⟩ | exact ⟨5, rfl⟩ | exact ⟨6, rfl⟩ | exact ⟨7, rfl⟩ | exact ⟨8, rfl⟩ | exact ⟨9, rfl⟩ | exact ⟨10, rfl⟩ | exact ⟨11, rfl⟩); exact info_idl Hs.out) | (go_at_call 41; refine (treeL nm Hnm.out seed Hs.out h n Hn.out h1 h5 _).mono ?_; rintro _ _ ⟨bt, xs, rfl, hxl, hxs, hxt, hm⟩; replace hF := hF.took hm; clear hm; have Hxl := Lib.hid hxl; have Hxs := Lib.hid hxs; have Hx1 := Lib.hid (show xs.getD 1 [] = y by rw [hxt 1 (by omega) (by omega)]; exact Hy.out); clear hxl hxs hxt) | ((with_reducible apply wpl_idx32 (hu := Try.underlying68) (he := info_id_)); exact rfl; exact rfl; (focus omega); (focus omega)) | ((with_reducible apply wpl_loadAt y Hyl.out (T := 24) (o := 1 * 32) (hu := Try.underlying24) (hs := info_id_)); exact rfl; (focus (rw [← Hx1.out]; exact hF.range (k := 2) rfl Hxs.out (by rw [Hxl.out]; omega)))) | ((with_reducible refine wpl_alloc (dst := some 8) hF (bs zeros) (T := 24) (hz := Try.zeroValue24) ?_ ?_); exact rfl; clear hF; intro bo _ hF) | ((with_reducible apply wpl_store hF 3 (T := 24)); exact rfl; exact rfl; exact rfl; exact info_idl Hyl.out; (focus (simp only [bs_length, zeros_length, Hyl.out, Hyl.out])); exact bs_oneCell _; clear hF; intro _ hF) | (go_at_call 42; first | (refine (fourL (h : Int) (by omega) (by omega) _).mono ?_; rintro _ _ ⟨b1, c1, t1, rfl, hc1, hm⟩; replace hF := hF.took hm; clear hm; have H1 := Lib.hid hc1; clear hc1) | (refine (fourL 2 (by omega) (by omega) _).mono ?_; rintro _ _ ⟨b2, c2, t2, rfl, hc2, hm⟩; replace hF := hF.took hm; clear hm; have H2 := Lib.hid hc2; clear hc2)) | ((with_reducible apply wpl_append (dst := some 25) hF 4 (bs (four (h : Int))) (t1) (bs (four 2)) (ht := Try.underlying28) (he := byteElem)); exact rfl; (focus exact rfl); (focus (rw [bs_length, four_length])); (focus (exact H1.out)); exact rfl; (focus (rw [bs_length, four_length])); (focus (exact Sl.pre hF ⟨5, rfl⟩)); exact bs_oneCell _; (focus omega); (focus (unfold maxLen; omega)); clear hF; intro b3 c3 t3 w3 hc3 hF; have H3 := Lib.hid hc3; clear hc3) | ((with_reducible apply wpl_sliceA (T := 22) (hu := Try.underlying22) (he := info_u8_)); exact rfl) | ((with_reducible apply wpl_append (dst := some 28) hF 4 (bs (four (h : Int)) ++ bs (four 2)) (t3) (bs nm) (ht := Try.underlying28) (he := byteElem)); exact rfl; (focus exact rfl); (focus (rw [List.length_append, bs_length, bs_length, four_length, four_length])); (focus (exact H3.out)); exact rfl; (focus (rw [bs_length]; exact Hnm.out)); (focus (exact Sl.whole hF ⟨0, rfl⟩)); exact bs_oneCell _; (focus omega); (focus (unfold maxLen; omega)); clear hF; intro b4 c4 t4 w4 hc4 hF; have H4 := Lib.hid hc4; clear hc4) | ((with_reducible apply wpl_sliceA (T := 24) (hu := Try.underlying24) (he := info_u8_)); exact rfl) | ((with_reducible apply wpl_append (dst := some 31) hF 4 (bs (four (h : Int)) ++ bs (four 2) ++ bs nm) (t4) (bs y) (ht := Try.underlying28) (he := byteElem)); exact rfl; (focus exact rfl); (focus (rw [List.length_append, List.length_append, bs_length, bs_length, bs_length, four_length, four_length, Hnm.out])); (focus (exact H4.out)); exact rfl; (focus (rw [bs_length]; exact Hyl.out)); (focus (exact Sl.whole hF ⟨3, rfl⟩)); exact bs_oneCell _; (focus omega); (focus (unfold maxLen; omega)); clear hF; intro b5 c5 t5 w5 hc5 hF; have H5 := Lib.hid hc5; clear hc5))
  go_ret2
  refine ⟨b5, c5, t5, rfl, H5.out, hF.made ?_⟩
  rw [Hz.out]
  simp only [bs_append]
  simp

set_option maxHeartbeats 4000000 in
theorem pubR (nm : List UInt8) (hnm : nm.length = 16) (seed : List UInt8) (hs : seed.length = 32) (h : Nat) (h1 : 1 ≤ h) (h5 : h ≤ 5) (w : World) :
    Calls Try.prog 21 #[agg nm, agg seed, .int .i64 (h : Int)] w (PubPost nm seed h w) := by
  have hF := Fr.start w
  have Hnm := Lib.hid hnm
  have Hs := Lib.hid hs
  have d1 : ¬ (h : Int) < 1 := by omega
  have d2 : ¬ (h : Int) > 5 := by omega
  have hn2 : 2 ≤ 2 ^ h := (Nat.pow_le_pow_right (n := 2) (by decide) h1 : 2 ^ 1 ≤ 2 ^ h)
  obtain ⟨n, hn⟩ : ∃ n, n = 2 ^ h := ⟨_, rfl⟩
  rw [← hn] at hn2
  have hn32 : n ≤ 32 := by rw [hn]; exact (Nat.pow_le_pow_right (n := 2) (by decide) h5 : 2 ^ h ≤ 2 ^ 5)
  have Hn := Lib.hid hn
  obtain ⟨y, hy⟩ : ∃ y, tn nm seed n 1 = y := ⟨_, rfl⟩
  have Hy := Lib.hid hy
  have Hyl := Lib.hid (show y.length = 32 by rw [← hy]; exact tn_length _ _ _ _)
  have Hz := Lib.hid (show lpub nm seed h = four (h : Int) ++ four 2 ++ nm ++ y by rw [lpub, ← hn, hy])
  clear hn hy hnm hs
  go_enter Try.func21, Try.ntmps21
  go_wp2_with (first | ((with_reducible apply wpl_box (x := Operand.tmp 0) hF); exact rfl; clear hF; intro bn _ hF) | ((with_reducible apply wpl_box (x := Operand.tmp 1) hF); exact rfl; clear hF; intro bd _ hF) | go_skip | ((with_reducible refine wpl_unguard ?_ ?_); (focus (go_simp; done))) | ((with_reducible apply wpl_load hF (T := 22) (hu := Try.underlying22)); exact rfl; (first | exact ⟨0, rfl⟩ | exact ⟨1, rfl⟩ | exact ⟨2, rfl⟩ | exact ⟨3, rfl⟩ | exact ⟨4, rfl⟩ | exact ⟨5, rfl⟩ | exact ⟨6, rfl⟩ | exact ⟨7, rfl⟩ | exact ⟨8, rfl⟩ | exact ⟨9, rfl⟩ | exact ⟨10, rfl⟩ | exact ⟨11, rfl⟩); exact info_nm Hnm.out) | ((with_reducible apply wpl_load hF (T := 24) (hu := Try.underlying24)); exact rfl; (first | exact ⟨0, rfl⟩ | exact ⟨1, rfl⟩ | exact ⟨2, rfl⟩ | exact ⟨3, rfl⟩ | exact ⟨4, rfl⟩ | exact ⟨5, rfl⟩ | exact ⟨6, rfl⟩ | exact ⟨7, rfl⟩ | exact ⟨8, rfl⟩ | exact ⟨9, rfl⟩ | exact ⟨10, rfl⟩ | exact ⟨11, rfl⟩); exact info_idl Hs.out) | (go_at_call 43; refine (treeR nm Hnm.out seed Hs.out h n Hn.out h1 h5 _).mono ?_; rintro _ _ ⟨bt, xs, rfl, hxl, hxs, hxt, hm⟩; replace hF := hF.took hm; clear hm; have Hxl := Lib.hid hxl; have Hxs := Lib.hid hxs; have Hx1 := Lib.hid (show xs.getD 1 [] = y by rw [hxt 1 (by omega) (by omega)]; exact Hy.out); clear hxl hxs hxt))
  have Hwy := Lib.hid (show ∀ w' (R : List Blk), Fr w w' ([⟨bn, bs nm, 22⟩, ⟨bd, bs seed, 24⟩, ⟨bt, bs xs.flatten, 24⟩] ++ R) → Sl w' (some ⟨bt, 1 * 32, none⟩) (bs y) from fun w' R hF' => by rw [← Hx1.out]; exact hF'.slRow (k := 2) rfl Hxs.out (by rw [Hxl.out]; omega))
  ((refine wp_region_line ([⟨bn, bs nm, 22⟩, ⟨bd, bs seed, 24⟩, ⟨bt, bs xs.flatten, 24⟩]) ([]) [0, 3, 5, 6, 7] ([ln 1, ln 2, ln 4, ln 8, tk 9, tk 10]) (by kernel_rfl) (by kernel_rfl) hF ?_); clear hF; (simp only [planOf, List.filterMap_cons, List.filterMap_nil, List.getElem?_toArray, List.getElem?_cons_succ, List.getElem?_cons_zero, Option.map_some]))
  repeat (first | ((with_reducible apply wq_move); (focus (simp only [Act.eval, Array.getD_eq_getD_getElem?, List.getElem?_toArray, List.getElem?_cons_succ, List.getElem?_cons_zero, Option.getD_some, List.map_toArray, List.map_cons, List.map_nil] <;> exact rfl)); simp only [Act.put, List.setIfInBounds_toArray, List.set_cons_succ, List.set_cons_zero]) | ((with_reducible apply wq_sliceA (T := 22) (hu := Try.underlying22) (he := info_u8_)); exact rfl; simp only [Act.put, List.setIfInBounds_toArray, List.set_cons_succ, List.set_cons_zero]) | ((with_reducible apply wq_idx32 (hu := Try.underlying68) (he := info_id_)); exact rfl; exact rfl; (focus omega); (focus omega); simp only [Act.put, List.setIfInBounds_toArray, List.set_cons_succ, List.set_cons_zero]) | ((with_reducible apply wq_sliceAny (T := 24) (hu := Try.underlying24) (he := info_u8_)); exact rfl; simp only [Act.put, List.setIfInBounds_toArray, List.set_cons_succ, List.set_cons_zero]))
  refine wpQuiet_nil ?_
  (refine And.intro ?_ ?_; (focus (repeat (first | (with_reducible exact FOK.nil) | (with_reducible refine FOK.ln ?_) | (with_reducible refine FOK.tk ?_) | (with_reducible refine FOK.fl ?_ ?_; (focus fail))))))
  ((with_reducible apply wpLine_made (f := 44) (hc := Try.call44)); exact wanted_plain; (focus (simp only [Act.eval, Array.getD_eq_getD_getElem?, List.getElem?_toArray, List.getElem?_cons_succ, List.getElem?_cons_zero, Option.getD_some, List.map_toArray, List.map_cons, List.map_nil] <;> exact rfl)); intro _ _ hw; refine (four6nil (h : Int) (by omega) (by omega) _).mono ?_; clear hw; rintro _ _ ⟨b1, c1, t1, rfl, hc1, hm⟩; refine ⟨_, _, rfl, hm, ?_⟩; clear hm; have H1 := Lib.hid hc1; clear hc1; (simp only [Act.put, List.setIfInBounds_toArray, List.set_cons_succ, List.set_cons_zero, List.cons_append, List.nil_append, ← bs_append]))
  ((with_reducible apply wpLine_grown 0 (f := 44) (hc := Try.call44)); exact wanted_plain; (focus (simp only [Act.eval, Array.getD_eq_getD_getElem?, List.getElem?_toArray, List.getElem?_cons_succ, List.getElem?_cons_zero, Option.getD_some, List.map_toArray, List.map_cons, List.map_nil] <;> exact rfl)); rotate_left; exact rfl; intro _ _ hw hkk; refine (four6 2 (by omega) (by omega) hw _ hkk (by rw [bs_length, four_length]) H1.out (by omega)).mono ?_; clear hw hkk; rintro _ _ ⟨b2, c2, t2, rfl, hc2, hF2⟩; refine ⟨_, _, rfl, hF2, ?_⟩; clear hF2; have H2 := Lib.hid hc2; clear hc2; (simp only [Act.put, List.setIfInBounds_toArray, List.set_cons_succ, List.set_cons_zero, List.cons_append, List.nil_append, ← bs_append]))
  ((with_reducible apply wpLine_append 0 (bs (four (h : Int) ++ four 2)) (t2) (bs nm) (ht := Try.underlying28) (he := byteElem)); exact wanted_plain; exact rfl; exact rfl; (focus (simp [bs_length, four_length, Hnm.out])); (focus exact H2.out); exact rfl; (focus (simp [bs_length, four_length, Hnm.out])); (focus (intro _ _ hw; exact Sl.whole hw ⟨0, rfl⟩)); exact bs_oneCell _; (focus omega); (focus (unfold maxLen; omega)); (intro b3 c3 t3 hc3); have H3 := Lib.hid hc3; clear hc3; (simp only [Act.put, List.setIfInBounds_toArray, List.set_cons_succ, List.set_cons_zero, List.cons_append, List.nil_append, ← bs_append]))
  ((with_reducible apply wpLine_append 0 (bs (four (h : Int) ++ four 2 ++ nm)) (t3) (bs y) (ht := Try.underlying28) (he := byteElem)); exact wanted_plain; exact rfl; exact rfl; (focus (simp [bs_length, four_length, Hnm.out, Hyl.out])); (focus exact H3.out); exact rfl; (focus (simp [bs_length, four_length, Hnm.out, Hyl.out])); (focus (intro _ _ hw; exact Hwy.out _ _ hw)); exact bs_oneCell _; (focus omega); (focus (unfold maxLen; omega)); (intro b4 c4 t4 hc4); have H4 := Lib.hid hc4; clear hc4; (simp only [Act.put, List.setIfInBounds_toArray, List.set_cons_succ, List.set_cons_zero, List.cons_append, List.nil_append, ← bs_append]))
  ((refine wpLine_take rfl ?_); (first | ((with_reducible apply wq_move); (focus (simp only [Act.eval, Array.getD_eq_getD_getElem?, List.getElem?_toArray, List.getElem?_cons_succ, List.getElem?_cons_zero, Option.getD_some, List.map_toArray, List.map_cons, List.map_nil] <;> exact rfl)); simp only [Act.put, List.setIfInBounds_toArray, List.set_cons_succ, List.set_cons_zero]) | ((with_reducible apply wq_assign); (focus (simp only [Act.eval, Array.getD_eq_getD_getElem?, List.getElem?_toArray, List.getElem?_cons_succ, List.getElem?_cons_zero, Option.getD_some, List.map_toArray, List.map_cons, List.map_nil] <;> exact rfl)); simp only [Act.put, List.setIfInBounds_toArray, List.set_cons_succ, List.set_cons_zero]) | fail); (refine wpQuiet_nil ?_))
  ((refine wpLine_take rfl ?_); (first | ((with_reducible apply wq_move); (focus (simp only [Act.eval, Array.getD_eq_getD_getElem?, List.getElem?_toArray, List.getElem?_cons_succ, List.getElem?_cons_zero, Option.getD_some, List.map_toArray, List.map_cons, List.map_nil] <;> exact rfl)); simp only [Act.put, List.setIfInBounds_toArray, List.set_cons_succ, List.set_cons_zero]) | ((with_reducible apply wq_assign); (focus (simp only [Act.eval, Array.getD_eq_getD_getElem?, List.getElem?_toArray, List.getElem?_cons_succ, List.getElem?_cons_zero, Option.getD_some, List.map_toArray, List.map_cons, List.map_nil] <;> exact rfl)); simp only [Act.put, List.setIfInBounds_toArray, List.set_cons_succ, List.set_cons_zero]) | fail); (refine wpQuiet_nil ?_))
  ((refine wpLine_nil ?_); intro wl hF)
  go_wp2_with (first | fail)
  go_ret2
  refine ⟨b4, c4, t4, rfl, H4.out, hF.made ?_⟩
  rw [Hz.out]
  simp
end Go.Proofs.Ytbnjgldilckhpaa
