/-
  THE WALKS of lms.Sign and latticeref6.Sign.
-/
import Derived.Test.YtbnjgldilckhpaaLmsPub
namespace Go.Proofs.Ytbnjgldilckhpaa
set_option linter.unusedSimpArgs false
set_option linter.unusedVariables false
open Go.RowKit
attribute [local irreducible] wpQuiet Calls wpLine wpSeq
set_option maxRecDepth 4000

def SignPost6 (nm seed : List UInt8) (h q : Nat) (msg : List UInt8) (w : World) (e : Ending) (w' : World) : Prop := ∃ (b cap : Nat) (tail : List Value), e = .returned (.tuple #[.slice (some ⟨b, 0, none⟩) (4300 + 32 * h) cap, .int .i64 0]) ∧ cap = 4300 + 32 * h + tail.length ∧ Made w w' ⟨b, bs (lsig nm seed h q msg) ++ tail, 5⟩
theorem pow_int (h : Nat) : (1 : Int) * 2 ^ ((h : Int)).toNat = ((2 ^ h : Nat) : Int) := by rw [Int.toNat_natCast, Int.one_mul]; exact (Int.natCast_pow 2 h).symm

set_option maxHeartbeats 4000000 in
theorem signBadL (nm : List UInt8) (hnm : nm.length = 16) (seed : List UInt8) (hs : seed.length = 32) (h n : Nat) (hn : n = 2 ^ h) (h1 : 1 ≤ h) (h5 : h ≤ 5) (q : Int) (hq : q < 0 ∨ (n : Int) ≤ q) (p : Option Addr) (lm cm : Nat) (w : World) :
    Calls Try.prog 28 #[agg nm, agg seed, .int .i64 (h : Int), .int .i64 q, .slice p lm cm] w fun e w' => e = .returned (.tuple #[.slice none 0 0, .int .i64 13]) ∧ Below w.heap.size w w' := by
  have hF := Fr.start w
  have d1 : ¬ (h : Int) < 1 := by omega
  have d2 : ¬ (h : Int) > 5 := by omega
  have hn32 : n ≤ 32 := by rw [hn]; exact (Nat.pow_le_pow_right (n := 2) (by decide) h5 : 2 ^ h ≤ 2 ^ 5)
  have Hp := Lib.hid (show (1 : Int) * 2 ^ ((h : Int)).toNat = (n : Int) by rw [pow_int, hn])
  clear hn
  by_cases d3 : q < 0
  · go_enter Try.func28, Try.ntmps28
    go_wp2_with (first | ((with_reducible apply wpl_box (x := Operand.tmp 0) hF); exact rfl; clear hF; intro bn _ hF) | ((with_reducible apply wpl_box (x := Operand.tmp 1) hF); exact rfl; clear hF; intro bd _ hF) | go_skip | ((with_reducible refine wpl_unguard ?_ ?_); (focus (go_simp; done))))
    go_ret2
    exact ⟨rfl, hF.below⟩
  · have d4 : q ≥ (n : Int) := by omega
    go_enter Try.func28, Try.ntmps28
    go_wp2_with (first | ((with_reducible apply wpl_box (x := Operand.tmp 0) hF); exact rfl; clear hF; intro bn _ hF) | ((with_reducible apply wpl_box (x := Operand.tmp 1) hF); exact rfl; clear hF; intro bd _ hF) | go_skip | ((with_reducible refine wpl_unguard ?_ ?_); (focus (go_simp; done))) | ((with_reducible apply wpl_shlI); exact rfl; exact rfl; (focus omega); (focus omega); (focus (rw [Hp.out]; omega)); (focus (rw [Hp.out]; omega)); rw [Hp.out]))
    go_ret2
    exact ⟨rfl, hF.below⟩
set_option maxHeartbeats 4000000 in
theorem signBadR (nm : List UInt8) (hnm : nm.length = 16) (seed : List UInt8) (hs : seed.length = 32) (h n : Nat) (hn : n = 2 ^ h) (h1 : 1 ≤ h) (h5 : h ≤ 5) (q : Int) (hq : q < 0 ∨ (n : Int) ≤ q) (p : Option Addr) (lm cm : Nat) (w : World) :
    Calls Try.prog 24 #[agg nm, agg seed, .int .i64 (h : Int), .int .i64 q, .slice p lm cm] w fun e w' => e = .returned (.tuple #[.slice none 0 0, .int .i64 13]) ∧ Below w.heap.size w w' := by
  have hF := Fr.start w
  have d1 : ¬ (h : Int) < 1 := by omega
  have d2 : ¬ (h : Int) > 5 := by omega
  have hn32 : n ≤ 32 := by rw [hn]; exact (Nat.pow_le_pow_right (n := 2) (by decide) h5 : 2 ^ h ≤ 2 ^ 5)
  have Hp := Lib.hid (show (1 : Int) * 2 ^ ((h : Int)).toNat = (n : Int) by rw [pow_int, hn])
  clear hn
  by_cases d3 : q < 0
  · go_enter Try.func24, Try.ntmps24
    go_wp2_with (first | ((with_reducible apply wpl_box (x := Operand.tmp 0) hF); exact rfl; clear hF; intro bn _ hF) | ((with_reducible apply wpl_box (x := Operand.tmp 1) hF); exact rfl; clear hF; intro bd _ hF) | go_skip | ((with_reducible refine wpl_unguard ?_ ?_); (focus (go_simp; done))))
    go_ret2
    exact ⟨rfl, hF.below⟩
  · have d4 : q ≥ (n : Int) := by omega
    go_enter Try.func24, Try.ntmps24
    go_wp2_with (first | ((with_reducible apply wpl_box (x := Operand.tmp 0) hF); exact rfl; clear hF; intro bn _ hF) | ((with_reducible apply wpl_box (x := Operand.tmp 1) hF); exact rfl; clear hF; intro bd _ hF) | go_skip | ((with_reducible refine wpl_unguard ?_ ?_); (focus (go_simp; done))) | ((with_reducible apply wpl_shlI); exact rfl; exact rfl; (focus omega); (focus omega); (focus (rw [Hp.out]; omega)); (focus (rw [Hp.out]; omega)); rw [Hp.out]))
    go_ret2
    exact ⟨rfl, hF.below⟩

set_option maxHeartbeats 8000000 in
theorem signL6 (nm : List UInt8) (hnm : nm.length = 16) (seed : List UInt8) (hs : seed.length = 32) (h n : Nat) (hn : n = 2 ^ h) (h1 : 1 ≤ h) (h5 : h ≤ 5) (q : Nat) (hq : q < n) (msg : List UInt8) (p : Option Addr) (lm cm : Nat) (hm : msg.length = lm) (hlim : lm ≤ 1000000) {w : World} (hsm : Sl w p (bs msg)) :
    Calls Try.prog 28 #[agg nm, agg seed, .int .i64 (h : Int), .int .i64 (q : Int), .slice p lm cm] w (SignPost6 nm seed h q msg w) := by
  have hF := Fr.start w
  have Hnm := Lib.hid hnm
  have Hs := Lib.hid hs
  have Hm := Lib.hid hm
  have Hsm := Lib.hid hsm
  have d1 : ¬ (h : Int) < 1 := by omega
  have d2 : ¬ (h : Int) > 5 := by omega
  have d3 : ¬ (q : Int) < 0 := by omega
  have d4 : ¬ (q : Int) ≥ (n : Int) := by omega
  have hn32 : n ≤ 32 := by rw [hn]; exact (Nat.pow_le_pow_right (n := 2) (by decide) h5 : 2 ^ h ≤ 2 ^ 5)
  have hn2 : 2 ≤ n := by rw [hn]; exact (Nat.pow_le_pow_right (n := 2) (by decide) h1 : 2 ^ 1 ≤ 2 ^ h)
  have Hp := Lib.hid (show (1 : Int) * 2 ^ ((h : Int)).toNat = (n : Int) by rw [pow_int, hn])
  obtain ⟨sg, hsg⟩ : ∃ s, sigOf nm (q : Int) seed msg = s := ⟨_, rfl⟩
  have Hsg := Lib.hid hsg
  have Hsl := Lib.hid (show sg.length = 4292 by rw [← hsg]; exact sigOf_length _ _ _ _)
  have Hll := Lib.hid (lsig_length (nm := nm) (seed := seed) (msg := msg) (show q < 2 ^ h by rw [← hn]; exact hq))
  obtain ⟨z, hz⟩ : ∃ z, lsig nm seed h q msg = z := ⟨_, rfl⟩
  have Hz := Lib.hid hz
  have Hz2 := Lib.hid (show four (q : Int) ++ sg ++ four (h : Int) ++ path nm seed n (n + q) = z by rw [← hz, lsig, hsg, hn])
  have Hzl := Lib.hid (show z.length = 4300 + 32 * h by rw [← hz]; exact Hll.out)
  have Hnh := Lib.hid hn
  clear hsg hz hnm hs hm hsm hn
  go_enter Try.func28, Try.ntmps28
  go_wp2_with (first | ((with_reducible apply wpl_box (x := Operand.tmp 0) hF); exact rfl; clear hF; intro bn _ hF) | ((with_reducible apply wpl_box (x := Operand.tmp 1) hF); exact rfl; clear hF; intro bd _ hF) | go_skip | ((with_reducible refine wpl_unguard ?_ ?_); (focus (go_simp; done))) | ((with_reducible apply wpl_shlI); exact rfl; exact rfl; (focus omega); (focus omega); (focus (rw [Hp.out]; omega)); (focus (rw [Hp.out]; omega)); rw [Hp.out]) | ((with_reducible apply wpl_load hF (T := 22) (hu := Try.underlying22)); exact rfl; (first | exact ⟨0, rfl⟩ | exact ⟨1, rfl⟩ | exact ⟨2, rfl⟩ | exact ⟨3, rfl⟩ | exact ⟨4, rfl⟩ | exact ⟨5, rfl⟩ | exact ⟨6, rfl⟩ | exact ⟨7, rfl⟩ | exact ⟨8, rfl⟩ | exact ⟨9, rfl⟩ | exact ⟨10, rfl⟩ | exact ⟨11, rfl⟩); exact info_nm Hnm.out) | ((with_reducible apply wpl_load hF (T := 24) (hu := Try.underlying24)); exact rfl; (first | exact ⟨0, rfl⟩ | exact ⟨1, rfl⟩ | exact ⟨2, rfl⟩ | exact ⟨3, rfl⟩ | exact ⟨4, rfl⟩ | exact ⟨5, rfl⟩ | exact ⟨6, rfl⟩ | exact ⟨7, rfl⟩ | exact ⟨8, rfl⟩ | exact ⟨9, rfl⟩ | exact ⟨10, rfl⟩ | exact ⟨11, rfl⟩); exact info_idl Hs.out) | (go_at_call 41; refine (treeL nm Hnm.out seed Hs.out h n Hnh.out h1 h5 _).mono ?_; rintro _ _ ⟨bt, xs, rfl, hxl, hxs, hxt, hm⟩; replace hF := hF.took hm; clear hm; have Hxl := Lib.hid hxl; have Hxs := Lib.hid hxs; have Hxt := Lib.hid hxt; clear hxl hxs hxt))
  ((refine wp_region_line ([⟨bn, bs nm, 22⟩, ⟨bd, bs seed, 24⟩, ⟨bt, bs xs.flatten, 24⟩]) ([]) [0, 2, 3, 4, 5] ([ln 1, ln 6, ln 7, tk 8]) (by kernel_rfl) (by kernel_rfl) hF ?_); clear hF; (simp only [planOf, List.filterMap_cons, List.filterMap_nil, List.getElem?_toArray, List.getElem?_cons_succ, List.getElem?_cons_zero, Option.map_some]))
  repeat (first | ((with_reducible apply wq_move); (focus (simp only [Act.eval, Array.getD_eq_getD_getElem?, List.getElem?_toArray, List.getElem?_cons_succ, List.getElem?_cons_zero, Option.getD_some, List.map_toArray, List.map_cons, List.map_nil] <;> exact rfl)); simp only [Act.put, List.setIfInBounds_toArray, List.set_cons_succ, List.set_cons_zero]) | ((with_reducible apply wq_load (T := 22) (hu := Try.underlying22)); exact rfl; (first | exact ⟨0, rfl⟩ | exact ⟨1, rfl⟩ | exact ⟨2, rfl⟩ | exact ⟨3, rfl⟩ | exact ⟨4, rfl⟩ | exact ⟨5, rfl⟩ | exact ⟨6, rfl⟩ | exact ⟨7, rfl⟩ | exact ⟨8, rfl⟩ | exact ⟨9, rfl⟩ | exact ⟨10, rfl⟩ | exact ⟨11, rfl⟩); exact info_nm Hnm.out; simp only [Act.put, List.setIfInBounds_toArray, List.set_cons_succ, List.set_cons_zero]) | ((with_reducible apply wq_load (T := 24) (hu := Try.underlying24)); exact rfl; (first | exact ⟨0, rfl⟩ | exact ⟨1, rfl⟩ | exact ⟨2, rfl⟩ | exact ⟨3, rfl⟩ | exact ⟨4, rfl⟩ | exact ⟨5, rfl⟩ | exact ⟨6, rfl⟩ | exact ⟨7, rfl⟩ | exact ⟨8, rfl⟩ | exact ⟨9, rfl⟩ | exact ⟨10, rfl⟩ | exact ⟨11, rfl⟩); exact info_idl Hs.out; simp only [Act.put, List.setIfInBounds_toArray, List.set_cons_succ, List.set_cons_zero]))
  refine wpQuiet_nil ?_
  (refine And.intro ?_ ?_; (focus (repeat (first | (with_reducible exact FOK.nil) | (with_reducible refine FOK.ln ?_) | (with_reducible refine FOK.tk ?_) | (with_reducible refine FOK.fl ?_ ?_; (focus fail))))))
  ((with_reducible apply wpLine_made (f := 42) (hc := Try.call42)); exact wanted_plain; (focus (simp only [Act.eval, Array.getD_eq_getD_getElem?, List.getElem?_toArray, List.getElem?_cons_succ, List.getElem?_cons_zero, Option.getD_some, List.map_toArray, List.map_cons, List.map_nil] <;> exact rfl)); intro _ _ hw; refine (fourL (q : Int) (by omega) (by omega) _).mono ?_; clear hw; rintro _ _ ⟨b1, c1, t1, rfl, hc1, hm⟩; refine ⟨_, _, rfl, hm, ?_⟩; clear hm; have H1 := Lib.hid hc1; clear hc1; (simp only [Act.put, List.setIfInBounds_toArray, List.set_cons_succ, List.set_cons_zero, List.cons_append, List.nil_append, ← bs_append]))
  ((with_reducible apply wpLine_made (f := 17) (hc := Try.call17)); exact wanted_plain; (focus (simp only [Act.eval, Array.getD_eq_getD_getElem?, List.getElem?_toArray, List.getElem?_cons_succ, List.getElem?_cons_zero, Option.getD_some, List.map_toArray, List.map_cons, List.map_nil] <;> exact rfl)); intro _ _ hw; refine (signK nm Hnm.out (q : Int) (by omega) (by omega) seed Hs.out msg p lm cm Hm.out (by omega) (Hsm.out.fr hw)).mono ?_; clear hw; rintro _ _ ⟨b2, c2, t2, rfl, hc2, hm⟩; refine ⟨_, _, rfl, hm, ?_⟩; clear hm; have H2 := Lib.hid hc2; clear hc2; (simp only [Act.put, List.setIfInBounds_toArray, List.set_cons_succ, List.set_cons_zero, List.cons_append, List.nil_append, ← bs_append]))
  rw [Hsg.out]
  ((with_reducible apply wpLine_append 0 (bs (four (q : Int))) (t1) (bs sg) (ht := Try.underlying28) (he := byteElem)); exact wanted_plain; exact rfl; exact rfl; (focus (simp [bs_length, four_length, Hsl.out])); (focus exact H1.out); exact rfl; (focus (simp [bs_length, four_length, Hsl.out])); (focus (intro _ _ hw; exact Sl.pre hw ⟨4, rfl⟩)); exact bs_oneCell _; (focus omega); (focus (unfold maxLen; omega)); (intro b3 c3 t3 hc3); have H3 := Lib.hid hc3; clear hc3; (simp only [Act.put, List.setIfInBounds_toArray, List.set_cons_succ, List.set_cons_zero, List.cons_append, List.nil_append, ← bs_append]))
  ((refine wpLine_take rfl ?_); (first | ((with_reducible apply wq_move); (focus (simp only [Act.eval, Array.getD_eq_getD_getElem?, List.getElem?_toArray, List.getElem?_cons_succ, List.getElem?_cons_zero, Option.getD_some, List.map_toArray, List.map_cons, List.map_nil] <;> exact rfl)); simp only [Act.put, List.setIfInBounds_toArray, List.set_cons_succ, List.set_cons_zero]) | ((with_reducible apply wq_assign); (focus (simp only [Act.eval, Array.getD_eq_getD_getElem?, List.getElem?_toArray, List.getElem?_cons_succ, List.getElem?_cons_zero, Option.getD_some, List.map_toArray, List.map_cons, List.map_nil] <;> exact rfl)); simp only [Act.put, List.setIfInBounds_toArray, List.set_cons_succ, List.set_cons_zero]) | fail); (refine wpQuiet_nil ?_))
  ((refine wpLine_nil ?_); intro wl hF)
  go_wp2_with (first | (go_at_call 42; refine (fourL (h : Int) (by omega) (by omega) _).mono ?_; rintro _ _ ⟨b4, c4, t4, rfl, hc4, hm⟩; replace hF := hF.took hm; clear hm; have H4 := Lib.hid hc4; clear hc4) | ((with_reducible apply wpl_append (dst := some 46) hF 3 (bs (four (q : Int) ++ sg)) (t3) (bs (four (h : Int))) (ht := Try.underlying28) (he := byteElem)); exact rfl; (focus exact rfl); (focus (rw [bs_length, List.length_append, four_length, Hsl.out])); (focus (exact H3.out)); exact rfl; (focus (rw [bs_length, four_length])); (focus (exact Sl.pre hF ⟨5, rfl⟩)); exact bs_oneCell _; (focus omega); (focus (unfold maxLen; omega)); clear hF; intro b5 c5 t5 w5 hc5 hF; have H5 := Lib.hid hc5; clear hc5) | ((with_reducible apply wpl_shlI); exact rfl; exact rfl; (focus omega); (focus omega); (focus (rw [Hp.out]; omega)); (focus (rw [Hp.out]; omega)); rw [Hp.out]))
  have hF0 : Fr w w5 [⟨bn, bs nm, 22⟩, ⟨bd, bs seed, 24⟩, ⟨bt, bs xs.flatten, 24⟩, ⟨b5, bs (four (q : Int) ++ sg ++ four (h : Int)) ++ t5, 5⟩] := by
    have := hF.sub (L' := [_, _, _, _]) (List.sublist_append_left [_, _, _, _] _)
    rwa [← bs_append] at this
  clear hF
  go_loopw [13, 14] (fun u v wr => ∃ (r : Nat) (X : List UInt8) (m b c : Nat) (tt : List Value), r < 2 * n ∧ v = .int .i64 (r : Int) ∧ X ++ path nm seed n r = z ∧ X.length = m ∧ u = .slice (some ⟨b, 0, none⟩) m c ∧ c = m + tt.length ∧ Fr w wr [⟨bn, bs nm, 22⟩, ⟨bd, bs seed, 24⟩, ⟨bt, bs xs.flatten, 24⟩, ⟨b, bs X ++ tt, 5⟩]) (fun _ v _ => (intOf v).toNat)
  case atStart => exact ⟨n + q, four (q : Int) ++ sg ++ four (h : Int), 4300, b5, c5, t5, by omega, by congr <;> omega, Hz2.out, by simp [four_length, Hsl.out], rfl, H5.out, hF0⟩
  case round =>
    clear hF0
    obtain ⟨r, X, m, b, c, tt, hr, rfl, hX, hm, rfl, hct, hF⟩ := hrel
    have Hct := Lib.hid hct
    have Hm2 := Lib.hid hm
    have hm4 : m ≤ 4460 := by
      have e := congrArg List.length hX
      rw [List.length_append, Hzl.out, hm] at e
      omega
    have HX := Lib.hid hX
    clear hct hm hX
    by_cases hr1 : 1 < r
    · have d5 : (r : Int) > 1 := by omega
      have hs2 : r ^^^ 1 < 2 * n := by
        have e : 2 * n = 2 ^ (h + 1) := by rw [Nat.pow_succ, ← Hnh.out]; omega
        rw [e]
        exact Nat.xor_lt_two_pow (by rw [← e]; exact hr) (by rw [← e]; omega)
      have hs1 : 0 < r ^^^ 1 := by
        refine Nat.pos_of_ne_zero fun e => ?_
        have e3 : r = r ^^^ 1 ^^^ 1 := by rw [Nat.xor_assoc, Nat.xor_self, Nat.xor_zero]
        rw [e, Nat.zero_xor] at e3
        omega
      obtain ⟨s, hs⟩ : ∃ s, r ^^^ 1 = s := ⟨_, rfl⟩
      obtain ⟨y, hy⟩ : ∃ y, tn nm seed n s = y := ⟨_, rfl⟩
      have Hp2 := Lib.hid (show (X ++ y) ++ path nm seed n (r / 2) = z by rw [← hy, ← hs, List.append_assoc, ← path_step hr1]; exact HX.out)
      rw [hs] at hs1 hs2
      have Hxr := Lib.hid hs
      have Hyl := Lib.hid (show y.length = 32 by rw [← hy]; exact tn_length _ _ _ _)
      have Hys := Lib.hid (show xs.getD s [] = y by rw [Hxt.out s hs1 hs2, hy])
      clear hs hy
      go_wp2_with (first | ((with_reducible apply wpl_xorI (u := r) (n := 1)); exact rfl; exact rfl; (focus omega); (focus omega); rw [Hxr.out]) | ((with_reducible apply wpl_idx32 (k := (s : Int)) (hu := Try.underlying68) (he := info_id_)); exact rfl; exact rfl; (focus omega); (focus omega)) | ((with_reducible apply wpl_sliceAny (T := 24) (hu := Try.underlying24) (he := info_u8_)); exact rfl) | ((with_reducible apply wpl_append (dst := some 61) hF 3 (bs X) (tt) (bs y) (ht := Try.underlying28) (he := byteElem)); exact rfl; (focus exact rfl); (focus (rw [bs_length]; exact Hm2.out)); (focus (exact Hct.out)); exact rfl; (focus (rw [bs_length]; exact Hyl.out)); (focus (exact (by rw [← Hys.out]; exact hF.slRow (k := 2) rfl Hxs.out (by rw [Hxl.out]; exact hs2)))); exact bs_oneCell _; (focus omega); (focus (unfold maxLen; omega)); clear hF; intro b6 c6 t6 w6 hc6 hF; have H6 := Lib.hid hc6; clear hc6))
      go_roundw
      case rel =>
        refine ⟨r / 2, X ++ y, m + 32, b6, c6, t6, by omega, by congr <;> omega, Hp2.out, by rw [List.length_append, Hm2.out, Hyl.out], rfl, H6.out, ?_⟩
        rw [bs_append]
        exact hF
      case measure => simp [intOf]; omega
    · have d5 : ¬ (r : Int) > 1 := by omega
      have e : X = z := by rw [← HX.out, path_end (by omega), List.append_nil]
      subst e
      have e2 : m = 4300 + 32 * h := by rw [← Hm2.out, Hzl.out]
      go_wp2_with (first | fail)
      go_ret2
      refine ⟨b, c, tt, by rw [← e2]; rfl, by rw [← e2]; exact Hct.out, hF.made ?_⟩
      rw [Hz.out]
      simp

set_option maxHeartbeats 8000000 in
theorem signR6 (nm : List UInt8) (hnm : nm.length = 16) (seed : List UInt8) (hs : seed.length = 32) (h n : Nat) (hn : n = 2 ^ h) (h1 : 1 ≤ h) (h5 : h ≤ 5) (q : Nat) (hq : q < n) (msg : List UInt8) (p : Option Addr) (lm cm : Nat) (hm : msg.length = lm) (hlim : lm ≤ 1000000) {w : World} (hsm : Sl w p (bs msg)) :
    Calls Try.prog 24 #[agg nm, agg seed, .int .i64 (h : Int), .int .i64 (q : Int), .slice p lm cm] w (SignPost6 nm seed h q msg w) := by
  have hF := Fr.start w
  have Hnm := Lib.hid hnm
  have Hs := Lib.hid hs
  have Hm := Lib.hid hm
  have Hsm := Lib.hid hsm
  have d1 : ¬ (h : Int) < 1 := by omega
  have d2 : ¬ (h : Int) > 5 := by omega
  have d3 : ¬ (q : Int) < 0 := by omega
  have d4 : ¬ (q : Int) ≥ (n : Int) := by omega
  have hn32 : n ≤ 32 := by rw [hn]; exact (Nat.pow_le_pow_right (n := 2) (by decide) h5 : 2 ^ h ≤ 2 ^ 5)
  have hn2 : 2 ≤ n := by rw [hn]; exact (Nat.pow_le_pow_right (n := 2) (by decide) h1 : 2 ^ 1 ≤ 2 ^ h)
  have Hp := Lib.hid (show (1 : Int) * 2 ^ ((h : Int)).toNat = (n : Int) by rw [pow_int, hn])
  obtain ⟨sg, hsg⟩ : ∃ s, sigOf nm (q : Int) seed msg = s := ⟨_, rfl⟩
  have Hsg := Lib.hid hsg
  have Hsl := Lib.hid (show sg.length = 4292 by rw [← hsg]; exact sigOf_length _ _ _ _)
  have Hll := Lib.hid (lsig_length (nm := nm) (seed := seed) (msg := msg) (show q < 2 ^ h by rw [← hn]; exact hq))
  obtain ⟨z, hz⟩ : ∃ z, lsig nm seed h q msg = z := ⟨_, rfl⟩
  have Hz := Lib.hid hz
  have Hz2 := Lib.hid (show four (q : Int) ++ sg ++ four (h : Int) ++ path nm seed n (n + q) = z by rw [← hz, lsig, hsg, hn])
  have Hzl := Lib.hid (show z.length = 4300 + 32 * h by rw [← hz]; exact Hll.out)
  have Hnh := Lib.hid hn
  clear hsg hz hnm hs hm hsm hn
  go_enter Try.func24, Try.ntmps24
  go_wp2_with (first | ((with_reducible apply wpl_box (x := Operand.tmp 0) hF); exact rfl; clear hF; intro bn _ hF) | ((with_reducible apply wpl_box (x := Operand.tmp 1) hF); exact rfl; clear hF; intro bd _ hF) | go_skip | ((with_reducible refine wpl_unguard ?_ ?_); (focus (go_simp; done))) | ((with_reducible apply wpl_shlI); exact rfl; exact rfl; (focus omega); (focus omega); (focus (rw [Hp.out]; omega)); (focus (rw [Hp.out]; omega)); rw [Hp.out]) | ((with_reducible apply wpl_load hF (T := 22) (hu := Try.underlying22)); exact rfl; (first | exact ⟨0, rfl⟩ | exact ⟨1, rfl⟩ | exact ⟨2, rfl⟩ | exact ⟨3, rfl⟩ | exact ⟨4, rfl⟩ | exact ⟨5, rfl⟩ | exact ⟨6, rfl⟩ | exact ⟨7, rfl⟩ | exact ⟨8, rfl⟩ | exact ⟨9, rfl⟩ | exact ⟨10, rfl⟩ | exact ⟨11, rfl⟩); exact info_nm Hnm.out) | ((with_reducible apply wpl_load hF (T := 24) (hu := Try.underlying24)); exact rfl; (first | exact ⟨0, rfl⟩ | exact ⟨1, rfl⟩ | exact ⟨2, rfl⟩ | exact ⟨3, rfl⟩ | exact ⟨4, rfl⟩ | exact ⟨5, rfl⟩ | exact ⟨6, rfl⟩ | exact ⟨7, rfl⟩ | exact ⟨8, rfl⟩ | exact ⟨9, rfl⟩ | exact ⟨10, rfl⟩ | exact ⟨11, rfl⟩); exact info_idl Hs.out) | (go_at_call 43; refine (treeR nm Hnm.out seed Hs.out h n Hnh.out h1 h5 _).mono ?_; rintro _ _ ⟨bt, xs, rfl, hxl, hxs, hxt, hm⟩; replace hF := hF.took hm; clear hm; have Hxl := Lib.hid hxl; have Hxs := Lib.hid hxs; have Hxt := Lib.hid hxt; clear hxl hxs hxt))
  ((refine wp_region_line ([⟨bn, bs nm, 22⟩, ⟨bd, bs seed, 24⟩, ⟨bt, bs xs.flatten, 24⟩]) ([]) [0, 2, 3, 4, 5] ([ln 1, ln 6, ln 7, tk 8]) (by kernel_rfl) (by kernel_rfl) hF ?_); clear hF; (simp only [planOf, List.filterMap_cons, List.filterMap_nil, List.getElem?_toArray, List.getElem?_cons_succ, List.getElem?_cons_zero, Option.map_some]))
  repeat (first | ((with_reducible apply wq_move); (focus (simp only [Act.eval, Array.getD_eq_getD_getElem?, List.getElem?_toArray, List.getElem?_cons_succ, List.getElem?_cons_zero, Option.getD_some, List.map_toArray, List.map_cons, List.map_nil] <;> exact rfl)); simp only [Act.put, List.setIfInBounds_toArray, List.set_cons_succ, List.set_cons_zero]) | ((with_reducible apply wq_load (T := 22) (hu := Try.underlying22)); exact rfl; (first | exact ⟨0, rfl⟩ | exact ⟨1, rfl⟩ | exact ⟨2, rfl⟩ | exact ⟨3, rfl⟩ | exact ⟨4, rfl⟩ | exact ⟨5, rfl⟩ | exact ⟨6, rfl⟩ | exact ⟨7, rfl⟩ | exact ⟨8, rfl⟩ | exact ⟨9, rfl⟩ | exact ⟨10, rfl⟩ | exact ⟨11, rfl⟩); exact info_nm Hnm.out; simp only [Act.put, List.setIfInBounds_toArray, List.set_cons_succ, List.set_cons_zero]) | ((with_reducible apply wq_load (T := 24) (hu := Try.underlying24)); exact rfl; (first | exact ⟨0, rfl⟩ | exact ⟨1, rfl⟩ | exact ⟨2, rfl⟩ | exact ⟨3, rfl⟩ | exact ⟨4, rfl⟩ | exact ⟨5, rfl⟩ | exact ⟨6, rfl⟩ | exact ⟨7, rfl⟩ | exact ⟨8, rfl⟩ | exact ⟨9, rfl⟩ | exact ⟨10, rfl⟩ | exact ⟨11, rfl⟩); exact info_idl Hs.out; simp only [Act.put, List.setIfInBounds_toArray, List.set_cons_succ, List.set_cons_zero]))
  refine wpQuiet_nil ?_
  (refine And.intro ?_ ?_; (focus (repeat (first | (with_reducible exact FOK.nil) | (with_reducible refine FOK.ln ?_) | (with_reducible refine FOK.tk ?_) | (with_reducible refine FOK.fl ?_ ?_; (focus fail))))))
  ((with_reducible apply wpLine_made (f := 44) (hc := Try.call44)); exact wanted_plain; (focus (simp only [Act.eval, Array.getD_eq_getD_getElem?, List.getElem?_toArray, List.getElem?_cons_succ, List.getElem?_cons_zero, Option.getD_some, List.map_toArray, List.map_cons, List.map_nil] <;> exact rfl)); intro _ _ hw; refine (four6nil (q : Int) (by omega) (by omega) _).mono ?_; clear hw; rintro _ _ ⟨b1, c1, t1, rfl, hc1, hm⟩; refine ⟨_, _, rfl, hm, ?_⟩; clear hm; have H1 := Lib.hid hc1; clear hc1; (simp only [Act.put, List.setIfInBounds_toArray, List.set_cons_succ, List.set_cons_zero, List.cons_append, List.nil_append, ← bs_append]))
  ((with_reducible apply wpLine_made (f := 18) (hc := Try.call18)); exact wanted_plain; (focus (simp only [Act.eval, Array.getD_eq_getD_getElem?, List.getElem?_toArray, List.getElem?_cons_succ, List.getElem?_cons_zero, Option.getD_some, List.map_toArray, List.map_cons, List.map_nil] <;> exact rfl)); intro _ _ hw; refine (refSign nm Hnm.out (q : Int) (by omega) (by omega) seed Hs.out msg p lm cm Hm.out (by omega) (Hsm.out.fr hw)).mono ?_; clear hw; rintro _ _ ⟨b2, c2, t2, rfl, hc2, hm⟩; refine ⟨_, _, rfl, hm, ?_⟩; clear hm; have H2 := Lib.hid hc2; clear hc2; (simp only [Act.put, List.setIfInBounds_toArray, List.set_cons_succ, List.set_cons_zero, List.cons_append, List.nil_append, ← bs_append]))
  rw [Hsg.out]
  ((with_reducible apply wpLine_append 0 (bs (four (q : Int))) (t1) (bs sg) (ht := Try.underlying28) (he := byteElem)); exact wanted_plain; exact rfl; exact rfl; (focus (simp [bs_length, four_length, Hsl.out])); (focus exact H1.out); exact rfl; (focus (simp [bs_length, four_length, Hsl.out])); (focus (intro _ _ hw; exact Sl.pre hw ⟨4, rfl⟩)); exact bs_oneCell _; (focus omega); (focus (unfold maxLen; omega)); (intro b3 c3 t3 hc3); have H3 := Lib.hid hc3; clear hc3; (simp only [Act.put, List.setIfInBounds_toArray, List.set_cons_succ, List.set_cons_zero, List.cons_append, List.nil_append, ← bs_append]))
  ((refine wpLine_take rfl ?_); (first | ((with_reducible apply wq_move); (focus (simp only [Act.eval, Array.getD_eq_getD_getElem?, List.getElem?_toArray, List.getElem?_cons_succ, List.getElem?_cons_zero, Option.getD_some, List.map_toArray, List.map_cons, List.map_nil] <;> exact rfl)); simp only [Act.put, List.setIfInBounds_toArray, List.set_cons_succ, List.set_cons_zero]) | ((with_reducible apply wq_assign); (focus (simp only [Act.eval, Array.getD_eq_getD_getElem?, List.getElem?_toArray, List.getElem?_cons_succ, List.getElem?_cons_zero, Option.getD_some, List.map_toArray, List.map_cons, List.map_nil] <;> exact rfl)); simp only [Act.put, List.setIfInBounds_toArray, List.set_cons_succ, List.set_cons_zero]) | fail); (refine wpQuiet_nil ?_))
  ((refine wpLine_nil ?_); intro wl hF)
  go_wp2_with (first | (go_at_call 44; refine (four6 (h : Int) (by omega) (by omega) hF 3 (xs := bs (four (q : Int) ++ sg)) (tail := t3) rfl (by rw [bs_length, List.length_append, four_length, Hsl.out]) H3.out (by omega)).mono ?_; clear hF; rintro _ w5 ⟨b5, c5, t5, rfl, hc5, hF⟩; have H5 := Lib.hid hc5; clear hc5) | ((with_reducible apply wpl_shlI); exact rfl; exact rfl; (focus omega); (focus omega); (focus (rw [Hp.out]; omega)); (focus (rw [Hp.out]; omega)); rw [Hp.out]))
  have hF0 : Fr w w5 [⟨bn, bs nm, 22⟩, ⟨bd, bs seed, 24⟩, ⟨bt, bs xs.flatten, 24⟩, ⟨b5, bs (four (q : Int) ++ sg ++ four (h : Int)) ++ t5, 5⟩] := by
    have := hF.sub (L' := [_, _, _, _]) (List.sublist_append_left [_, _, _, _] _)
    rwa [← bs_append] at this
  clear hF
  go_loopw [13, 14] (fun u v wr => ∃ (r : Nat) (X : List UInt8) (m b c : Nat) (tt : List Value), r < 2 * n ∧ v = .int .i64 (r : Int) ∧ X ++ path nm seed n r = z ∧ X.length = m ∧ u = .slice (some ⟨b, 0, none⟩) m c ∧ c = m + tt.length ∧ Fr w wr [⟨bn, bs nm, 22⟩, ⟨bd, bs seed, 24⟩, ⟨bt, bs xs.flatten, 24⟩, ⟨b, bs X ++ tt, 5⟩]) (fun _ v _ => (intOf v).toNat)
  case atStart => exact ⟨n + q, four (q : Int) ++ sg ++ four (h : Int), 4300, b5, c5, t5, by omega, by congr <;> omega, Hz2.out, by simp [four_length, Hsl.out], rfl, H5.out, hF0⟩
  case round =>
    clear hF0
    obtain ⟨r, X, m, b, c, tt, hr, rfl, hX, hm, rfl, hct, hF⟩ := hrel
    have Hct := Lib.hid hct
    have Hm2 := Lib.hid hm
    have hm4 : m ≤ 4460 := by
      have e := congrArg List.length hX
      rw [List.length_append, Hzl.out, hm] at e
      omega
    have HX := Lib.hid hX
    clear hct hm hX
    by_cases hr1 : 1 < r
    · have d5 : (r : Int) > 1 := by omega
      have hs2 : r ^^^ 1 < 2 * n := by
        have e : 2 * n = 2 ^ (h + 1) := by rw [Nat.pow_succ, ← Hnh.out]; omega
        rw [e]
        exact Nat.xor_lt_two_pow (by rw [← e]; exact hr) (by rw [← e]; omega)
      have hs1 : 0 < r ^^^ 1 := by
        refine Nat.pos_of_ne_zero fun e => ?_
        have e3 : r = r ^^^ 1 ^^^ 1 := by rw [Nat.xor_assoc, Nat.xor_self, Nat.xor_zero]
        rw [e, Nat.zero_xor] at e3
        omega
      obtain ⟨s, hs⟩ : ∃ s, r ^^^ 1 = s := ⟨_, rfl⟩
      obtain ⟨y, hy⟩ : ∃ y, tn nm seed n s = y := ⟨_, rfl⟩
      have Hp2 := Lib.hid (show (X ++ y) ++ path nm seed n (r / 2) = z by rw [← hy, ← hs, List.append_assoc, ← path_step hr1]; exact HX.out)
      rw [hs] at hs1 hs2
      have Hxr := Lib.hid hs
      have Hyl := Lib.hid (show y.length = 32 by rw [← hy]; exact tn_length _ _ _ _)
      have Hys := Lib.hid (show xs.getD s [] = y by rw [Hxt.out s hs1 hs2, hy])
      clear hs hy
      go_wp2_with (first | ((with_reducible apply wpl_xorI (u := r) (n := 1)); exact rfl; exact rfl; (focus omega); (focus omega); rw [Hxr.out]) | ((with_reducible apply wpl_idx32 (k := (s : Int)) (hu := Try.underlying68) (he := info_id_)); exact rfl; exact rfl; (focus omega); (focus omega)) | ((with_reducible apply wpl_sliceAny (T := 24) (hu := Try.underlying24) (he := info_u8_)); exact rfl) | ((with_reducible apply wpl_append (dst := some 60) hF 3 (bs X) (tt) (bs y) (ht := Try.underlying28) (he := byteElem)); exact rfl; (focus exact rfl); (focus (rw [bs_length]; exact Hm2.out)); (focus (exact Hct.out)); exact rfl; (focus (rw [bs_length]; exact Hyl.out)); (focus (exact (by rw [← Hys.out]; exact hF.slRow (k := 2) rfl Hxs.out (by rw [Hxl.out]; exact hs2)))); exact bs_oneCell _; (focus omega); (focus (unfold maxLen; omega)); clear hF; intro b6 c6 t6 w6 hc6 hF; have H6 := Lib.hid hc6; clear hc6))
      go_roundw
      case rel =>
        refine ⟨r / 2, X ++ y, m + 32, b6, c6, t6, by omega, by congr <;> omega, Hp2.out, by rw [List.length_append, Hm2.out, Hyl.out], rfl, H6.out, ?_⟩
        rw [bs_append]
        exact hF
      case measure => simp [intOf]; omega
    · have d5 : ¬ (r : Int) > 1 := by omega
      have e : X = z := by rw [← HX.out, path_end (by omega), List.append_nil]
      subst e
      have e2 : m = 4300 + 32 * h := by rw [← Hm2.out, Hzl.out]
      go_wp2_with (first | fail)
      go_ret2
      refine ⟨b, c, tt, by rw [← e2]; rfl, by rw [← e2]; exact Hct.out, hF.made ?_⟩
      rw [Hz.out]
      simp
end Go.Proofs.Ytbnjgldilckhpaa
