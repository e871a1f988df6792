/-
  THE WALKS of lms.four, lms.number, latticeref6.four, latticeref6.get.
-/
import Derived.Test.YtbnjgldilckhpaaLmsSpec
import Derived.Test.YtbnjgldilckhpaaLawB
namespace Go.Proofs.Ytbnjgldilckhpaa
set_option linter.unusedSimpArgs false
set_option linter.unusedVariables false
open Go.RowKit
attribute [local irreducible] wpQuiet Calls wpLine
set_option maxRecDepth 4000

set_option maxHeartbeats 2000000 in
theorem fourL (q : Int) (h0 : -9223372036854775808 ≤ q) (h1 : q ≤ 9223372036854775807) (w : World) :
    Calls Try.prog 42 #[.int .i64 q] w fun e w' => ∃ b cap tail, e = .returned (.slice (some ⟨b, 0, none⟩) 4 cap) ∧ cap = 4 + List.length tail ∧ Made w w' ⟨b, bs (four q) ++ tail, 5⟩ := by
  have hF := Fr.start w
  have Hq := Lib.hid (And.intro h0 h1)
  clear h0 h1
  go_enter Try.func42, Try.ntmps42
  go_wp2_with (first | ((with_reducible apply wpl_buildSlice hF (ht := Try.underlying28) (he := byteElem) (bs (four q))); (focus omega); (focus (first | exact rfl | kernel_rfl)); clear hF; intro bt _ hF))
  go_ret
  exact ⟨bt, 4, [], rfl, rfl, by rw [List.append_nil]; exact hF.made (by simp)⟩

set_option maxHeartbeats 2000000 in
theorem four6 (q : Int) (h0 : -9223372036854775808 ≤ q) (h1 : q ≤ 9223372036854775807) {w0 w : World} {L : List Blk} (hF : Fr w0 w L) (k : Nat) {b n cap : Nat} {xs tail : List Value} (hk : L[k]? = some ⟨b, xs ++ tail, 5⟩) (hn : xs.length = n) (hcap : cap = n + tail.length) (hlim : n ≤ 1099511627776) :
    Calls Try.prog 44 #[.slice (some ⟨b, 0, none⟩) n cap, .int .i64 q] w (Grown w0 L k xs (bs (four q)) (n + 4)) := by
  have Hq := Lib.hid (And.intro h0 h1)
  have Hn := Lib.hid hn
  have Hcap := Lib.hid hcap
  clear h0 h1 hn hcap
  go_enter Try.func44, Try.ntmps44
  go_wp2_with (first | ((with_reducible apply wpl_push hF k (xs) (tail) (bs (four q)) (ht := Try.underlying28) (he := byteElem)); (focus (intro _; exact rfl)); (focus exact hk); (focus (intro _; exact rfl)); (focus exact Hn.out); (focus exact Hcap.out); (focus (first | exact rfl | kernel_rfl)); exact rfl; (focus omega); exact bs_oneCell _; (focus omega); (focus (unfold maxLen; omega)); clear hF; intro bt ct tt _ _ hct hF; have Hct := Lib.hid hct; clear hct))
  go_ret
  exact ⟨bt, ct, tt, rfl, Hct.out, hF⟩

set_option maxHeartbeats 2000000 in
theorem numberK (l : List UInt8) (hl : 4 ≤ l.length) (p : Option Addr) (n cap : Nat) (hn : 4 ≤ n) {w : World} (hs : Sl w p (bs l)) :
    Calls Try.prog 46 #[.slice p n cap] w fun e w' => e = .returned (.int .i64 (numOf l)) ∧ Below w.heap.size w w' := by
  have hF := Fr.start w
  obtain ⟨p, rfl⟩ := hs.addr (by rw [bs_length]; omega)
  have c0 := Lib.hid (hs.cell (bs_get (l := l) (i := 0) (by omega)))
  have c1 := Lib.hid (hs.cell (bs_get (l := l) (i := 1) (by omega)))
  have c2 := Lib.hid (hs.cell (bs_get (l := l) (i := 2) (by omega)))
  have c3 := Lib.hid (hs.cell (bs_get (l := l) (i := 3) (by omega)))
  clear hs
  obtain ⟨u0, hu0⟩ : ∃ u, gb l 0 = u := ⟨_, rfl⟩
  obtain ⟨u1, hu1⟩ : ∃ u, gb l 1 = u := ⟨_, rfl⟩
  obtain ⟨u2, hu2⟩ : ∃ u, gb l 2 = u := ⟨_, rfl⟩
  obtain ⟨u3, hu3⟩ : ∃ u, gb l 3 = u := ⟨_, rfl⟩
  rw [hu0] at c0
  rw [hu1] at c1
  rw [hu2] at c2
  rw [hu3] at c3
  have k0 := u0.toNat_lt
  have k1 := u1.toNat_lt
  have k2 := u2.toNat_lt
  have k3 := u3.toNat_lt
  obtain ⟨z, hz⟩ : ∃ z, numOf l = z := ⟨_, rfl⟩
  have Hz := Lib.hid (show (u0.toNat : Int) * 16777216 + (u1.toNat : Int) * 65536 + (u2.toNat : Int) * 256 + (u3.toNat : Int) = z by rw [← hz, numOf, hu0, hu1, hu2, hu3]; omega)
  rw [hz]
  clear hz hu0 hu1 hu2 hu3
  go_enter Try.func46, Try.ntmps46
  go_wp2_with (first | fail)
  ((refine wp_region_fr (by kernel_rfl) (by kernel_rfl) hF ?_); clear hF)
  repeat (first | ((with_reducible apply wq_move); (focus (simp only [Act.eval, Array.getD_eq_getD_getElem?, List.getElem?_toArray, List.getElem?_cons_succ, List.getElem?_cons_zero, Option.getD_some, List.map_toArray, List.map_cons, List.map_nil] <;> exact rfl)); simp only [Act.put, List.setIfInBounds_toArray, List.set_cons_succ, List.set_cons_zero]) | ((with_reducible apply wq_assign); (focus (simp only [Act.eval, Array.getD_eq_getD_getElem?, List.getElem?_toArray, List.getElem?_cons_succ, List.getElem?_cons_zero, Option.getD_some, List.map_toArray, List.map_cons, List.map_nil] <;> exact rfl)); simp only [Act.put, List.setIfInBounds_toArray, List.set_cons_succ, List.set_cons_zero]) | ((with_reducible apply wq_idxP (hu := Try.underlying28) (he := info_u8_)); exact rfl; exact rfl; (focus omega); (focus omega); simp only [Act.put, List.setIfInBounds_toArray, List.set_cons_succ, List.set_cons_zero]) | ((with_reducible apply wq_loadO (T := 5) (hu := Try.underlying5)); exact rfl; (first | exact c0.out | exact c1.out | exact c2.out | exact c3.out); simp only [Act.put, List.setIfInBounds_toArray, List.set_cons_succ, List.set_cons_zero]) | ((with_reducible apply wq_cvBI); exact rfl; exact (by rw [Try.underlying5]; rfl); exact Try.underlying3; simp only [Act.put, List.setIfInBounds_toArray, List.set_cons_succ, List.set_cons_zero]) | ((with_reducible apply wq_shlI); exact rfl; exact rfl; (focus omega); (focus omega); (focus (simp only [pw24, pw16, pw8]; omega)); (focus (simp only [pw24, pw16, pw8]; omega)); simp only [Act.put, List.setIfInBounds_toArray, List.set_cons_succ, List.set_cons_zero, pw24, pw16, pw8]) | ((with_reducible apply wq_orI 24 u0.toNat (u1.toNat * 65536)); exact rfl; exact rfl; (focus omega); (focus omega); (focus omega); (focus omega); simp only [Act.put, List.setIfInBounds_toArray, List.set_cons_succ, List.set_cons_zero]) | ((with_reducible apply wq_orI 16 (u0.toNat * 256 + u1.toNat) (u2.toNat * 256)); exact rfl; exact rfl; (focus omega); (focus omega); (focus omega); (focus omega); simp only [Act.put, List.setIfInBounds_toArray, List.set_cons_succ, List.set_cons_zero]) | ((with_reducible apply wq_orI 8 (u0.toNat * 65536 + u1.toNat * 256 + u2.toNat) u3.toNat); exact rfl; exact rfl; (focus omega); (focus omega); (focus omega); (focus omega); simp only [Act.put, List.setIfInBounds_toArray, List.set_cons_succ, List.set_cons_zero]))
  ((refine wpQuiet_nil ?_); intro _ hF)
  go_wp2_with (first | fail)
  go_ret
  exact ⟨by rw [Hz.out]; rfl, hF.below⟩

set_option maxHeartbeats 2000000 in
theorem getK (l : List UInt8) (hl : 4 ≤ l.length) (p : Option Addr) (n cap : Nat) (hn : 4 ≤ n) {w : World} (hs : Sl w p (bs l)) :
    Calls Try.prog 48 #[.slice p n cap] w fun e w' => e = .returned (.int .i64 (numOf l)) ∧ Below w.heap.size w w' := by
  have hF := Fr.start w
  obtain ⟨p, rfl⟩ := hs.addr (by rw [bs_length]; omega)
  have c0 := Lib.hid (hs.cell (bs_get (l := l) (i := 0) (by omega)))
  have c1 := Lib.hid (hs.cell (bs_get (l := l) (i := 1) (by omega)))
  have c2 := Lib.hid (hs.cell (bs_get (l := l) (i := 2) (by omega)))
  have c3 := Lib.hid (hs.cell (bs_get (l := l) (i := 3) (by omega)))
  clear hs
  obtain ⟨u0, hu0⟩ : ∃ u, gb l 0 = u := ⟨_, rfl⟩
  obtain ⟨u1, hu1⟩ : ∃ u, gb l 1 = u := ⟨_, rfl⟩
  obtain ⟨u2, hu2⟩ : ∃ u, gb l 2 = u := ⟨_, rfl⟩
  obtain ⟨u3, hu3⟩ : ∃ u, gb l 3 = u := ⟨_, rfl⟩
  rw [hu0] at c0
  rw [hu1] at c1
  rw [hu2] at c2
  rw [hu3] at c3
  have k0 := u0.toNat_lt
  have k1 := u1.toNat_lt
  have k2 := u2.toNat_lt
  have k3 := u3.toNat_lt
  obtain ⟨z, hz⟩ : ∃ z, numOf l = z := ⟨_, rfl⟩
  have Hz := Lib.hid (show (u0.toNat : Int) * 16777216 + (u1.toNat : Int) * 65536 + (u2.toNat : Int) * 256 + (u3.toNat : Int) = z by rw [← hz, numOf, hu0, hu1, hu2, hu3]; omega)
  rw [hz]
  clear hz hu0 hu1 hu2 hu3
  go_enter Try.func48, Try.ntmps48
  go_wp2_with (first | fail)
  ((refine wp_region_fr (by kernel_rfl) (by kernel_rfl) hF ?_); clear hF)
  repeat (first | ((with_reducible apply wq_move); (focus (simp only [Act.eval, Array.getD_eq_getD_getElem?, List.getElem?_toArray, List.getElem?_cons_succ, List.getElem?_cons_zero, Option.getD_some, List.map_toArray, List.map_cons, List.map_nil] <;> exact rfl)); simp only [Act.put, List.setIfInBounds_toArray, List.set_cons_succ, List.set_cons_zero]) | ((with_reducible apply wq_assign); (focus (simp only [Act.eval, Array.getD_eq_getD_getElem?, List.getElem?_toArray, List.getElem?_cons_succ, List.getElem?_cons_zero, Option.getD_some, List.map_toArray, List.map_cons, List.map_nil] <;> exact rfl)); simp only [Act.put, List.setIfInBounds_toArray, List.set_cons_succ, List.set_cons_zero]) | ((with_reducible apply wq_idxP (hu := Try.underlying28) (he := info_u8_)); exact rfl; exact rfl; (focus omega); (focus omega); simp only [Act.put, List.setIfInBounds_toArray, List.set_cons_succ, List.set_cons_zero]) | ((with_reducible apply wq_loadO (T := 5) (hu := Try.underlying5)); exact rfl; (first | exact c0.out | exact c1.out | exact c2.out | exact c3.out); simp only [Act.put, List.setIfInBounds_toArray, List.set_cons_succ, List.set_cons_zero]) | ((with_reducible apply wq_cvBI); exact rfl; exact (by rw [Try.underlying5]; rfl); exact Try.underlying3; simp only [Act.put, List.setIfInBounds_toArray, List.set_cons_succ, List.set_cons_zero]) | ((with_reducible apply wq_shlI); exact rfl; exact rfl; (focus omega); (focus omega); (focus (simp only [pw24, pw16, pw8]; omega)); (focus (simp only [pw24, pw16, pw8]; omega)); simp only [Act.put, List.setIfInBounds_toArray, List.set_cons_succ, List.set_cons_zero, pw24, pw16, pw8]) | ((with_reducible apply wq_orI 24 u0.toNat (u1.toNat * 65536)); exact rfl; exact rfl; (focus omega); (focus omega); (focus omega); (focus omega); simp only [Act.put, List.setIfInBounds_toArray, List.set_cons_succ, List.set_cons_zero]) | ((with_reducible apply wq_orI 16 (u0.toNat * 256 + u1.toNat) (u2.toNat * 256)); exact rfl; exact rfl; (focus omega); (focus omega); (focus omega); (focus omega); simp only [Act.put, List.setIfInBounds_toArray, List.set_cons_succ, List.set_cons_zero]) | ((with_reducible apply wq_orI 8 (u0.toNat * 65536 + u1.toNat * 256 + u2.toNat) u3.toNat); exact rfl; exact rfl; (focus omega); (focus omega); (focus omega); (focus omega); simp only [Act.put, List.setIfInBounds_toArray, List.set_cons_succ, List.set_cons_zero]))
  ((refine wpQuiet_nil ?_); intro _ hF)
  go_wp2_with (first | fail)
  go_ret
  exact ⟨by rw [Hz.out]; rfl, hF.below⟩
end Go.Proofs.Ytbnjgldilckhpaa
