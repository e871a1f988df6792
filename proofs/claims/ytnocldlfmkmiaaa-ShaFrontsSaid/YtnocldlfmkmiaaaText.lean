/-
  THE WALKS of sha.Text and latticeref1.Text: they come to the text of the bytes.
-/
import Derived.Test.YtnocldlfmkmiaaaPair
import Derived.Test.YtnocldlfmkmiaaaStr
import Derived.Test.YtnocldlfmkmiaaaStores2
namespace Go.Proofs.Ytnocldlfmkmiaaa
set_option linter.unusedSimpArgs false
set_option linter.unusedVariables false
open Go.RowKit
attribute [local irreducible] wpQuiet Calls
set_option maxRecDepth 4000

theorem digits_str : (Value.string { data := #[48, 49, 50, 51, 52, 53, 54, 55, 56, 57, 97, 98, 99, 100, 101, 102] }) = St digits := rfl
theorem bs_getB {l : List UInt8} {i : Nat} (h : i < l.length) : (bs l)[i]? = some (B (gb l i)) := bs_get h

set_option maxHeartbeats 2000000 in
theorem shaText (l : List UInt8) (hl : l.length = 32) (w : World) :
    Calls Try.prog 33 #[agg l] w fun e w' => e = .returned (St (texts l)) ∧ Below w.heap.size w w' := by
  have hF := Fr.start w
  have Hl := Lib.hid hl
  clear hl
  go_enter Try.func33, Try.ntmps33
  go_wp2_with (first | ((with_reducible apply wpl_box (x := Operand.tmp 0) hF); exact rfl; clear hF; intro bi _ hF) | ((with_reducible apply wpl_make hF (ht := Try.underlying43) (he := byteElem) (n := 0) (c := 64)); exact rfl; exact rfl; (focus omega); (focus omega); (focus omega); (focus omega); clear hF; intro bt _ hF; rw [bs_replicate] at hF) | ((with_reducible apply wpl_load hF (T := 29) (hu := Try.underlying29)); exact rfl; (first | exact ⟨0, rfl⟩ | exact ⟨1, rfl⟩ | exact ⟨2, rfl⟩ | exact ⟨3, rfl⟩ | exact ⟨4, rfl⟩ | exact ⟨5, rfl⟩ | exact ⟨6, rfl⟩); exact info_idl Hl.out))
  go_loopw [3, 8] (fun v t wr => ∃ (i b c N : Nat) (tt : List Value), i ≤ 32 ∧ Hid (N = 2 * i) ∧ t = .int .i64 i ∧ v = .slice (some ⟨b, 0, none⟩) N c ∧ c ≤ N + tt.length ∧ N + tt.length ≤ c ∧ Fr w wr [⟨bi, bs l, 29⟩, ⟨b, bs (texts (l.take i)) ++ tt, 5⟩]) (fun _ t _ => (32 - intOf t).toNat)
  case atStart => exact ⟨0, bt, 64, 0, bs (List.replicate 64 0), by omega, Lib.hid rfl, rfl, rfl, by simp [bs_length], by simp [bs_length], hF⟩
  case round =>
    clear hF
    obtain ⟨i, b, c, N, tt, hi, hN, rfl, rfl, hc1, hc2, hF⟩ := hrel
    by_cases hlt : i < 32
    · have d1 : (0 : Int) ≤ (i : Int) := by omega
      have d2 : (i : Int) < 32 := by omega
      have n1 : N ≤ 64 := by have := hN.out; omega
      have hx := (gb l i).toNat_lt
      have e1 : ((((gb l i).toNat / 16 : Nat) : Int)).toNat = (gb l i).toNat / 16 := by omega
      have e2 : ((((gb l i).toNat % 16 : Nat) : Int)).toNat = (gb l i).toNat % 16 := by omega
      have Hl1 : Hid ((texts (l.take i)).length = N) := Lib.hid (by rw [texts_length, List.length_take, Hl.out, hN.out]; omega)
      go_wp2_with (first | ((with_reducible apply wpl_indexV (T := 29) (hu := Try.underlying29) (hue := Try.underlying5) (he := info_u8_)); exact rfl; exact rfl; (focus omega); (focus omega); exact bs_getB (by rw [Hl.out]; omega)))
      have hFd := hF.drew
      have hFs := hFd.sub (L' := [⟨bi, bs l, 29⟩]) (List.sublist_append_left [_] [_])
      refine wp_region_stores (fun w' => Fr w w' [⟨bi, bs l, 29⟩]) [0, 1, 2, 3, 4, 5, 6] [7, 8, 9] (by kernel_rfl) (by kernel_rfl) hFs ?_
      clear hF hFs
      simp only [List.filterMap_cons, List.filterMap_nil, List.getElem?_toArray, List.getElem?_cons_succ, List.getElem?_cons_zero]
      repeat (first | ((with_reducible apply wq_move); (focus (simp only [Act.eval, Array.getD_eq_getD_getElem?, List.getElem?_toArray, List.getElem?_cons_succ, List.getElem?_cons_zero, Option.getD_some, List.map_toArray, List.map_cons, List.map_nil] <;> exact rfl)); simp only [Act.put, List.setIfInBounds_toArray, List.set_cons_succ, List.set_cons_zero, e1, e2, Int.toNat_natCast]) | ((with_reducible apply wq_assign); (focus (simp only [Act.eval, Array.getD_eq_getD_getElem?, List.getElem?_toArray, List.getElem?_cons_succ, List.getElem?_cons_zero, Option.getD_some, List.map_toArray, List.map_cons, List.map_nil] <;> exact rfl)); simp only [Act.put, List.setIfInBounds_toArray, List.set_cons_succ, List.set_cons_zero, e1, e2, Int.toNat_natCast]) | ((with_reducible apply wq_shr4); exact rfl; exact rfl; simp only [Act.put, List.setIfInBounds_toArray, List.set_cons_succ, List.set_cons_zero, e1, e2, Int.toNat_natCast]) | ((with_reducible apply wq_and15); exact rfl; exact rfl; simp only [Act.put, List.setIfInBounds_toArray, List.set_cons_succ, List.set_cons_zero, e1, e2, Int.toNat_natCast]) | ((with_reducible apply wq_indexSt (l := digits) (hT := Try.underlying9)); exact rfl; exact rfl; (focus omega); (focus (simp only [digits, List.length_cons, List.length_nil] <;> omega)); simp only [Act.put, List.setIfInBounds_toArray, List.set_cons_succ, List.set_cons_zero, e1, e2, Int.toNat_natCast]) | ((with_reducible apply wq_addI); exact rfl; exact rfl; (focus omega); simp only [Act.put, List.setIfInBounds_toArray, List.set_cons_succ, List.set_cons_zero, e1, e2, Int.toNat_natCast]) | ((with_reducible apply wq_subI); exact rfl; exact rfl; (focus omega); simp only [Act.put, List.setIfInBounds_toArray, List.set_cons_succ, List.set_cons_zero, e1, e2, Int.toNat_natCast]) | ((with_reducible apply wq_mulI); exact rfl; exact rfl; (focus omega); simp only [Act.put, List.setIfInBounds_toArray, List.set_cons_succ, List.set_cons_zero, e1, e2, Int.toNat_natCast]) | ((with_reducible refine wq_unguard ?_ ?_); (focus (go_simp; done))) | ((with_reducible refine wq_skip ?_ ?_); (focus (go_simp; done)); simp only [Act.put, List.setIfInBounds_toArray, List.set_cons_succ, List.set_cons_zero]) | ((with_reducible refine wq_skip_none ?_ ?_); (focus (go_simp; done)); simp only [Act.put, List.setIfInBounds_toArray, List.set_cons_succ, List.set_cons_zero]))
      (refine wpQuiet_nil ?_)
      have hF := hFd
      clear hFd
      ((with_reducible apply wps_push hF 1 (bs (texts (l.take i))) (tt) (bs [gb digits ((gb l i).toNat / 16), gb digits ((gb l i).toNat % 16)]) (ht := Try.underlying43) (he := byteElem)); (focus (intro _; exact rfl)); (focus (first | exact rfl | kernel_rfl)); (focus (intro _; exact rfl)); (focus (first | exact rfl | (rw [bs_length]; exact Hl1.out) | (simp only [bs_length, List.length_append, List.length_replicate, List.length_nil, List.length_cons] <;> omega))); (focus (first | omega | exact rfl)); (focus (first | exact rfl | kernel_rfl)); exact rfl; (focus omega); exact bs_oneCell _; (focus omega); (focus (unfold maxLen; omega)); (focus (intro _ _ _ hS; (exact hS.sub (List.sublist_append_left [_] (_ :: _))))); clear hF; intro bt ct tt _ _ hct hF; have hct1 := Nat.le_of_eq hct; have hct2 := Nat.le_of_eq hct.symm; clear hct)
      simp only [Act.put, List.setIfInBounds_toArray, List.set_cons_succ, List.set_cons_zero]
      refine wps_assign (hF.sub (List.sublist_append_left [_] [_])) rfl ?_
      unfold wpStores
      simp only [Act.put, List.setIfInBounds_toArray, List.set_cons_succ, List.set_cons_zero]
      rw [← bs_append, ← texts_take l i (by rw [Hl.out]; exact hlt)] at hF
      go_wp2_with (first | fail)
      go_roundw
      case rel => exact ⟨i + 1, bt, ct, _, tt, by omega, Lib.hid (by have := hN.out; omega), by go_num, rfl, by omega, by omega, hF⟩
      case measure => simp [intOf]; omega
    · obtain rfl : i = 32 := by omega
      have hN64 := hN.out
      have htk : l.take 32 = l := List.take_of_length_le (by rw [Hl.out]; omega)
      rw [htk] at hF
      have hsl := Sl.pre hF ⟨1, rfl⟩
      have Hl1 : Hid ((texts l).length = N) := Lib.hid (by rw [texts_length, Hl.out, hN64])
      clear htk hN64
      go_wp2_with (first | ((with_reducible apply wpl_toSt (texts l) (hS := Try.underlying43) (he := Try.underlying5) (hT := Try.underlying9)); exact rfl; exact Hl1.out; exact hsl))
      go_ret
      exact ⟨rfl, hF.below⟩

set_option maxHeartbeats 2000000 in
theorem refText (l : List UInt8) (hl : l.length = 32) (w : World) :
    Calls Try.prog 34 #[agg l] w fun e w' => e = .returned (St (texts l)) ∧ Below w.heap.size w w' := by
  have hF := Fr.start w
  have Hl := Lib.hid hl
  clear hl
  go_enter Try.func34, Try.ntmps34
  go_wp2_with (first | ((with_reducible apply wpl_box (x := Operand.tmp 0) hF); exact rfl; clear hF; intro bi _ hF))
  go_loopw [4, 5] (fun v t wr => ∃ (i : Nat), i ≤ 32 ∧ t = .int .i64 i ∧ v = St (texts (l.take i)) ∧ Fr w wr [⟨bi, bs l, 29⟩]) (fun _ t _ => (32 - intOf t).toNat)
  case atStart => exact ⟨0, by omega, rfl, rfl, hF⟩
  case round =>
    clear hF
    obtain ⟨i, hi, rfl, rfl, hF⟩ := hrel
    by_cases hlt : i < 32
    · have d1 : (0 : Int) ≤ (i : Int) := by omega
      have d2 : (i : Int) < 32 := by omega
      have hx := (gb l i).toNat_lt
      have hb := texts_length (l.take i)
      have hb2 := List.length_take_le 32 l
      have Hlen : Hid ((texts (l.take i)).length ≤ 64) := Lib.hid (by rw [texts_length, List.length_take]; omega)
      have q1 : (gb l i).toNat / 16 < 16 := by omega
      have q2 : (gb l i).toNat % 16 < 16 := by omega
      clear hb hb2
      go_wp2_with (first | fail)
      ((refine wp_region_fr (by kernel_rfl) (by kernel_rfl) hF ?_); clear hF)
      repeat (first | ((with_reducible apply wq_move); (focus (simp only [Act.eval, Array.getD_eq_getD_getElem?, List.getElem?_toArray, List.getElem?_cons_succ, List.getElem?_cons_zero, Option.getD_some, List.map_toArray, List.map_cons, List.map_nil] <;> exact rfl)); simp only [Act.put, List.setIfInBounds_toArray, List.set_cons_succ, List.set_cons_zero, Int.toNat_natCast]) | ((with_reducible apply wq_assign); (focus (simp only [Act.eval, Array.getD_eq_getD_getElem?, List.getElem?_toArray, List.getElem?_cons_succ, List.getElem?_cons_zero, Option.getD_some, List.map_toArray, List.map_cons, List.map_nil] <;> exact rfl)); simp only [Act.put, List.setIfInBounds_toArray, List.set_cons_succ, List.set_cons_zero, Int.toNat_natCast]) | ((with_reducible apply wq_idxA (T := 29) (hu := Try.underlying29) (he := info_u8_)); exact rfl; exact rfl; (focus omega); (focus omega); simp only [Act.put, List.setIfInBounds_toArray, List.set_cons_succ, List.set_cons_zero, Int.toNat_natCast]) | ((with_reducible apply wq_loadV (T := 5) (hu := Try.underlying5)); exact rfl; (first | exact ⟨0, rfl⟩ | exact ⟨1, rfl⟩ | exact ⟨2, rfl⟩ | exact ⟨3, rfl⟩ | exact ⟨4, rfl⟩ | exact ⟨5, rfl⟩ | exact ⟨6, rfl⟩); exact bs_getB (by rw [Hl.out]; omega); simp only [Act.put, List.setIfInBounds_toArray, List.set_cons_succ, List.set_cons_zero, Int.toNat_natCast]) | ((with_reducible apply wq_quo16); exact rfl; exact rfl; simp only [Act.put, List.setIfInBounds_toArray, List.set_cons_succ, List.set_cons_zero, Int.toNat_natCast]) | ((with_reducible apply wq_rem16); exact rfl; exact rfl; simp only [Act.put, List.setIfInBounds_toArray, List.set_cons_succ, List.set_cons_zero, Int.toNat_natCast]) | ((with_reducible apply wq_addI); exact rfl; exact rfl; (focus omega); simp only [Act.put, List.setIfInBounds_toArray, List.set_cons_succ, List.set_cons_zero, Int.toNat_natCast]) | ((with_reducible apply wq_subI); exact rfl; exact rfl; (focus omega); simp only [Act.put, List.setIfInBounds_toArray, List.set_cons_succ, List.set_cons_zero, Int.toNat_natCast]) | ((with_reducible apply wq_mulI); exact rfl; exact rfl; (focus omega); simp only [Act.put, List.setIfInBounds_toArray, List.set_cons_succ, List.set_cons_zero, Int.toNat_natCast]) | ((with_reducible refine wq_unguard ?_ ?_); (focus (go_simp; done))) | ((with_reducible refine wq_skip ?_ ?_); (focus (go_simp; done)); simp only [Act.put, List.setIfInBounds_toArray, List.set_cons_succ, List.set_cons_zero]) | ((with_reducible refine wq_skip_none ?_ ?_); (focus (go_simp; done)); simp only [Act.put, List.setIfInBounds_toArray, List.set_cons_succ, List.set_cons_zero]))
      ((refine wpQuiet_nil ?_); intro _ hF)
      go_wp2_with (first | fail)
      ((refine wp_region_fr (by kernel_rfl) (by kernel_rfl) hF ?_); clear hF)
      repeat (first | ((with_reducible apply wq_move); (focus (simp only [Act.eval, Array.getD_eq_getD_getElem?, List.getElem?_toArray, List.getElem?_cons_succ, List.getElem?_cons_zero, Option.getD_some, List.map_toArray, List.map_cons, List.map_nil] <;> exact rfl)); simp only [Act.put, List.setIfInBounds_toArray, List.set_cons_succ, List.set_cons_zero, Int.toNat_natCast]) | ((with_reducible apply wq_assign); (focus (simp only [Act.eval, Array.getD_eq_getD_getElem?, List.getElem?_toArray, List.getElem?_cons_succ, List.getElem?_cons_zero, Option.getD_some, List.map_toArray, List.map_cons, List.map_nil] <;> exact rfl)); simp only [Act.put, List.setIfInBounds_toArray, List.set_cons_succ, List.set_cons_zero, Int.toNat_natCast]) | ((with_reducible apply wq_addU8 (n := 1)); exact rfl; exact rfl; (focus omega); simp only [Act.put, List.setIfInBounds_toArray, List.set_cons_succ, List.set_cons_zero, Int.toNat_natCast]) | ((with_reducible apply wq_sliceSt (l := digits) (hT := Try.underlying9)); exact rfl; exact rfl; exact rfl; (focus omega); (focus omega); (focus (simp only [digits, List.length_cons, List.length_nil] <;> omega)); simp only [Act.put, List.setIfInBounds_toArray, List.set_cons_succ, List.set_cons_zero, Int.toNat_natCast]) | ((with_reducible apply wq_addSt (hT := Try.underlying9)); exact rfl; exact rfl; (focus (have h0 := Hlen.out; simp only [List.length_append, List.length_take, List.length_drop] <;> omega)); simp only [Act.put, List.setIfInBounds_toArray, List.set_cons_succ, List.set_cons_zero, Int.toNat_natCast]) | ((with_reducible apply wq_addI); exact rfl; exact rfl; (focus omega); simp only [Act.put, List.setIfInBounds_toArray, List.set_cons_succ, List.set_cons_zero, Int.toNat_natCast]) | ((with_reducible apply wq_subI); exact rfl; exact rfl; (focus omega); simp only [Act.put, List.setIfInBounds_toArray, List.set_cons_succ, List.set_cons_zero, Int.toNat_natCast]) | ((with_reducible apply wq_mulI); exact rfl; exact rfl; (focus omega); simp only [Act.put, List.setIfInBounds_toArray, List.set_cons_succ, List.set_cons_zero, Int.toNat_natCast]) | ((with_reducible refine wq_unguard ?_ ?_); (focus (go_simp; done))) | ((with_reducible refine wq_skip ?_ ?_); (focus (go_simp; done)); simp only [Act.put, List.setIfInBounds_toArray, List.set_cons_succ, List.set_cons_zero]) | ((with_reducible refine wq_skip_none ?_ ?_); (focus (go_simp; done)); simp only [Act.put, List.setIfInBounds_toArray, List.set_cons_succ, List.set_cons_zero]))
      ((refine wpQuiet_nil ?_); intro _ hF)
      have hcut : ∀ k, k < 16 → (digits.drop k).take (k + 1 - k) = [gb digits k] := by decide
      have htt := texts_take l i (by rw [Hl.out]; exact hlt)
      have Hcut : Hid (texts (l.take i) ++ (digits.drop ((gb l i).toNat / 16)).take ((gb l i).toNat / 16 + 1 - (gb l i).toNat / 16) ++ (digits.drop ((gb l i).toNat % 16)).take ((gb l i).toNat % 16 + 1 - (gb l i).toNat % 16) = texts (l.take (i + 1))) := Lib.hid (by rw [hcut _ q1, hcut _ q2, htt, List.append_assoc]; rfl)
      clear hcut htt
      go_wp2_with (first | fail)
      go_roundw
      case rel => exact ⟨i + 1, by omega, by go_num, by rw [← Hcut.out], hF⟩
      case measure => simp [intOf]; omega
    · obtain rfl : i = 32 := by omega
      have htk : l.take 32 = l := List.take_of_length_le (by rw [Hl.out]; omega)
      have Htk := Lib.hid htk
      clear htk
      go_wp2_with (first | fail)
      go_ret
      exact ⟨by rw [Htk.out]; rfl, hF.below⟩
end Go.Proofs.Ytnocldlfmkmiaaa
