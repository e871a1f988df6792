/-
  THE WALK of latticeref5.Public.
-/
import Derived.Test.YtbnjgldilckhpaaEnds
namespace Go.Proofs.Ytbnjgldilckhpaa
set_option linter.unusedSimpArgs false
set_option linter.unusedVariables false
open Go.RowKit
attribute [local irreducible] wpQuiet Calls wpLine
set_option maxRecDepth 4000

set_option maxHeartbeats 4000000 in
theorem refPublic (nm : List UInt8) (hnm : nm.length = 16) (q : Int) (h0 : -9223372036854775808 ≤ q) (h1 : q ≤ 9223372036854775807) (seed : List UInt8) (hs : seed.length = 32) (w : World) :
    Calls Try.prog 16 #[agg nm, .int .i64 q, agg seed] w fun e w' => e = .returned (agg (pubOf nm q seed)) ∧ Below w.heap.size w w' := by
  have hF := Fr.start w
  have Hnm := Lib.hid hnm
  have Hq := Lib.hid (And.intro h0 h1)
  have Hs := Lib.hid hs
  obtain ⟨Y, hY⟩ : ∃ Y, Y = fun i : Nat => chain nm q i 0 (secOf nm q seed i) 3 := ⟨_, rfl⟩
  have HY := Lib.hid (show ∀ i, (Y i).length = 32 by rw [hY]; exact fun i => chain_length (hashOf_length _ _ _ _ _) 3)
  obtain ⟨z, hz⟩ : ∃ z, pubOf nm q seed = z := ⟨_, rfl⟩
  have Hz := Lib.hid (show hash (headOf nm q ++ two 32896 ++ joinY Y 133) = z by rw [hY]; exact hz)
  have Hzl := Lib.hid (show z.length = 32 by rw [← hz]; exact hash_length _)
  have HYe := Lib.hid hY
  rw [hz]
  clear hz hnm h0 h1 hs hY
  go_enter Try.func16, Try.ntmps16
  go_wp2_with (first | ((with_reducible apply wpl_box (x := Operand.tmp 0) hF); exact rfl; clear hF; intro bn _ hF) | ((with_reducible apply wpl_box (x := Operand.tmp 2) hF); exact rfl; clear hF; intro bd _ hF) | ((with_reducible refine wpl_alloc (dst := some 6) hF (bs zeros) (T := 24) (hz := Try.zeroValue24) ?_ ?_); exact rfl; clear hF; intro bo _ hF) | ((with_reducible apply wpl_load hF (T := 22) (hu := Try.underlying22)); exact rfl; (first | exact ⟨0, rfl⟩ | exact ⟨1, rfl⟩ | exact ⟨2, rfl⟩ | exact ⟨3, rfl⟩ | exact ⟨4, rfl⟩ | exact ⟨5, rfl⟩ | exact ⟨6, rfl⟩ | exact ⟨7, rfl⟩ | exact ⟨8, rfl⟩ | exact ⟨9, rfl⟩ | exact ⟨10, rfl⟩ | exact ⟨11, rfl⟩); exact info_nm Hnm.out) | (go_at_call 33; refine (head5 nm Hnm.out q Hq.out.1 Hq.out.2 _).mono ?_; rintro _ _ ⟨b1, c1, t1, rfl, hc1, hm⟩; replace hF := hF.took hm; clear hm; have H1 := Lib.hid hc1; clear hc1) | ((with_reducible apply wpl_push hF 3 (bs (headOf nm q)) (t1) (bs (two 32896)) (ht := Try.underlying28) (he := byteElem)); (focus (intro _; exact rfl)); (focus exact rfl); (focus (intro _; exact rfl)); (focus (rw [bs_length, headOf_length Hnm.out])); (focus (exact H1.out)); (focus (first | exact rfl | kernel_rfl)); exact rfl; (focus omega); exact bs_oneCell _; (focus omega); (focus (unfold maxLen; omega)); clear hF; intro b2 c2 t2 _ w2 hc2 hF; have H2 := Lib.hid hc2; clear hc2))
  have hF0 : Fr w w2 [⟨bn, bs nm, 22⟩, ⟨bd, bs seed, 24⟩, ⟨bo, bs zeros, 24⟩, ⟨b2, bs (headOf nm q ++ two 32896 ++ joinY Y 0) ++ t2, 5⟩] := by
    rw [joinY, List.append_nil, bs_append]
    exact hF
  clear hF
  go_loopw [7, 8] (fun u v wr => ∃ (m b c : Nat) (tt : List Value), m ≤ 133 ∧ v = .int .i64 (m : Int) ∧ u = .slice (some ⟨b, 0, none⟩) (22 + 32 * m) c ∧ c = 22 + 32 * m + tt.length ∧ Fr w wr [⟨bn, bs nm, 22⟩, ⟨bd, bs seed, 24⟩, ⟨bo, bs zeros, 24⟩, ⟨b, bs (headOf nm q ++ two 32896 ++ joinY Y m) ++ tt, 5⟩]) (fun _ v _ => (133 - intOf v).toNat)
  case atStart => exact ⟨0, b2, c2, t2, by omega, rfl, rfl, H2.out, hF0⟩
  case round =>
    clear hF0
    obtain ⟨m, b, c, tt, hm, rfl, rfl, hct, hF⟩ := hrel
    have Hct := Lib.hid hct
    clear hct
    have Hjl := Lib.hid (show (headOf nm q ++ two 32896 ++ joinY Y m).length = 22 + 32 * m by simp [headOf_length Hnm.out, two_length, joinY_length HY.out]; omega)
    by_cases hlt : m < 133
    · have d1 : (m : Int) < 133 := by omega
      obtain ⟨x, hx⟩ : ∃ x, secOf nm q seed m = x := ⟨_, rfl⟩
      have Hx := Lib.hid (show hashOf nm q (m : Int) 255 seed = x from hx)
      have Hxl := Lib.hid (show x.length = 32 by rw [← hx]; exact hash_length _)
      obtain ⟨y, hy⟩ : ∃ y, Y m = y := ⟨_, rfl⟩
      have Hy := Lib.hid (show chain nm q (m : Int) ((0 : Nat) : Int) x 3 = y by rw [← hy, HYe.out, ← hx]; rfl)
      have Hyy := Lib.hid hy
      have Hyl := Lib.hid (show y.length = 32 by rw [← hy]; exact HY.out m)
      clear hx hy
      go_wp2_with (first | fail)
      ((refine wp_region_line ([⟨bn, bs nm, 22⟩, ⟨bd, bs seed, 24⟩]) ([⟨bo, bs zeros, 24⟩, ⟨b, bs (headOf nm q ++ two 32896 ++ joinY Y m) ++ tt, 5⟩]) [0, 1, 2, 3, 4, 5, 6] ([ln 7, ln 8, fl 9 (bs zeros) 24 (fun b => .pointer (some ⟨b, 0, none⟩)), ln 10]) (by kernel_rfl) (by kernel_rfl) hF ?_); clear hF; (simp only [planOf, List.filterMap_cons, List.filterMap_nil, List.getElem?_toArray, List.getElem?_cons_succ, List.getElem?_cons_zero, Option.map_some]))
      repeat (first | ((with_reducible apply wq_move); (focus (simp only [Act.eval, Array.getD_eq_getD_getElem?, List.getElem?_toArray, List.getElem?_cons_succ, List.getElem?_cons_zero, Option.getD_some, List.map_toArray, List.map_cons, List.map_nil] <;> exact rfl)); simp only [Act.put, List.setIfInBounds_toArray, List.set_cons_succ, List.set_cons_zero]) | ((with_reducible apply wq_load (T := 22) (hu := Try.underlying22)); exact rfl; (first | exact ⟨0, rfl⟩ | exact ⟨1, rfl⟩ | exact ⟨2, rfl⟩ | exact ⟨3, rfl⟩ | exact ⟨4, rfl⟩ | exact ⟨5, rfl⟩ | exact ⟨6, rfl⟩ | exact ⟨7, rfl⟩ | exact ⟨8, rfl⟩ | exact ⟨9, rfl⟩ | exact ⟨10, rfl⟩ | exact ⟨11, rfl⟩); exact info_nm Hnm.out; simp only [Act.put, List.setIfInBounds_toArray, List.set_cons_succ, List.set_cons_zero]) | ((with_reducible apply wq_load (T := 24) (hu := Try.underlying24)); exact rfl; (first | exact ⟨0, rfl⟩ | exact ⟨1, rfl⟩ | exact ⟨2, rfl⟩ | exact ⟨3, rfl⟩ | exact ⟨4, rfl⟩ | exact ⟨5, rfl⟩ | exact ⟨6, rfl⟩ | exact ⟨7, rfl⟩ | exact ⟨8, rfl⟩ | exact ⟨9, rfl⟩ | exact ⟨10, rfl⟩ | exact ⟨11, rfl⟩); exact info_idl Hs.out; simp only [Act.put, List.setIfInBounds_toArray, List.set_cons_succ, List.set_cons_zero]))
      refine wpQuiet_nil ?_
      (refine And.intro ?_ ?_; (focus (repeat (first | (with_reducible exact FOK.nil) | (with_reducible refine FOK.ln ?_) | (with_reducible refine FOK.tk ?_) | (with_reducible refine FOK.fl ?_ ?_; (focus (exact fstep_alloc Try.zeroValue24 rfl)))))))
      ((with_reducible apply wpLine_callp (f := 35) (hc := Try.call35)); exact wanted_plain; (focus (simp only [Act.eval, Array.getD_eq_getD_getElem?, List.getElem?_toArray, List.getElem?_cons_succ, List.getElem?_cons_zero, Option.getD_some, List.map_toArray, List.map_cons, List.map_nil] <;> exact rfl)); (focus (intro _ _ hw; exact secret5 nm Hnm.out q Hq.out.1 Hq.out.2 (m : Int) (by omega) (by omega) seed Hs.out _)); (simp only [Act.put, List.setIfInBounds_toArray, List.set_cons_succ, List.set_cons_zero, List.cons_append, List.nil_append, ← bs_append]))
      rw [Hx.out]
      ((with_reducible apply wpLine_callp (f := 34) (hc := Try.call34)); exact wanted_plain; (focus (simp only [Act.eval, Array.getD_eq_getD_getElem?, List.getElem?_toArray, List.getElem?_cons_succ, List.getElem?_cons_zero, Option.getD_some, List.map_toArray, List.map_cons, List.map_nil] <;> exact rfl)); (focus (intro _ _ hw; exact walk5 nm Hnm.out q Hq.out.1 Hq.out.2 (m : Int) (by omega) (by omega) 0 3 3 rfl (by omega) x Hxl.out _)); (simp only [Act.put, List.setIfInBounds_toArray, List.set_cons_succ, List.set_cons_zero, List.cons_append, List.nil_append, ← bs_append]))
      rw [Hy.out]
      refine wpLine_float fun bt => ?_
      (simp only [Act.put, List.setIfInBounds_toArray, List.set_cons_succ, List.set_cons_zero, List.cons_append, List.nil_append, ← bs_append])
      ((with_reducible apply wpLine_store 2 (T := 24)); exact wanted_plain; exact rfl; exact rfl; exact rfl; exact info_idl Hyl.out; (focus (simp only [bs_length, zeros_length, Hyl.out])); exact bs_oneCell _; (simp only [Act.put, List.setIfInBounds_toArray, List.set_cons_succ, List.set_cons_zero, List.cons_append, List.nil_append, ← bs_append]))
      ((refine wpLine_nil ?_); intro wl hF)
      go_wp2_with (first | ((with_reducible apply wpl_sliceA (T := 24) (hu := Try.underlying24) (he := info_u8_)); exact rfl) | ((with_reducible apply wpl_append (dst := some 30) hF 3 (bs (headOf nm q ++ two 32896 ++ joinY Y m)) (tt) (bs y) (ht := Try.underlying28) (he := byteElem)); exact rfl; (focus exact rfl); (focus (rw [bs_length]; exact Hjl.out)); (focus (exact Hct.out)); exact rfl; (focus (rw [bs_length]; exact Hyl.out)); (focus (exact Sl.whole hF ⟨4, rfl⟩)); exact bs_oneCell _; (focus omega); (focus (unfold maxLen; omega)); clear hF; intro b3 c3 t3 w3 hc3 hF; have H3 := Lib.hid hc3; clear hc3))
      go_roundw
      case rel =>
        refine ⟨m + 1, b3, c3, t3, by omega, by go_num, rfl, H3.out, ?_⟩
        rw [joinY, ← List.append_assoc, bs_append _ (Y m), Hyy.out]
        exact hF.sub (List.sublist_append_left [_, _, _, _] _)
      case measure => simp [intOf]; omega
    · obtain rfl : m = 133 := by omega
      go_wp2_with (first | (go_at_call 36; refine (refSum (headOf nm q ++ two 32896 ++ joinY Y 133) _ _ _ Hjl.out _ (Sl.pre hF ⟨3, rfl⟩) (by omega)).mono ?_; rintro _ _ ⟨rfl, hb⟩; replace hF := hF.call hb; clear hb; rw [Hz.out]) | ((with_reducible apply wpl_store hF 2 (T := 24)); exact rfl; exact rfl; exact rfl; exact info_idl Hzl.out; (focus (simp only [bs_length, zeros_length, Hzl.out, Hzl.out])); exact bs_oneCell _; clear hF; intro _ hF))
      exact post_row hF rfl rfl rfl ⟨2, rfl⟩ Try.underlying24 (info_idl Hzl.out) ⟨rfl, hF.below⟩
end Go.Proofs.Ytbnjgldilckhpaa
