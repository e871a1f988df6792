/-
  THE WALK of ots' digits.
-/
import Derived.Test.YtbnjgldilckhpaaDig1
import Derived.Test.YtbnjgldilckhpaaKey
namespace Go.Proofs.Ytbnjgldilckhpaa
set_option linter.unusedSimpArgs false
set_option linter.unusedVariables false
open Go.RowKit
attribute [local irreducible] wpQuiet Calls wpLine
set_option maxRecDepth 4000

theorem zero133 : ∀ w, (zeroValue 64).run Try.prog w = .ok (.agg (List.replicate 133 (.int .i64 0)).toArray) w := (zero_of_info (n := 133) (by kernel_rfl)).1
theorem info_133 {cs : List Value} (h : cs.length = 133) : (Try.prog.info? 64).map (·.size) = some cs.length := by
  rw [h]
  kernel_rfl

set_option maxHeartbeats 4000000 in
theorem digitsK (nm : List UInt8) (hnm : nm.length = 16) (q : Int) (h0 : -9223372036854775808 ≤ q) (h1 : q ≤ 9223372036854775807) (c : List UInt8) (hc : c.length = 32) (msg : List UInt8) (pm : Option Addr) (lm cm : Nat) (hm : msg.length = lm) (hlim : lm ≤ 1000000) {w : World} (hsm : Sl w pm (bs msg)) :
    Calls Try.prog 37 #[keyv nm q, agg c, .slice pm lm cm] w fun e w' => e = .returned (.agg (ii (digOf nm q c msg) 133).toArray) ∧ Below w.heap.size w w' := by
  have hF := Fr.start w
  have Hnm := Lib.hid hnm
  have Hq := Lib.hid (And.intro h0 h1)
  have Hc := Lib.hid hc
  have Hm := Lib.hid hm
  have Hsm := Lib.hid hsm
  obtain ⟨hh, hhh⟩ : ∃ hh, hash (headOf nm q ++ two 33153 ++ c ++ msg) = hh := ⟨_, rfl⟩
  have Hhh := Lib.hid hhh
  have Hhl := Lib.hid (show hh.length = 32 by rw [← hhh]; exact hash_length _)
  obtain ⟨f, hf⟩ : ∃ f, digOf nm q c msg = f := ⟨_, rfl⟩
  have Hf := Lib.hid (show ∀ i, dig (withSum hh) i = f i by intro i; rw [← hf, ← hhh]; rfl)
  rw [hf]
  clear hf hhh hnm h0 h1 hc hm hsm
  go_enter Try.func37, Try.ntmps37
  go_wp2_with (first | ((with_reducible apply wpl_box (x := Operand.tmp 0) (cs := keyc nm q) hF); exact rfl; clear hF; intro bk _ hF) | ((with_reducible apply wpl_box (x := Operand.tmp 1) hF); exact rfl; clear hF; intro bc _ hF) | ((with_reducible refine wpl_alloc (dst := some 6) hF (List.replicate 133 (.int .i64 0)) (T := 64) (hz := zero133) ?_ ?_); exact rfl; clear hF; intro bo _ hF))
  ((refine wp_region_line ([⟨bk, keyc nm q, 55⟩, ⟨bc, bs c, 24⟩]) ([⟨bo, List.replicate 133 (.int .i64 0), 64⟩]) [0, 2, 4] ([ln 1, ln 3, ln 5, fl 6 (bs zeros) 24 (fun b => .pointer (some ⟨b, 0, none⟩)), ln 7]) (by kernel_rfl) (by kernel_rfl) hF ?_); clear hF; (simp only [planOf, List.filterMap_cons, List.filterMap_nil, List.getElem?_toArray, List.getElem?_cons_succ, List.getElem?_cons_zero, Option.map_some]))
  repeat (first | ((with_reducible apply wq_move); (focus (simp only [Act.eval, Array.getD_eq_getD_getElem?, List.getElem?_toArray, List.getElem?_cons_succ, List.getElem?_cons_zero, Option.getD_some, List.map_toArray, List.map_cons, List.map_nil] <;> exact rfl)); simp only [Act.put, List.setIfInBounds_toArray, List.set_cons_succ, List.set_cons_zero]) | ((with_reducible apply wq_loadD (T := 55) (hu := Try.underlying55)); exact rfl; (first | exact ⟨0, rfl⟩ | exact ⟨1, rfl⟩ | exact ⟨2, rfl⟩ | exact ⟨3, rfl⟩ | exact ⟨4, rfl⟩ | exact ⟨5, rfl⟩ | exact ⟨6, rfl⟩ | exact ⟨7, rfl⟩ | exact ⟨8, rfl⟩ | exact ⟨9, rfl⟩ | exact ⟨10, rfl⟩ | exact ⟨11, rfl⟩); exact info_key Hnm.out q; simp only [Act.put, List.setIfInBounds_toArray, List.set_cons_succ, List.set_cons_zero]) | ((with_reducible apply wq_sliceA (T := 24) (hu := Try.underlying24) (he := info_u8_)); exact rfl; simp only [Act.put, List.setIfInBounds_toArray, List.set_cons_succ, List.set_cons_zero]))
  refine wpQuiet_nil ?_
  (refine And.intro ?_ ?_; (focus (repeat (first | (with_reducible exact FOK.nil) | (with_reducible refine FOK.ln ?_) | (with_reducible refine FOK.tk ?_) | (with_reducible refine FOK.fl ?_ ?_; (focus (exact fstep_alloc Try.zeroValue24 rfl)))))))
  ((with_reducible apply wpLine_made (f := 50) (hc := Try.call50)); exact wanted_plain; (focus (simp only [Act.eval, Array.getD_eq_getD_getElem?, List.getElem?_toArray, List.getElem?_cons_succ, List.getElem?_cons_zero, Option.getD_some, List.map_toArray, List.map_cons, List.map_nil] <;> exact rfl)); intro _ _ hw; refine (headK nm Hnm.out q 33153 Hq.out.1 Hq.out.2 (by omega) (by omega) _).mono ?_; clear hw; rintro _ _ ⟨b1, c1, t1, rfl, hc1, hm⟩; refine ⟨_, _, rfl, hm, ?_⟩; clear hm; have H1 := Lib.hid hc1; clear hc1; (simp only [Act.put, List.setIfInBounds_toArray, List.set_cons_succ, List.set_cons_zero, List.cons_append, List.nil_append, ← bs_append]))
  ((with_reducible apply wpLine_append 1 (bs (headOf nm q ++ two 33153)) (t1) (bs c) (ht := Try.underlying28) (he := byteElem)); exact wanted_plain; exact rfl; exact rfl; (focus (simp [bs_length, headOf_length Hnm.out, two_length, Hc.out])); (focus exact H1.out); exact rfl; (focus (simp [bs_length, headOf_length Hnm.out, two_length, Hc.out])); (focus (intro _ _ hw; exact Sl.whole hw ⟨1, rfl⟩)); exact bs_oneCell _; (focus omega); (focus (unfold maxLen; omega)); (intro b2 c2 t2 hc2); have H2 := Lib.hid hc2; clear hc2; (simp only [Act.put, List.setIfInBounds_toArray, List.set_cons_succ, List.set_cons_zero, List.cons_append, List.nil_append, ← bs_append]))
  ((with_reducible apply wpLine_callp (f := 54) (hc := Try.call54)); exact wanted_plain; (focus (simp only [Act.eval, Array.getD_eq_getD_getElem?, List.getElem?_toArray, List.getElem?_cons_succ, List.getElem?_cons_zero, Option.getD_some, List.map_toArray, List.map_cons, List.map_nil] <;> exact rfl)); (focus (intro _ _ hw; exact pair_ (headOf nm q ++ two 33153 ++ c) msg _ _ _ _ _ _ (by simp [headOf_length Hnm.out, two_length, Hc.out]) Hm.out _ (Sl.pre hw ⟨3, rfl⟩) (Hsm.out.fr hw) (by omega))); (simp only [Act.put, List.setIfInBounds_toArray, List.set_cons_succ, List.set_cons_zero, List.cons_append, List.nil_append, ← bs_append]))
  rw [Hhh.out]
  refine wpLine_float fun bh => ?_
  (simp only [Act.put, List.setIfInBounds_toArray, List.set_cons_succ, List.set_cons_zero, List.cons_append, List.nil_append, ← bs_append])
  ((with_reducible apply wpLine_store 2 (T := 24)); exact wanted_plain; exact rfl; exact rfl; exact rfl; exact info_idl Hhl.out; (focus (simp only [bs_length, zeros_length, Hhl.out])); exact bs_oneCell _; (simp only [Act.put, List.setIfInBounds_toArray, List.set_cons_succ, List.set_cons_zero, List.cons_append, List.nil_append, ← bs_append]))
  ((refine wpLine_nil ?_); intro wl hF)
  have hF1 : Fr w wl [⟨bo, List.replicate 133 (.int .i64 0), 64⟩, ⟨bh, bs hh, 24⟩] := hF.sub (List.Sublist.cons _ (List.Sublist.cons _ (List.Sublist.cons_cons _ (List.Sublist.cons _ (List.Sublist.refl _)))))
  clear hF
  have hF := hF1
  clear hF1
  go_wp2_with (first | ((with_reducible apply wpl_make hF (ht := Try.underlying28) (he := byteElem) (n := 32) (c := 34)); exact rfl; exact rfl; (focus omega); (focus omega); (focus omega); (focus omega); clear hF; intro g _ hF; rw [bs_replicate] at hF) | ((with_reducible apply wpl_sliceA (T := 24) (hu := Try.underlying24) (he := info_u8_)); exact rfl) | ((with_reducible apply wpl_copy (dst := some 24) hF 2 0 (bs hh) (hu := Try.underlying28) (hsz := info_u8_)); exact rfl; exact rfl; exact rfl; (focus (simp [bs_length, Hhl.out])); (focus (exact rfl)); (focus (exact Sl.whole hF ⟨1, rfl⟩)); (focus (simp [bs_length, Hhl.out])); exact bs_oneCell _; clear hF; intro _ hF; rw [bs_splice] at hF))
  have e1 : splice (List.replicate (34 : Int).toNat 0) 0 hh = hh ++ [0, 0] := by
    have := Hhl.out
    simp [splice, this]
  rw [e1] at hF
  clear e1
  go_loopw [9, 27] (fun u v wr => ∃ k : Nat, k ≤ 32 ∧ v = .int .i64 (k : Int) ∧ u = .int .i64 ((sumTo hh (4 * k) : Nat) : Int) ∧ Fr w wr [⟨bo, List.replicate 133 (.int .i64 0), 64⟩, ⟨bh, bs hh, 24⟩, ⟨g, bs (hh ++ [0, 0]), 5⟩]) (fun _ v _ => (32 - intOf v).toNat)
  case atStart => exact ⟨0, by omega, rfl, rfl, hF⟩
  case round =>
    clear hF
    obtain ⟨k, hk, rfl, rfl, hF⟩ := hrel
    have k0 : (0 : Int) ≤ (k : Int) := by omega
    by_cases hlt : k < 32
    · have d1 : (k : Int) < 32 := by omega
      have hgk : gb (hh ++ [0, 0]) k = gb hh k := by
        have := Hhl.out
        simp [gb, List.getD, List.getElem?_append_left (show k < hh.length by omega)]
      obtain ⟨x, hx⟩ : ∃ x, gb hh k = x := ⟨_, rfl⟩
      rw [hx] at hgk
      have Hxx := Lib.hid hx
      clear hx
      obtain ⟨sm, hsm⟩ : ∃ sm, sumTo hh (4 * k) = sm := ⟨_, rfl⟩
      have hsle : sm ≤ 3 * (4 * k) := by rw [← hsm]; exact sumTo_le _ _
      have Hsum := Lib.hid hsm
      rw [hsm]
      clear hsm
      have Hl34 := Lib.hid (show (hh ++ [0, 0] : List UInt8).length = 34 by have := Hhl.out; simp [this])
      have Hgk := Lib.hid hgk
      clear hgk
      go_wp2_with (first | ((with_reducible apply wpl_idxS (T := 28) (hu := Try.underlying28) (he := info_u8_)); exact rfl; exact rfl; (focus omega); (focus omega); rw [Int.toNat_natCast, Nat.zero_add]) | ((with_reducible apply wpl_loadB hF (T := 5) (hu := Try.underlying5)); exact rfl; (first | exact ⟨0, rfl⟩ | exact ⟨1, rfl⟩ | exact ⟨2, rfl⟩ | exact ⟨3, rfl⟩ | exact ⟨4, rfl⟩ | exact ⟨5, rfl⟩ | exact ⟨6, rfl⟩ | exact ⟨7, rfl⟩ | exact ⟨8, rfl⟩ | exact ⟨9, rfl⟩ | exact ⟨10, rfl⟩ | exact ⟨11, rfl⟩); (focus (rw [Hl34.out]; omega)); rw [Hgk.out]))
      go_loopw [9, 31] (fun u v wr => ∃ s : Nat, s ≤ 4 ∧ v = .int .i64 (s : Int) ∧ u = .int .i64 ((sm + partS x s : Nat) : Int) ∧ Fr w wr [⟨bo, List.replicate 133 (.int .i64 0), 64⟩, ⟨bh, bs hh, 24⟩, ⟨g, bs (hh ++ [0, 0]), 5⟩]) (fun _ v _ => (4 - intOf v).toNat)
      case atStart => exact ⟨0, by omega, rfl, rfl, hF⟩
      case round =>
        clear hF
        obtain ⟨s, hs, rfl, rfl, hF⟩ := hrel
        have s0 : (0 : Int) ≤ (s : Int) := by omega
        by_cases hls : s < 4
        · have f1 : (s : Int) < 4 := by omega
          have f2 : (2 * (s : Int)).toNat = 2 * s := by omega
          obtain ⟨d, hd⟩ : ∃ d, (low2 (shrB x (2 * s))).toNat = d := ⟨_, rfl⟩
          have d3 : d ≤ 3 := by rw [← hd, low2_toNat]; omega
          have hps := partS_le x s
          obtain ⟨p, hp⟩ : ∃ p, partS x s = p := ⟨_, rfl⟩
          have Hp := Lib.hid hp
          have hnext : sm + partS x (s + 1) = sm + p + (3 - d) := by rw [partS, hp, hd]; omega
          have Hnext := Lib.hid hnext
          rw [hp] at hps
          rw [hp]
          clear hp hnext
          go_wp2_with (first | ((with_reducible apply wpl_shrB); exact rfl; exact rfl; (focus omega); (focus omega)) | ((with_reducible apply wpl_and3); exact rfl; exact rfl))
          go_roundw
          case rel => exact ⟨s + 1, by omega, by go_num, by rw [Hnext.out]; congr 1; omega, hF⟩
          case measure => simp [intOf]; omega
        · obtain rfl : s = 4 := by omega
          go_wp2_with (first | fail)
          go_roundw
          case rel => exact ⟨k + 1, by omega, by go_num, by rw [sumTo_four, Hsum.out, Hxx.out], hF⟩
          case measure => simp [intOf]; omega
    · obtain rfl : k = 32 := by omega
      obtain ⟨sm, hsm⟩ : ∃ sm, sumTo hh (4 * 32) = sm := ⟨_, rfl⟩
      have hsle : sm ≤ 3 * (4 * 32) := by rw [← hsm]; exact sumTo_le _ _
      have Hchk := Lib.hid (show two ((sm : Int) * 64) = two (chk hh) by rw [← hsm, chk, Int.mul_comm])
      rw [hsm]
      clear hsm
      rw [bs_append hh] at hF
      have Hbl := Lib.hid (show (bs hh).length = 32 by rw [bs_length]; exact Hhl.out)
      go_wp2_with (first | ((with_reducible apply wpl_push hF 2 (bs hh) (bs [0, 0]) (bs (two ((sm : Int) * 64))) (ht := Try.underlying28) (he := byteElem)); (focus (intro _; exact rfl)); (focus exact rfl); (focus (intro _; exact rfl)); (focus (exact Hbl.out)); (focus (exact rfl)); (focus (first | exact rfl | kernel_rfl)); exact rfl; (focus omega); exact bs_oneCell _; (focus omega); (focus (unfold maxLen; omega)); clear hF; intro b3 c3 t3 _ w3 hc3 hF; have H3 := Lib.hid hc3; clear hc3) | ((with_reducible refine wpl_alloc (dst := some 13) hF (List.replicate 133 (.int .i64 0)) (T := 64) (hz := zero133) ?_ ?_); exact rfl; clear hF; intro ba _ hF))
      simp only [Hchk.out, ← bs_append, List.set_cons_succ, List.set_cons_zero, List.cons_append, List.nil_append] at hF
      rw [← laidI_zero f] at hF
      have hF1 := hF
      clear hF
      have Hws := Lib.hid (withSum_length Hhl.out)
      obtain ⟨ws', hws⟩ : ∃ x, withSum hh = x := ⟨_, rfl⟩
      have Hw2 := Lib.hid (show hh ++ two (chk hh) = ws' from hws)
      rw [hws] at Hf Hws
      clear hws
      rw [Hw2.out] at hF1
      obtain ⟨wo, hwo⟩ : ∃ wo : World, wo = wr := ⟨_, rfl⟩
      clear hwo
      go_loopw [55] (fun v wr => ∃ i : Nat, i ≤ 133 ∧ v = .int .i64 (i : Int) ∧ Fr w wr [⟨bo, laidI f 0 133, 64⟩, ⟨bh, bs hh, 24⟩, ⟨b3, bs ws' ++ t3, 5⟩, ⟨ba, laidI f i 133, 64⟩]) (fun v _ => (133 - intOf v).toNat)
      case atStart => exact ⟨0, by omega, rfl, hF1⟩
      case round =>
        clear hF1
        obtain ⟨i, hi, rfl, hF⟩ := hrel
        have i0 : (0 : Int) ≤ (i : Int) := by omega
        by_cases hlt2 : i < 133
        · have g1 : (i : Int) < 133 := by omega
          have g2 : (0 : Int) ≤ (i : Int) / 4 := by omega
          have g3 : (i : Int) / 4 < 34 := by omega
          have g4 : ((i : Int) / 4).toNat = i / 4 := by omega
          have g5 : (6 - 2 * ((i : Int) % 4)).toNat = 6 - 2 * (i % 4) := by omega
          have g6 : (0 : Int) ≤ (i : Int) % 4 := by omega
          have g7 : (i : Int) % 4 < 4 := by omega
          have hcell : (bs ws' ++ t3)[i / 4]? = some (B (gb ws' (i / 4))) := (List.getElem?_append_left (by rw [bs_length, Hws.out]; omega)).trans (bs_get (by rw [Hws.out]; omega))
          obtain ⟨x, hx⟩ : ∃ x, gb ws' (i / 4) = x := ⟨_, rfl⟩
          obtain ⟨d, hd⟩ : ∃ d, (low2 (shrB x (6 - 2 * (i % 4)))).toNat = d := ⟨_, rfl⟩
          have Hd := Lib.hid (show d = f i by rw [← hd, ← hx, dig_low2]; exact Hf.out i)
          rw [hx] at hcell
          have Hcell := Lib.hid hcell
          clear hx hcell
          have Hlen := Lib.hid (laidI_length f hi)
          have Hget := Lib.hid (laidI_get f hlt2)
          go_wp2_with (first | ((with_reducible apply wpl_idxS (T := 28) (hu := Try.underlying28) (he := info_u8_)); exact rfl; exact rfl; (focus omega); (focus omega); rw [g4, Nat.zero_add]) | ((with_reducible apply wpl_loadV hF (T := 5) (hu := Try.underlying5)); exact rfl; (first | exact ⟨0, rfl⟩ | exact ⟨1, rfl⟩ | exact ⟨2, rfl⟩ | exact ⟨3, rfl⟩ | exact ⟨4, rfl⟩ | exact ⟨5, rfl⟩ | exact ⟨6, rfl⟩ | exact ⟨7, rfl⟩ | exact ⟨8, rfl⟩ | exact ⟨9, rfl⟩ | exact ⟨10, rfl⟩ | exact ⟨11, rfl⟩); exact Hcell.out) | ((with_reducible apply wpl_shrB); exact rfl; exact rfl; (focus omega); (focus omega); rw [g5]) | ((with_reducible apply wpl_and3); exact rfl; exact rfl) | ((with_reducible apply wpl_idxA (T := 64) (hu := Try.underlying64) (he := info_int_)); exact rfl; exact rfl; (focus omega); (focus omega); rw [Int.toNat_natCast]) | ((with_reducible apply wpl_storeV hF 3 (T := 3)); exact rfl; exact rfl; exact rfl; exact info_int_; exact Hget.out; exact rfl; clear hF; intro w2 hF))
          have hF2 : Fr w w2 [⟨bo, laidI f 0 133, 64⟩, ⟨bh, bs hh, 24⟩, ⟨b3, bs ws' ++ t3, 5⟩, ⟨ba, laidI f (i + 1) 133, 64⟩] := by
            rw [← laidI_set f hlt2, ← Hd.out]
            exact hF
          refine ⟨⟨i + 1, by omega, by go_num, hF2⟩, by simp [intOf]; omega⟩
        · obtain rfl : i = 133 := by omega
          rw [laidI_all] at hF
          go_wp2_with (first | ((with_reducible apply wpl_load hF (T := 64) (hu := Try.underlying64)); exact rfl; (first | exact ⟨0, rfl⟩ | exact ⟨1, rfl⟩ | exact ⟨2, rfl⟩ | exact ⟨3, rfl⟩ | exact ⟨4, rfl⟩ | exact ⟨5, rfl⟩ | exact ⟨6, rfl⟩ | exact ⟨7, rfl⟩ | exact ⟨8, rfl⟩ | exact ⟨9, rfl⟩ | exact ⟨10, rfl⟩ | exact ⟨11, rfl⟩); exact info_133 (ii_length f 133)) | ((with_reducible apply wpl_store hF 0 (T := 64)); exact rfl; exact rfl; exact rfl; exact info_133 (ii_length f 133); (focus (rw [laidI_length f (by omega), ii_length])); exact ii_one f 133; clear hF; intro _ hF))
          exact post_row hF rfl rfl rfl ⟨0, rfl⟩ Try.underlying64 (info_133 (ii_length f 133)) ⟨rfl, hF.below⟩
end Go.Proofs.Ytbnjgldilckhpaa
