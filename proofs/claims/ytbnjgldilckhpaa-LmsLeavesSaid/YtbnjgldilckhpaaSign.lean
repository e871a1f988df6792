/-
  THE WALKS of ots.Sign and of latticeref5.Sign.
-/
import Derived.Test.YtbnjgldilckhpaaDig3
import Derived.Test.YtbnjgldilckhpaaEnds
namespace Go.Proofs.Ytbnjgldilckhpaa
set_option linter.unusedSimpArgs false
set_option linter.unusedVariables false
open Go.RowKit
attribute [local irreducible] wpQuiet Calls wpLine
set_option maxRecDepth 4000

def cOf (nm : List UInt8) (q : Int) (seed : List UInt8) : List UInt8 := hashOf nm q 65533 255 seed
def zOf (nm : List UInt8) (q : Int) (seed msg : List UInt8) (i : Nat) : List UInt8 := chain nm q i 0 (secOf nm q seed i) (digOf nm q (cOf nm q seed) msg i)
/-- The signature. -/
def sigOf (nm : List UInt8) (q : Int) (seed msg : List UInt8) : List UInt8 := [0, 0, 0, 2] ++ cOf nm q seed ++ joinY (zOf nm q seed msg) 133
theorem zOf_length (nm : List UInt8) (q : Int) (seed msg : List UInt8) (i : Nat) : (zOf nm q seed msg i).length = 32 := chain_length (hashOf_length _ _ _ _ _) _
theorem sigOf_length (nm : List UInt8) (q : Int) (seed msg : List UInt8) : (sigOf nm q seed msg).length = 4292 := by
  simp [sigOf, joinY_length (zOf_length nm q seed msg), cOf, hashOf_length]

def SignPost (nm : List UInt8) (q : Int) (seed msg : List UInt8) (w : World) (e : Ending) (w' : World) : Prop := ∃ b cap tail, e = .returned (.slice (some ⟨b, 0, none⟩) 4292 cap) ∧ cap = 4292 + List.length tail ∧ Made w w' ⟨b, bs (sigOf nm q seed msg) ++ tail, 5⟩

set_option maxHeartbeats 4000000 in
theorem signK (nm : List UInt8) (hnm : nm.length = 16) (q : Int) (h0 : -9223372036854775808 ≤ q) (h1 : q ≤ 9223372036854775807) (seed : List UInt8) (hs : seed.length = 32) (msg : List UInt8) (pm : Option Addr) (lm cm : Nat) (hm : msg.length = lm) (hlim : lm ≤ 1000000) {w : World} (hsm : Sl w pm (bs msg)) :
    Calls Try.prog 17 #[agg nm, .int .i64 q, agg seed, .slice pm lm cm] w (SignPost nm q seed msg w) := by
  have hF := Fr.start w
  have Hnm := Lib.hid hnm
  have Hq := Lib.hid (And.intro h0 h1)
  have Hs := Lib.hid hs
  have Hm := Lib.hid hm
  have Hsm := Lib.hid hsm
  obtain ⟨c, hc⟩ : ∃ c, cOf nm q seed = c := ⟨_, rfl⟩
  have Hc := Lib.hid (show hashOf nm q 65533 255 seed = c from hc)
  have Hcl := Lib.hid (show c.length = 32 by rw [← hc]; exact hashOf_length _ _ _ _ _)
  obtain ⟨f, hf⟩ : ∃ f, digOf nm q c msg = f := ⟨_, rfl⟩
  have Hf := Lib.hid hf
  have Hf4 := Lib.hid (show ∀ i, f i < 4 by intro i; rw [← hf]; exact digOf_lt _ _ _ _ _)
  obtain ⟨Y, hY⟩ : ∃ Y, zOf nm q seed msg = Y := ⟨_, rfl⟩
  have HY := Lib.hid (show ∀ i, (Y i).length = 32 by rw [← hY]; exact zOf_length nm q seed msg)
  have HYe := Lib.hid (show ∀ i : Nat, chain nm q i ((0 : Nat) : Int) (secOf nm q seed i) (f i) = Y i by intro i; rw [← hY, ← hf, ← hc]; rfl)
  obtain ⟨sg, hsg⟩ : ∃ s, sigOf nm q seed msg = s := ⟨_, rfl⟩
  have Hsg := Lib.hid (show [0, 0, 0, 2] ++ c ++ joinY Y 133 = sg by rw [← hc, ← hY]; exact hsg)
  unfold SignPost
  rw [hsg]
  clear hsg hY hf hc hnm h0 h1 hs hm hsm
  go_enter Try.func17, Try.ntmps17
  go_wp2_with (first | ((with_reducible apply wpl_box (x := Operand.tmp 0) hF); exact rfl; clear hF; intro bn _ hF) | ((with_reducible apply wpl_box (x := Operand.tmp 2) hF); exact rfl; clear hF; intro bd _ hF) | ((with_reducible apply wpl_load hF (T := 22) (hu := Try.underlying22)); exact rfl; (first | exact ⟨0, rfl⟩ | exact ⟨1, rfl⟩ | exact ⟨2, rfl⟩ | exact ⟨3, rfl⟩ | exact ⟨4, rfl⟩ | exact ⟨5, rfl⟩ | exact ⟨6, rfl⟩ | exact ⟨7, rfl⟩ | exact ⟨8, rfl⟩ | exact ⟨9, rfl⟩ | exact ⟨10, rfl⟩ | exact ⟨11, rfl⟩); exact info_nm Hnm.out) | ((with_reducible refine wpl_build (keyv nm q) ?_ ?_); (focus (intro w; simp only [List.map_toArray, List.map_cons, List.map_nil]; exact build_key Hnm.out q w))) | ((with_reducible refine wpl_alloc (dst := some 9) hF (keyc (List.replicate 16 0) 0) (T := 55) (hz := Try.zeroValue55) ?_ ?_); exact rfl; clear hF; intro bk _ hF) | ((with_reducible apply wpl_store hF 2 (T := 55) (cs' := keyc nm q)); exact rfl; exact rfl; exact rfl; exact info_key Hnm.out q; (focus (rw [keyc_length Hnm.out, keyc_length (by simp)])); exact keyc_one nm q; clear hF; intro _ hF) | ((with_reducible apply wpl_loadD hF (T := 55) (hu := Try.underlying55)); exact rfl; (first | exact ⟨0, rfl⟩ | exact ⟨1, rfl⟩ | exact ⟨2, rfl⟩ | exact ⟨3, rfl⟩ | exact ⟨4, rfl⟩ | exact ⟨5, rfl⟩ | exact ⟨6, rfl⟩ | exact ⟨7, rfl⟩ | exact ⟨8, rfl⟩ | exact ⟨9, rfl⟩ | exact ⟨10, rfl⟩ | exact ⟨11, rfl⟩); exact info_key Hnm.out q) | ((with_reducible apply wpl_load hF (T := 24) (hu := Try.underlying24)); exact rfl; (first | exact ⟨0, rfl⟩ | exact ⟨1, rfl⟩ | exact ⟨2, rfl⟩ | exact ⟨3, rfl⟩ | exact ⟨4, rfl⟩ | exact ⟨5, rfl⟩ | exact ⟨6, rfl⟩ | exact ⟨7, rfl⟩ | exact ⟨8, rfl⟩ | exact ⟨9, rfl⟩ | exact ⟨10, rfl⟩ | exact ⟨11, rfl⟩); exact info_idl (by first | (with_reducible exact Hs.out) | (with_reducible exact Hcl.out))) | (go_at_call 32; refine (hashK nm Hnm.out q 65533 255 seed Hs.out _).mono ?_; rintro _ _ ⟨rfl, hb⟩; replace hF := hF.call hb; clear hb; rw [Hc.out]) | ((with_reducible refine wpl_alloc (dst := some 10) hF (bs zeros) (T := 24) (hz := Try.zeroValue24) ?_ ?_); exact rfl; clear hF; intro bc _ hF) | ((with_reducible apply wpl_store hF 3 (T := 24)); exact rfl; exact rfl; exact rfl; exact info_idl Hcl.out; (focus (simp only [bs_length, zeros_length, Hcl.out, Hcl.out])); exact bs_oneCell _; clear hF; intro _ hF) | ((with_reducible apply wpl_make hF (ht := Try.underlying28) (he := byteElem) (n := 0) (c := 4292)); exact rfl; exact rfl; (focus omega); (focus omega); (focus omega); (focus omega); clear hF; intro g _ hF; rw [bs_replicate] at hF; obtain ⟨tz, htz⟩ : ∃ tz : List Value, tz = bs (List.replicate (4292 : Int).toNat 0) := ⟨_, rfl⟩; rw [← htz] at hF; have Htz := Lib.hid (show tz.length = 4292 by rw [htz, bs_length, List.length_replicate]; rfl); clear htz) | ((with_reducible apply wpl_push hF 4 ([]) (tz) (bs [0, 0, 0, 2]) (ht := Try.underlying28) (he := byteElem)); (focus (intro _; exact rfl)); (focus exact rfl); (focus (intro _; exact rfl)); (focus (exact rfl)); (focus (have := Htz.out; omega)); (focus (first | exact rfl | kernel_rfl)); exact rfl; (focus omega); exact bs_oneCell _; (focus omega); (focus (unfold maxLen; omega)); clear hF; intro b1 c1 t1 _ w1 hc1 hF; have H1 := Lib.hid hc1; clear hc1) | ((with_reducible apply wpl_sliceA (T := 24) (hu := Try.underlying24) (he := info_u8_)); exact rfl) | ((with_reducible apply wpl_append (dst := some 27) hF 4 ([] ++ bs [0, 0, 0, 2]) (t1) (bs c) (ht := Try.underlying28) (he := byteElem)); exact rfl; (focus exact rfl); (focus (exact rfl)); (focus (exact H1.out)); exact rfl; (focus (rw [bs_length]; exact Hcl.out)); (focus (exact Sl.whole hF ⟨3, rfl⟩)); exact bs_oneCell _; (focus omega); (focus (unfold maxLen; omega)); clear hF; intro b2 c2 t2 w2 hc2 hF; have H2 := Lib.hid hc2; clear hc2) | (go_at_call 37; refine (digitsK nm Hnm.out q Hq.out.1 Hq.out.2 c Hcl.out msg pm lm cm Hm.out (by omega) (Hsm.out.fr hF)).mono ?_; rintro _ _ ⟨rfl, hb⟩; replace hF := hF.call hb; clear hb; rw [Hf.out]))
  have hF1 := hF.sub (L' := [⟨bd, bs seed, 24⟩, ⟨bk, keyc nm q, 55⟩, ⟨b2, [] ++ bs [0, 0, 0, 2] ++ bs c ++ t2, 5⟩]) (List.Sublist.cons _ (List.Sublist.cons_cons _ (List.Sublist.cons_cons _ (List.Sublist.cons _ (List.Sublist.refl _)))))
  rw [show ([] ++ bs [0, 0, 0, 2] ++ bs c : List Value) = bs ([0, 0, 0, 2] ++ c ++ joinY Y 0) by rw [List.nil_append, joinY, List.append_nil, bs_append]] at hF1
  clear hF
  go_loopw [11, 32] (fun u v wr => ∃ (m b c' : Nat) (tt : List Value), m ≤ 133 ∧ v = .int .i64 (m : Int) ∧ u = .slice (some ⟨b, 0, none⟩) (36 + 32 * m) c' ∧ c' = 36 + 32 * m + tt.length ∧ Fr w wr [⟨bd, bs seed, 24⟩, ⟨bk, keyc nm q, 55⟩, ⟨b, bs ([0, 0, 0, 2] ++ c ++ joinY Y m) ++ tt, 5⟩]) (fun _ v _ => (133 - intOf v).toNat)
  case atStart => exact ⟨0, b2, c2, t2, by omega, rfl, rfl, H2.out, hF1⟩
  case round =>
    clear hF1
    obtain ⟨m, b, c', tt, hm, rfl, rfl, hct, hF⟩ := hrel
    have Hct := Lib.hid hct
    clear hct
    have Hjl := Lib.hid (show ([0, 0, 0, 2] ++ c ++ joinY Y m).length = 36 + 32 * m by simp [Hcl.out, joinY_length HY.out]; omega)
    by_cases hlt : m < 133
    · have d0 : (0 : Int) ≤ (m : Int) := by omega
      have d1 : (m : Int) < 133 := by omega
      obtain ⟨x, hx⟩ : ∃ x, secOf nm q seed m = x := ⟨_, rfl⟩
      have Hx := Lib.hid (show hashOf nm q (m : Int) 255 seed = x from hx)
      have Hxl := Lib.hid (show x.length = 32 by rw [← hx]; exact hash_length _)
      obtain ⟨k, hk⟩ : ∃ k, f m = k := ⟨_, rfl⟩
      have hk4 : k < 4 := by rw [← hk]; exact Hf4.out m
      have hv : (ii f 133)[(m : Int).toNat]? = some (.int .i64 (k : Int)) := by rw [Int.toNat_natCast, ii_get f hlt, hk]
      have Hv := Lib.hid hv
      obtain ⟨y, hy⟩ : ∃ y, Y m = y := ⟨_, rfl⟩
      have Hy := Lib.hid (show chain nm q (m : Int) ((0 : Nat) : Int) x k = y by rw [← hy, ← HYe.out m, hx, hk])
      have Hyy := Lib.hid hy
      have Hyl := Lib.hid (show y.length = 32 by rw [← hy]; exact HY.out m)
      clear hx hy hk hv
      go_wp2_with (first | ((with_reducible apply wpl_indexV (T := 64) (hu := Try.underlying64) (hue := Try.underlying3) (he := info_int_)); exact rfl; exact rfl; (focus omega); (focus omega); exact Hv.out))
      ((refine wp_region_line ([⟨bd, bs seed, 24⟩, ⟨bk, keyc nm q, 55⟩]) ([⟨b, bs ([0, 0, 0, 2] ++ c ++ joinY Y m) ++ tt, 5⟩]) [0, 1, 2, 3, 4, 5] ([ln 6, ln 7, fl 8 (bs zeros) 24 (fun b => .pointer (some ⟨b, 0, none⟩)), ln 9]) (by kernel_rfl) (by kernel_rfl) hF ?_); clear hF; (simp only [planOf, List.filterMap_cons, List.filterMap_nil, List.getElem?_toArray, List.getElem?_cons_succ, List.getElem?_cons_zero, Option.map_some]))
      repeat (first | ((with_reducible apply wq_move); (focus (simp only [Act.eval, Array.getD_eq_getD_getElem?, List.getElem?_toArray, List.getElem?_cons_succ, List.getElem?_cons_zero, Option.getD_some, List.map_toArray, List.map_cons, List.map_nil] <;> exact rfl)); simp only [Act.put, List.setIfInBounds_toArray, List.set_cons_succ, List.set_cons_zero]) | ((with_reducible apply wq_loadD (T := 55) (hu := Try.underlying55)); exact rfl; (first | exact ⟨0, rfl⟩ | exact ⟨1, rfl⟩ | exact ⟨2, rfl⟩ | exact ⟨3, rfl⟩ | exact ⟨4, rfl⟩ | exact ⟨5, rfl⟩ | exact ⟨6, rfl⟩ | exact ⟨7, rfl⟩ | exact ⟨8, rfl⟩ | exact ⟨9, rfl⟩ | exact ⟨10, rfl⟩ | exact ⟨11, rfl⟩); exact info_key Hnm.out q; simp only [Act.put, List.setIfInBounds_toArray, List.set_cons_succ, List.set_cons_zero]) | ((with_reducible apply wq_load (T := 24) (hu := Try.underlying24)); exact rfl; (first | exact ⟨0, rfl⟩ | exact ⟨1, rfl⟩ | exact ⟨2, rfl⟩ | exact ⟨3, rfl⟩ | exact ⟨4, rfl⟩ | exact ⟨5, rfl⟩ | exact ⟨6, rfl⟩ | exact ⟨7, rfl⟩ | exact ⟨8, rfl⟩ | exact ⟨9, rfl⟩ | exact ⟨10, rfl⟩ | exact ⟨11, rfl⟩); exact info_idl Hs.out; simp only [Act.put, List.setIfInBounds_toArray, List.set_cons_succ, List.set_cons_zero]))
      refine wpQuiet_nil ?_
      (refine And.intro ?_ ?_; (focus (repeat (first | (with_reducible exact FOK.nil) | (with_reducible refine FOK.ln ?_) | (with_reducible refine FOK.tk ?_) | (with_reducible refine FOK.fl ?_ ?_; (focus (exact fstep_alloc Try.zeroValue24 rfl)))))))
      ((with_reducible apply wpLine_callp (f := 32) (hc := Try.call32)); exact wanted_plain; (focus (simp only [Act.eval, Array.getD_eq_getD_getElem?, List.getElem?_toArray, List.getElem?_cons_succ, List.getElem?_cons_zero, Option.getD_some, List.map_toArray, List.map_cons, List.map_nil] <;> exact rfl)); (focus (intro _ _ hw; exact hashK nm Hnm.out q (m : Int) 255 seed Hs.out _)); (simp only [Act.put, List.setIfInBounds_toArray, List.set_cons_succ, List.set_cons_zero, List.cons_append, List.nil_append, ← bs_append]))
      rw [Hx.out]
      ((with_reducible apply wpLine_callp (f := 31) (hc := Try.call31)); exact wanted_plain; (focus (simp only [Act.eval, Array.getD_eq_getD_getElem?, List.getElem?_toArray, List.getElem?_cons_succ, List.getElem?_cons_zero, Option.getD_some, List.map_toArray, List.map_cons, List.map_nil] <;> exact rfl)); (focus (intro _ _ hw; exact stepsK nm Hnm.out q (m : Int) 0 k (k : Int) (by simp) (by omega) x Hxl.out _)); (simp only [Act.put, List.setIfInBounds_toArray, List.set_cons_succ, List.set_cons_zero, List.cons_append, List.nil_append, ← bs_append]))
      rw [Hy.out]
      refine wpLine_float fun bt => ?_
      (simp only [Act.put, List.setIfInBounds_toArray, List.set_cons_succ, List.set_cons_zero, List.cons_append, List.nil_append, ← bs_append])
      ((with_reducible apply wpLine_store 1 (T := 24)); exact wanted_plain; exact rfl; exact rfl; exact rfl; exact info_idl Hyl.out; (focus (simp only [bs_length, zeros_length, Hyl.out])); exact bs_oneCell _; (simp only [Act.put, List.setIfInBounds_toArray, List.set_cons_succ, List.set_cons_zero, List.cons_append, List.nil_append, ← bs_append]))
      ((refine wpLine_nil ?_); intro wl hF)
      go_wp2_with (first | ((with_reducible apply wpl_sliceA (T := 24) (hu := Try.underlying24) (he := info_u8_)); exact rfl) | ((with_reducible apply wpl_append (dst := some 46) hF 2 (bs ([0, 0, 0, 2] ++ c ++ joinY Y m)) (tt) (bs y) (ht := Try.underlying28) (he := byteElem)); exact rfl; (focus exact rfl); (focus (rw [bs_length]; exact Hjl.out)); (focus (exact Hct.out)); exact rfl; (focus (rw [bs_length]; exact Hyl.out)); (focus (exact Sl.whole hF ⟨3, rfl⟩)); exact bs_oneCell _; (focus omega); (focus (unfold maxLen; omega)); clear hF; intro b3 c3 t3 w3 hc3 hF; have H3 := Lib.hid hc3; clear hc3))
      go_roundw
      case rel =>
        refine ⟨m + 1, b3, c3, t3, by omega, by go_num, rfl, H3.out, ?_⟩
        rw [joinY, ← List.append_assoc, bs_append _ (Y m), Hyy.out]
        exact hF.sub (List.sublist_append_left [_, _, _] _)
      case measure => simp [intOf]; omega
    · obtain rfl : m = 133 := by omega
      rw [Hsg.out] at hF
      go_wp2_with (first | fail)
      go_ret
      exact ⟨b, c', tt, rfl, Hct.out, hF.made (by simp)⟩

set_option maxHeartbeats 4000000 in
theorem refSign (nm : List UInt8) (hnm : nm.length = 16) (q : Int) (h0 : -9223372036854775808 ≤ q) (h1 : q ≤ 9223372036854775807) (seed : List UInt8) (hs : seed.length = 32) (msg : List UInt8) (pm : Option Addr) (lm cm : Nat) (hm : msg.length = lm) (hlim : lm ≤ 1000000) {w : World} (hsm : Sl w pm (bs msg)) :
    Calls Try.prog 18 #[agg nm, .int .i64 q, agg seed, .slice pm lm cm] w (SignPost nm q seed msg w) := by
  have hF := Fr.start w
  have Hnm := Lib.hid hnm
  have Hq := Lib.hid (And.intro h0 h1)
  have Hs := Lib.hid hs
  have Hm := Lib.hid hm
  have Hsm := Lib.hid hsm
  obtain ⟨c, hc⟩ : ∃ c, cOf nm q seed = c := ⟨_, rfl⟩
  have Hc := Lib.hid (show hash (headOf nm q ++ two 65533 ++ [255] ++ seed) = c from hc)
  have Hcl := Lib.hid (show c.length = 32 by rw [← hc]; exact hashOf_length _ _ _ _ _)
  obtain ⟨f, hf⟩ : ∃ f, digOf nm q c msg = f := ⟨_, rfl⟩
  have Hf := Lib.hid hf
  have Hf4 := Lib.hid (show ∀ i, f i < 4 by intro i; rw [← hf]; exact digOf_lt _ _ _ _ _)
  obtain ⟨Y, hY⟩ : ∃ Y, zOf nm q seed msg = Y := ⟨_, rfl⟩
  have HY := Lib.hid (show ∀ i, (Y i).length = 32 by rw [← hY]; exact zOf_length nm q seed msg)
  have HYe := Lib.hid (show ∀ i : Nat, chain nm q i ((0 : Nat) : Int) (secOf nm q seed i) (f i) = Y i by intro i; rw [← hY, ← hf, ← hc]; rfl)
  obtain ⟨sg, hsg⟩ : ∃ s, sigOf nm q seed msg = s := ⟨_, rfl⟩
  have Hsg := Lib.hid (show four 2 ++ c ++ joinY Y 133 = sg by rw [← hc, ← hY]; exact hsg)
  unfold SignPost
  rw [hsg]
  clear hsg hY hf hc hnm h0 h1 hs hm hsm
  go_enter Try.func18, Try.ntmps18
  go_wp2_with (first | ((with_reducible apply wpl_box (x := Operand.tmp 0) hF); exact rfl; clear hF; intro bn _ hF) | ((with_reducible apply wpl_box (x := Operand.tmp 2) hF); exact rfl; clear hF; intro bd _ hF))
  ((refine wp_region_line ([⟨bn, bs nm, 22⟩, ⟨bd, bs seed, 24⟩]) ([]) [0, 1, 6] ([ln 2, ln 3, fl 4 (bs [255]) 5 (fun b => .slice (some ⟨b, 0, none⟩) 1 1), ln 5, ln 7, ln 8, fl 9 (bs zeros) 24 (fun b => .pointer (some ⟨b, 0, none⟩)), ln 10]) (by kernel_rfl) (by kernel_rfl) hF ?_); clear hF; (simp only [planOf, List.filterMap_cons, List.filterMap_nil, List.getElem?_toArray, List.getElem?_cons_succ, List.getElem?_cons_zero, Option.map_some]))
  repeat (first | ((with_reducible apply wq_move); (focus (simp only [Act.eval, Array.getD_eq_getD_getElem?, List.getElem?_toArray, List.getElem?_cons_succ, List.getElem?_cons_zero, Option.getD_some, List.map_toArray, List.map_cons, List.map_nil] <;> exact rfl)); simp only [Act.put, List.setIfInBounds_toArray, List.set_cons_succ, List.set_cons_zero]) | ((with_reducible apply wq_load (T := 22) (hu := Try.underlying22)); exact rfl; (first | exact ⟨0, rfl⟩ | exact ⟨1, rfl⟩ | exact ⟨2, rfl⟩ | exact ⟨3, rfl⟩ | exact ⟨4, rfl⟩ | exact ⟨5, rfl⟩ | exact ⟨6, rfl⟩ | exact ⟨7, rfl⟩ | exact ⟨8, rfl⟩ | exact ⟨9, rfl⟩ | exact ⟨10, rfl⟩ | exact ⟨11, rfl⟩); exact info_nm Hnm.out; simp only [Act.put, List.setIfInBounds_toArray, List.set_cons_succ, List.set_cons_zero]) | ((with_reducible apply wq_sliceA (T := 24) (hu := Try.underlying24) (he := info_u8_)); exact rfl; simp only [Act.put, List.setIfInBounds_toArray, List.set_cons_succ, List.set_cons_zero]))
  refine wpQuiet_nil ?_
  (refine And.intro ?_ ?_; (focus (repeat (first | (with_reducible exact FOK.nil) | (with_reducible refine FOK.ln ?_) | (with_reducible refine FOK.tk ?_) | (with_reducible refine FOK.fl ?_ ?_; (focus (first | (exact fstep_alloc Try.zeroValue24 rfl) | (exact fstep_build Try.underlying28 byteElem (by omega) (by kernel_rfl)))))))))
  ((with_reducible apply wpLine_made (f := 33) (hc := Try.call33)); exact wanted_plain; (focus (simp only [Act.eval, Array.getD_eq_getD_getElem?, List.getElem?_toArray, List.getElem?_cons_succ, List.getElem?_cons_zero, Option.getD_some, List.map_toArray, List.map_cons, List.map_nil] <;> exact rfl)); intro _ _ hw; refine (head5 nm Hnm.out q Hq.out.1 Hq.out.2 _).mono ?_; clear hw; rintro _ _ ⟨b1, c1, t1, rfl, hc1, hm⟩; refine ⟨_, _, rfl, hm, ?_⟩; clear hm; have H1 := Lib.hid hc1; clear hc1; (simp only [Act.put, List.setIfInBounds_toArray, List.set_cons_succ, List.set_cons_zero, List.cons_append, List.nil_append, ← bs_append]))
  ((with_reducible apply wpLine_grown 0 (f := 38) (hc := Try.call38)); exact wanted_plain; (focus (simp only [Act.eval, Array.getD_eq_getD_getElem?, List.getElem?_toArray, List.getElem?_cons_succ, List.getElem?_cons_zero, Option.getD_some, List.map_toArray, List.map_cons, List.map_nil] <;> exact rfl)); rotate_left; exact rfl; intro _ _ hw hkk; refine (two5 65533 (by omega) (by omega) hw _ hkk (by simp [bs_length, headOf_length Hnm.out]) H1.out (by omega)).mono ?_; clear hw hkk; rintro _ _ ⟨b2, c2, t2, rfl, hc2, hF2⟩; refine ⟨_, _, rfl, hF2, ?_⟩; clear hF2; have H2 := Lib.hid hc2; clear hc2; (simp only [Act.put, List.setIfInBounds_toArray, List.set_cons_succ, List.set_cons_zero, List.cons_append, List.nil_append, ← bs_append]))
  refine wpLine_float fun bf => ?_
  (simp only [Act.put, List.setIfInBounds_toArray, List.set_cons_succ, List.set_cons_zero, List.cons_append, List.nil_append, ← bs_append])
  ((with_reducible apply wpLine_append 0 (bs (headOf nm q ++ two 65533)) (t2) (bs [255]) (ht := Try.underlying28) (he := byteElem)); exact wanted_plain; exact rfl; exact rfl; (focus (simp [bs_length, headOf_length Hnm.out, two_length])); (focus exact H2.out); exact rfl; (focus (simp [bs_length, headOf_length Hnm.out, two_length])); (focus (intro _ _ hw; exact Sl.whole hw ⟨3, rfl⟩)); exact bs_oneCell _; (focus omega); (focus (unfold maxLen; omega)); (intro b3 c3 t3 hc3); have H3 := Lib.hid hc3; clear hc3; (simp only [Act.put, List.setIfInBounds_toArray, List.set_cons_succ, List.set_cons_zero, List.cons_append, List.nil_append, ← bs_append]))
  ((with_reducible apply wpLine_append 0 (bs (headOf nm q ++ two 65533 ++ [255])) (t3) (bs seed) (ht := Try.underlying28) (he := byteElem)); exact wanted_plain; exact rfl; exact rfl; (focus (simp [bs_length, headOf_length Hnm.out, two_length, Hs.out])); (focus exact H3.out); exact rfl; (focus (simp [bs_length, headOf_length Hnm.out, two_length, Hs.out])); (focus (intro _ _ hw; exact Sl.whole hw ⟨1, rfl⟩)); exact bs_oneCell _; (focus omega); (focus (unfold maxLen; omega)); (intro b4 c4 t4 hc4); have H4 := Lib.hid hc4; clear hc4; (simp only [Act.put, List.setIfInBounds_toArray, List.set_cons_succ, List.set_cons_zero, List.cons_append, List.nil_append, ← bs_append]))
  ((with_reducible apply wpLine_callp (f := 36) (hc := Try.call36)); exact wanted_plain; (focus (simp only [Act.eval, Array.getD_eq_getD_getElem?, List.getElem?_toArray, List.getElem?_cons_succ, List.getElem?_cons_zero, Option.getD_some, List.map_toArray, List.map_cons, List.map_nil] <;> exact rfl)); (focus (intro _ _ hw; exact refSum (headOf nm q ++ two 65533 ++ [255] ++ seed) _ _ _ (by simp [headOf_length Hnm.out, two_length, Hs.out]) _ (Sl.pre hw ⟨2, rfl⟩) (by omega))); (simp only [Act.put, List.setIfInBounds_toArray, List.set_cons_succ, List.set_cons_zero, List.cons_append, List.nil_append, ← bs_append]))
  rw [Hc.out]
  refine wpLine_float fun bc => ?_
  (simp only [Act.put, List.setIfInBounds_toArray, List.set_cons_succ, List.set_cons_zero, List.cons_append, List.nil_append, ← bs_append])
  ((with_reducible apply wpLine_store 2 (T := 24)); exact wanted_plain; exact rfl; exact rfl; exact rfl; exact info_idl Hcl.out; (focus (simp only [bs_length, zeros_length, Hcl.out])); exact bs_oneCell _; (simp only [Act.put, List.setIfInBounds_toArray, List.set_cons_succ, List.set_cons_zero, List.cons_append, List.nil_append, ← bs_append]))
  ((refine wpLine_nil ?_); intro wl hF)
  have hF1 := hF.sub (L' := [⟨bn, bs nm, 22⟩, ⟨bd, bs seed, 24⟩, ⟨bc, bs c, 24⟩]) (List.Sublist.cons_cons _ (List.Sublist.cons_cons _ (List.Sublist.cons _ (List.Sublist.cons _ (List.Sublist.refl _)))))
  clear hF
  have hF := hF1
  clear hF1
  go_wp2_with (first | fail)
  ((refine wp_region_line ([⟨bn, bs nm, 22⟩, ⟨bd, bs seed, 24⟩, ⟨bc, bs c, 24⟩]) ([]) [0, 1, 2, 3] ([ln 4, fl 5 (List.replicate 133 (.int .i64 0)) 64 (fun b => .pointer (some ⟨b, 0, none⟩)), ln 6]) (by kernel_rfl) (by kernel_rfl) hF ?_); clear hF; (simp only [planOf, List.filterMap_cons, List.filterMap_nil, List.getElem?_toArray, List.getElem?_cons_succ, List.getElem?_cons_zero, Option.map_some]))
  repeat (first | ((with_reducible apply wq_move); (focus (simp only [Act.eval, Array.getD_eq_getD_getElem?, List.getElem?_toArray, List.getElem?_cons_succ, List.getElem?_cons_zero, Option.getD_some, List.map_toArray, List.map_cons, List.map_nil] <;> exact rfl)); simp only [Act.put, List.setIfInBounds_toArray, List.set_cons_succ, List.set_cons_zero]) | ((with_reducible apply wq_load (T := 22) (hu := Try.underlying22)); exact rfl; (first | exact ⟨0, rfl⟩ | exact ⟨1, rfl⟩ | exact ⟨2, rfl⟩ | exact ⟨3, rfl⟩ | exact ⟨4, rfl⟩ | exact ⟨5, rfl⟩ | exact ⟨6, rfl⟩ | exact ⟨7, rfl⟩ | exact ⟨8, rfl⟩ | exact ⟨9, rfl⟩ | exact ⟨10, rfl⟩ | exact ⟨11, rfl⟩); exact info_nm Hnm.out; simp only [Act.put, List.setIfInBounds_toArray, List.set_cons_succ, List.set_cons_zero]) | ((with_reducible apply wq_sliceA (T := 24) (hu := Try.underlying24) (he := info_u8_)); exact rfl; simp only [Act.put, List.setIfInBounds_toArray, List.set_cons_succ, List.set_cons_zero]))
  refine wpQuiet_nil ?_
  (refine And.intro ?_ ?_; (focus (repeat (first | (with_reducible exact FOK.nil) | (with_reducible refine FOK.ln ?_) | (with_reducible refine FOK.tk ?_) | (with_reducible refine FOK.fl ?_ ?_; (focus (exact fstep_alloc zero133 rfl)))))))
  ((with_reducible apply wpLine_callp (f := 39) (hc := Try.call39)); exact wanted_plain; (focus (simp only [Act.eval, Array.getD_eq_getD_getElem?, List.getElem?_toArray, List.getElem?_cons_succ, List.getElem?_cons_zero, Option.getD_some, List.map_toArray, List.map_cons, List.map_nil] <;> exact rfl)); (focus (intro _ _ hw; exact digits5 nm Hnm.out q Hq.out.1 Hq.out.2 c Hcl.out _ _ msg pm lm cm Hm.out (by omega) (Sl.whole hw ⟨2, rfl⟩) (Hsm.out.fr hw))); (simp only [Act.put, List.setIfInBounds_toArray, List.set_cons_succ, List.set_cons_zero, List.cons_append, List.nil_append, ← bs_append]))
  rw [Hf.out]
  refine wpLine_float fun ba => ?_
  (simp only [Act.put, List.setIfInBounds_toArray, List.set_cons_succ, List.set_cons_zero, List.cons_append, List.nil_append, ← bs_append])
  ((with_reducible apply wpLine_store 0 (T := 64)); exact wanted_plain; exact rfl; exact rfl; exact rfl; exact info_133 (ii_length f 133); (focus (rw [ii_length, List.length_replicate])); exact ii_one f 133; (simp only [Act.put, List.setIfInBounds_toArray, List.set_cons_succ, List.set_cons_zero, List.cons_append, List.nil_append, ← bs_append]))
  ((refine wpLine_nil ?_); intro wl hF)
  go_wp2_with (first | fail)
  ((refine wp_region_line ([⟨bn, bs nm, 22⟩, ⟨bd, bs seed, 24⟩, ⟨bc, bs c, 24⟩, ⟨ba, ii f 133, 64⟩]) ([]) [1] ([ln 0, ln 2, tk 3]) (by kernel_rfl) (by kernel_rfl) hF ?_); clear hF; (simp only [planOf, List.filterMap_cons, List.filterMap_nil, List.getElem?_toArray, List.getElem?_cons_succ, List.getElem?_cons_zero, Option.map_some]))
  repeat (first | ((with_reducible apply wq_move); (focus (simp only [Act.eval, Array.getD_eq_getD_getElem?, List.getElem?_toArray, List.getElem?_cons_succ, List.getElem?_cons_zero, Option.getD_some, List.map_toArray, List.map_cons, List.map_nil] <;> exact rfl)); simp only [Act.put, List.setIfInBounds_toArray, List.set_cons_succ, List.set_cons_zero]) | ((with_reducible apply wq_sliceA (T := 24) (hu := Try.underlying24) (he := info_u8_)); exact rfl; simp only [Act.put, List.setIfInBounds_toArray, List.set_cons_succ, List.set_cons_zero]))
  refine wpQuiet_nil ?_
  (refine And.intro ?_ ?_; (focus (repeat (first | (with_reducible exact FOK.nil) | (with_reducible refine FOK.ln ?_) | (with_reducible refine FOK.tk ?_) | (with_reducible refine FOK.fl ?_ ?_; (focus fail))))))
  ((with_reducible apply wpLine_made (f := 40) (hc := Try.call40)); exact wanted_plain; (focus (simp only [Act.eval, Array.getD_eq_getD_getElem?, List.getElem?_toArray, List.getElem?_cons_succ, List.getElem?_cons_zero, Option.getD_some, List.map_toArray, List.map_cons, List.map_nil] <;> exact rfl)); intro _ _ hw; refine (four5nil 2 (by omega) (by omega) _).mono ?_; clear hw; rintro _ _ ⟨b1, c1, t1, rfl, hc1, hm⟩; refine ⟨_, _, rfl, hm, ?_⟩; clear hm; have H1 := Lib.hid hc1; clear hc1; (simp only [Act.put, List.setIfInBounds_toArray, List.set_cons_succ, List.set_cons_zero, List.cons_append, List.nil_append, ← bs_append]))
  ((with_reducible apply wpLine_append 0 (bs (four 2)) (t1) (bs c) (ht := Try.underlying28) (he := byteElem)); exact wanted_plain; exact rfl; exact rfl; (focus (simp [bs_length, four_length, Hcl.out])); (focus exact H1.out); exact rfl; (focus (simp [bs_length, four_length, Hcl.out])); (focus (intro _ _ hw; exact Sl.whole hw ⟨2, rfl⟩)); exact bs_oneCell _; (focus omega); (focus (unfold maxLen; omega)); (intro b2 c2 t2 hc2); have H2 := Lib.hid hc2; clear hc2; (simp only [Act.put, List.setIfInBounds_toArray, List.set_cons_succ, List.set_cons_zero, List.cons_append, List.nil_append, ← bs_append]))
  ((refine wpLine_take rfl ?_); (first | ((with_reducible apply wq_move); (focus (simp only [Act.eval, Array.getD_eq_getD_getElem?, List.getElem?_toArray, List.getElem?_cons_succ, List.getElem?_cons_zero, Option.getD_some, List.map_toArray, List.map_cons, List.map_nil] <;> exact rfl)); simp only [Act.put, List.setIfInBounds_toArray, List.set_cons_succ, List.set_cons_zero]) | ((with_reducible apply wq_assign); (focus (simp only [Act.eval, Array.getD_eq_getD_getElem?, List.getElem?_toArray, List.getElem?_cons_succ, List.getElem?_cons_zero, Option.getD_some, List.map_toArray, List.map_cons, List.map_nil] <;> exact rfl)); simp only [Act.put, List.setIfInBounds_toArray, List.set_cons_succ, List.set_cons_zero]) | fail); (refine wpQuiet_nil ?_))
  ((refine wpLine_nil ?_); intro wl hF)
  go_wp2_with (first | fail)
  have hF1 := hF.sub (L' := [⟨bn, bs nm, 22⟩, ⟨bd, bs seed, 24⟩, ⟨ba, ii f 133, 64⟩, ⟨b2, bs (four 2 ++ c) ++ t2, 5⟩]) (List.Sublist.cons_cons _ (List.Sublist.cons_cons _ (List.Sublist.cons _ (List.Sublist.refl _))))
  rw [show (four 2 ++ c) = four 2 ++ c ++ joinY Y 0 by rw [joinY, List.append_nil]] at hF1
  clear hF
  go_loopw [11, 12] (fun u v wr => ∃ (m b c' : Nat) (tt : List Value), m ≤ 133 ∧ v = .int .i64 (m : Int) ∧ u = .slice (some ⟨b, 0, none⟩) (36 + 32 * m) c' ∧ c' = 36 + 32 * m + tt.length ∧ Fr w wr [⟨bn, bs nm, 22⟩, ⟨bd, bs seed, 24⟩, ⟨ba, ii f 133, 64⟩, ⟨b, bs (four 2 ++ c ++ joinY Y m) ++ tt, 5⟩]) (fun _ v _ => (133 - intOf v).toNat)
  case atStart => exact ⟨0, b2, c2, t2, by omega, rfl, rfl, H2.out, hF1⟩
  case round =>
    clear hF1
    obtain ⟨m, b, c', tt, hm, rfl, rfl, hct, hF⟩ := hrel
    have Hct := Lib.hid hct
    clear hct
    have Hjl := Lib.hid (show (four 2 ++ c ++ joinY Y m).length = 36 + 32 * m by simp [four_length, Hcl.out, joinY_length HY.out]; omega)
    by_cases hlt : m < 133
    · have d0 : (0 : Int) ≤ (m : Int) := by omega
      have d1 : (m : Int) < 133 := by omega
      obtain ⟨x, hx⟩ : ∃ x, secOf nm q seed m = x := ⟨_, rfl⟩
      have Hx := Lib.hid (show hashOf nm q (m : Int) 255 seed = x from hx)
      have Hxl := Lib.hid (show x.length = 32 by rw [← hx]; exact hash_length _)
      obtain ⟨k, hk⟩ : ∃ k, f m = k := ⟨_, rfl⟩
      have hk4 : k < 4 := by rw [← hk]; exact Hf4.out m
      have hv : (ii f 133)[m]? = some (.int .i64 (k : Int)) := by rw [ii_get f hlt, hk]
      have Hv := Lib.hid hv
      obtain ⟨y, hy⟩ : ∃ y, Y m = y := ⟨_, rfl⟩
      have Hy := Lib.hid (show chain nm q (m : Int) ((0 : Nat) : Int) x k = y by rw [← hy, ← HYe.out m, hx, hk])
      have Hyy := Lib.hid hy
      have Hyl := Lib.hid (show y.length = 32 by rw [← hy]; exact HY.out m)
      clear hx hy hk hv
      go_wp2_with (first | fail)
      ((refine wp_region_line ([⟨bn, bs nm, 22⟩, ⟨bd, bs seed, 24⟩, ⟨ba, ii f 133, 64⟩]) ([⟨b, bs (four 2 ++ c ++ joinY Y m) ++ tt, 5⟩]) [0, 1, 2, 3, 4, 5, 6, 7, 8, 9] ([ln 10, ln 11, fl 12 (bs zeros) 24 (fun b => .pointer (some ⟨b, 0, none⟩)), ln 13]) (by kernel_rfl) (by kernel_rfl) hF ?_); clear hF; (simp only [planOf, List.filterMap_cons, List.filterMap_nil, List.getElem?_toArray, List.getElem?_cons_succ, List.getElem?_cons_zero, Option.map_some]))
      repeat (first | ((with_reducible apply wq_move); (focus (simp only [Act.eval, Array.getD_eq_getD_getElem?, List.getElem?_toArray, List.getElem?_cons_succ, List.getElem?_cons_zero, Option.getD_some, List.map_toArray, List.map_cons, List.map_nil] <;> exact rfl)); simp only [Act.put, List.setIfInBounds_toArray, List.set_cons_succ, List.set_cons_zero]) | ((with_reducible apply wq_load (T := 22) (hu := Try.underlying22)); exact rfl; (first | exact ⟨0, rfl⟩ | exact ⟨1, rfl⟩ | exact ⟨2, rfl⟩ | exact ⟨3, rfl⟩ | exact ⟨4, rfl⟩ | exact ⟨5, rfl⟩ | exact ⟨6, rfl⟩ | exact ⟨7, rfl⟩ | exact ⟨8, rfl⟩ | exact ⟨9, rfl⟩ | exact ⟨10, rfl⟩ | exact ⟨11, rfl⟩); exact info_nm Hnm.out; simp only [Act.put, List.setIfInBounds_toArray, List.set_cons_succ, List.set_cons_zero]) | ((with_reducible apply wq_load (T := 24) (hu := Try.underlying24)); exact rfl; (first | exact ⟨0, rfl⟩ | exact ⟨1, rfl⟩ | exact ⟨2, rfl⟩ | exact ⟨3, rfl⟩ | exact ⟨4, rfl⟩ | exact ⟨5, rfl⟩ | exact ⟨6, rfl⟩ | exact ⟨7, rfl⟩ | exact ⟨8, rfl⟩ | exact ⟨9, rfl⟩ | exact ⟨10, rfl⟩ | exact ⟨11, rfl⟩); exact info_idl Hs.out; simp only [Act.put, List.setIfInBounds_toArray, List.set_cons_succ, List.set_cons_zero]) | ((with_reducible apply wq_idxA (T := 64) (hu := Try.underlying64) (he := info_int_)); exact rfl; exact rfl; (focus omega); (focus omega); simp only [Act.put, List.setIfInBounds_toArray, List.set_cons_succ, List.set_cons_zero, Int.toNat_natCast]) | ((with_reducible apply wq_loadV (T := 3) (hu := Try.underlying3)); exact rfl; (first | exact ⟨0, rfl⟩ | exact ⟨1, rfl⟩ | exact ⟨2, rfl⟩ | exact ⟨3, rfl⟩ | exact ⟨4, rfl⟩ | exact ⟨5, rfl⟩ | exact ⟨6, rfl⟩ | exact ⟨7, rfl⟩ | exact ⟨8, rfl⟩ | exact ⟨9, rfl⟩ | exact ⟨10, rfl⟩ | exact ⟨11, rfl⟩); exact Hv.out; simp only [Act.put, List.setIfInBounds_toArray, List.set_cons_succ, List.set_cons_zero]))
      refine wpQuiet_nil ?_
      (refine And.intro ?_ ?_; (focus (repeat (first | (with_reducible exact FOK.nil) | (with_reducible refine FOK.ln ?_) | (with_reducible refine FOK.tk ?_) | (with_reducible refine FOK.fl ?_ ?_; (focus (exact fstep_alloc Try.zeroValue24 rfl)))))))
      ((with_reducible apply wpLine_callp (f := 35) (hc := Try.call35)); exact wanted_plain; (focus (simp only [Act.eval, Array.getD_eq_getD_getElem?, List.getElem?_toArray, List.getElem?_cons_succ, List.getElem?_cons_zero, Option.getD_some, List.map_toArray, List.map_cons, List.map_nil] <;> exact rfl)); (focus (intro _ _ hw; exact secret5 nm Hnm.out q Hq.out.1 Hq.out.2 (m : Int) (by omega) (by omega) seed Hs.out _)); (simp only [Act.put, List.setIfInBounds_toArray, List.set_cons_succ, List.set_cons_zero, List.cons_append, List.nil_append, ← bs_append]))
      rw [Hx.out]
      ((with_reducible apply wpLine_callp (f := 34) (hc := Try.call34)); exact wanted_plain; (focus (simp only [Act.eval, Array.getD_eq_getD_getElem?, List.getElem?_toArray, List.getElem?_cons_succ, List.getElem?_cons_zero, Option.getD_some, List.map_toArray, List.map_cons, List.map_nil] <;> exact rfl)); (focus (intro _ _ hw; exact walk5 nm Hnm.out q Hq.out.1 Hq.out.2 (m : Int) (by omega) (by omega) 0 k (k : Int) (by simp) (by omega) x Hxl.out _)); (simp only [Act.put, List.setIfInBounds_toArray, List.set_cons_succ, List.set_cons_zero, List.cons_append, List.nil_append, ← bs_append]))
      rw [Hy.out]
      refine wpLine_float fun bt => ?_
      (simp only [Act.put, List.setIfInBounds_toArray, List.set_cons_succ, List.set_cons_zero, List.cons_append, List.nil_append, ← bs_append])
      ((with_reducible apply wpLine_store 1 (T := 24)); exact wanted_plain; exact rfl; exact rfl; exact rfl; exact info_idl Hyl.out; (focus (simp only [bs_length, zeros_length, Hyl.out])); exact bs_oneCell _; (simp only [Act.put, List.setIfInBounds_toArray, List.set_cons_succ, List.set_cons_zero, List.cons_append, List.nil_append, ← bs_append]))
      ((refine wpLine_nil ?_); intro wl hF)
      go_wp2_with (first | ((with_reducible apply wpl_sliceA (T := 24) (hu := Try.underlying24) (he := info_u8_)); exact rfl) | ((with_reducible apply wpl_append (dst := some 49) hF 3 (bs (four 2 ++ c ++ joinY Y m)) (tt) (bs y) (ht := Try.underlying28) (he := byteElem)); exact rfl; (focus exact rfl); (focus (rw [bs_length]; exact Hjl.out)); (focus (exact Hct.out)); exact rfl; (focus (rw [bs_length]; exact Hyl.out)); (focus (exact Sl.whole hF ⟨4, rfl⟩)); exact bs_oneCell _; (focus omega); (focus (unfold maxLen; omega)); clear hF; intro b3 c3 t3 w3 hc3 hF; have H3 := Lib.hid hc3; clear hc3))
      refine ⟨⟨_, _, _, _, _, _, _, _, _, _, _, _, _, _, _, _, _, _, _, _, _, _, ?_, rfl⟩, ?_⟩
      · refine ⟨m + 1, b3, c3, t3, by omega, by go_num, rfl, H3.out, ?_⟩
        rw [joinY, ← List.append_assoc, bs_append _ (Y m), Hyy.out]
        exact hF.sub (List.sublist_append_left [_, _, _, _] _)
      · simp [intOf]; omega
    · obtain rfl : m = 133 := by omega
      rw [Hsg.out] at hF
      go_wp2_with (first | fail)
      go_ret
      exact ⟨b, c', tt, rfl, Hct.out, hF.made (by simp)⟩
end Go.Proofs.Ytbnjgldilckhpaa
