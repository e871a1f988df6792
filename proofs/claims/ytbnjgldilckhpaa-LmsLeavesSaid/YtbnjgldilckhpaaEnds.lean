/-
  THE WALKS of ots' ends, Public, and of the function that Public hands on.
-/
import Derived.Test.YtbnjgldilckhpaaKey
import Derived.Test.YtbnjgldilckhpaaRef5b
namespace Go.Proofs.Ytbnjgldilckhpaa
set_option linter.unusedSimpArgs false
set_option linter.unusedVariables false
open Go.RowKit
attribute [local irreducible] wpQuiet Calls wpLine
set_option maxRecDepth 4000

/-- The first n, one behind the other. -/
def joinY (Y : Nat → List UInt8) : Nat → List UInt8
  | 0 => []
  | n + 1 => joinY Y n ++ Y n
theorem joinY_length {Y : Nat → List UInt8} (h : ∀ i, (Y i).length = 32) : ∀ n, (joinY Y n).length = 32 * n
  | 0 => rfl
  | n + 1 => by rw [joinY, List.length_append, joinY_length h n, h]; omega
def endsOf (nm : List UInt8) (q : Int) (Y : Nat → List UInt8) : List UInt8 := hash (headOf nm q ++ two 32896 ++ joinY Y 133)

set_option maxHeartbeats 4000000 in
theorem endsK (nm : List UInt8) (hnm : nm.length = 16) (q : Int) (h0 : -9223372036854775808 ≤ q) (h1 : q ≤ 9223372036854775807) (f : FuncId) (hc : ∀ args w, (callFunc f args).run Try.prog w = .ok (.enter f args) w) (caps : Array Value) (Y : Nat → List UInt8) (hY : ∀ i, (Y i).length = 32) {w : World}
    (hy : ∀ i : Nat, i < 133 → ∀ w', Below w.heap.size w w' → Calls Try.prog f (#[.int .i64 i] ++ caps) w' fun e w'' => e = .returned (agg (Y i)) ∧ Below w'.heap.size w' w'') :
    Calls Try.prog 29 #[keyv nm q, .func (.func f) #[] caps] w fun e w' => e = .returned (agg (endsOf nm q Y)) ∧ Below w.heap.size w w' := by
  have hF := Fr.start w
  have Hnm := Lib.hid hnm
  have Hq := Lib.hid (And.intro h0 h1)
  have Hy := Lib.hid hy
  have HY := Lib.hid hY
  obtain ⟨z, hz⟩ : ∃ z, endsOf nm q Y = z := ⟨_, rfl⟩
  have Hz := Lib.hid (show hash (headOf nm q ++ two 32896 ++ joinY Y 133) = z from hz)
  have Hzl := Lib.hid (show z.length = 32 by rw [← hz]; exact hash_length _)
  rw [hz]
  clear hz hnm h0 h1 hy hY
  go_enter Try.func29, Try.ntmps29
  go_wp2_with (first | ((with_reducible apply wpl_box (x := Operand.tmp 0) (cs := keyc nm q) hF); exact rfl; clear hF; intro bk _ hF) | ((with_reducible refine wpl_alloc (dst := some 4) hF (bs zeros) (T := 24) (hz := Try.zeroValue24) ?_ ?_); exact rfl; clear hF; intro bo _ hF) | ((with_reducible apply wpl_loadD hF (T := 55) (hu := Try.underlying55)); exact rfl; (first | exact ⟨0, rfl⟩ | exact ⟨1, rfl⟩ | exact ⟨2, rfl⟩ | exact ⟨3, rfl⟩ | exact ⟨4, rfl⟩ | exact ⟨5, rfl⟩ | exact ⟨6, rfl⟩ | exact ⟨7, rfl⟩ | exact ⟨8, rfl⟩ | exact ⟨9, rfl⟩ | exact ⟨10, rfl⟩ | exact ⟨11, rfl⟩); exact info_key Hnm.out q) | (go_at_call 50; refine (headK nm Hnm.out q 32896 Hq.out.1 Hq.out.2 (by omega) (by omega) _).mono ?_; rintro _ _ ⟨b1, c1, t1, rfl, hc1, hm⟩; replace hF := hF.took hm; clear hm; have H1 := Lib.hid hc1; clear hc1))
  go_loopw [5, 10] (fun u v wr => ∃ (m b c : Nat) (tt : List Value), m ≤ 133 ∧ v = .int .i64 (m : Int) ∧ u = .slice (some ⟨b, 0, none⟩) (22 + 32 * m) c ∧ c = 22 + 32 * m + tt.length ∧ Fr w wr [⟨bk, keyc nm q, 55⟩, ⟨bo, bs zeros, 24⟩, ⟨b, bs (headOf nm q ++ two 32896 ++ joinY Y m) ++ tt, 5⟩]) (fun _ v _ => (133 - intOf v).toNat)
  case atStart => exact ⟨0, b1, c1, t1, by omega, rfl, rfl, H1.out, by simpa [joinY] using hF⟩
  case round =>
    clear hF
    obtain ⟨m, b, c, tt, hm, rfl, rfl, hct, hF⟩ := hrel
    have Hct := Lib.hid hct
    clear hct
    have Hjl := Lib.hid (show (headOf nm q ++ two 32896 ++ joinY Y m).length = 22 + 32 * m by simp [headOf_length Hnm.out, two_length, joinY_length HY.out]; omega)
    by_cases hlt : m < 133
    · have d1 : (m : Int) < 133 := by omega
      have Hyl := Lib.hid (HY.out m)
      go_wp2_with (first | ((refine (Hy.out m hlt _ hF.below).mono ?_); rintro _ _ ⟨rfl, hb⟩; replace hF := hF.call hb; clear hb) | ((with_reducible refine wpl_alloc (dst := some 7) hF (bs zeros) (T := 24) (hz := Try.zeroValue24) ?_ ?_); exact rfl; clear hF; intro bt _ hF) | ((with_reducible apply wpl_store hF 3 (T := 24)); exact rfl; exact rfl; exact rfl; exact info_idl Hyl.out; (focus (simp only [bs_length, zeros_length, Hyl.out, Hyl.out])); exact bs_oneCell _; clear hF; intro _ hF) | ((with_reducible apply wpl_sliceA (T := 24) (hu := Try.underlying24) (he := info_u8_)); exact rfl) | ((with_reducible apply wpl_append (dst := some 18) hF 2 (bs (headOf nm q ++ two 32896 ++ joinY Y m)) (tt) (bs (Y m)) (ht := Try.underlying28) (he := byteElem)); exact rfl; (focus exact rfl); (focus (rw [bs_length]; exact Hjl.out)); (focus (exact Hct.out)); exact rfl; (focus (rw [bs_length]; exact Hyl.out)); (focus (exact Sl.whole hF ⟨3, rfl⟩)); exact bs_oneCell _; (focus omega); (focus (unfold maxLen; omega)); clear hF; intro b2 c2 t2 w2 hc2 hF; have H2 := Lib.hid hc2; clear hc2))
      go_roundw
      case rel =>
        refine ⟨m + 1, b2, c2, t2, by omega, by go_num, rfl, H2.out, ?_⟩
        rw [joinY, ← List.append_assoc, bs_append _ (Y m)]
        exact hF.sub (List.sublist_append_left [_, _, _] _)
      case measure => simp [intOf]; omega
    · obtain rfl : m = 133 := by omega
      go_wp2_with (first | (go_at_call 51; refine (shaSum (headOf nm q ++ two 32896 ++ joinY Y 133) _ _ _ Hjl.out _ (Sl.pre hF ⟨2, rfl⟩) (by omega)).mono ?_; rintro _ _ ⟨rfl, hb⟩; replace hF := hF.call hb; clear hb; rw [Hz.out]) | ((with_reducible apply wpl_store hF 1 (T := 24)); exact rfl; exact rfl; exact rfl; exact info_idl Hzl.out; (focus (simp only [bs_length, zeros_length, Hzl.out, Hzl.out])); exact bs_oneCell _; clear hF; intro _ hF))
      exact post_row hF rfl rfl rfl ⟨1, rfl⟩ Try.underlying24 (info_idl Hzl.out) ⟨rfl, hF.below⟩

set_option maxHeartbeats 4000000 in
theorem public1 (nm : List UInt8) (hnm : nm.length = 16) (q : Int) (seed : List UInt8) (hs : seed.length = 32) (i : Nat) (hi : i < 133) (bk bd : Nat) {w : World} (hk : Row w bk (keyc nm q) 55) (hd : Row w bd (bs seed) 24) :
    Calls Try.prog 30 #[.int .i64 (i : Int), .pointer (some ⟨bk, 0, none⟩), .pointer (some ⟨bd, 0, none⟩)] w fun e w' => e = .returned (agg (chain nm q i 0 (hashOf nm q i 255 seed) 3)) ∧ Below w.heap.size w w' := by
  have hF := Fr.start w
  have Hnm := Lib.hid hnm
  have Hs := Lib.hid hs
  have Hk := Lib.hid hk
  have Hd := Lib.hid hd
  obtain ⟨x, hx⟩ : ∃ x, hashOf nm q i 255 seed = x := ⟨_, rfl⟩
  rw [hx]
  have Hx := Lib.hid hx
  have Hxl := Lib.hid (show x.length = 32 by rw [← hx]; exact hash_length _)
  obtain ⟨z, hz⟩ : ∃ z, chain nm q i 0 x 3 = z := ⟨_, rfl⟩
  rw [hz]
  have Hz := Lib.hid (show chain nm q i ((0 : Nat) : Int) x 3 = z from hz)
  have Hzl := Lib.hid (show z.length = 32 by rw [← hz]; exact chain_length Hxl.out 3)
  clear hx hz hnm hs hk hd
  go_enter Try.func30, Try.ntmps30
  go_wp2_with (first | ((with_reducible refine wpl_alloc (dst := some 4) hF (bs zeros) (T := 24) (hz := Try.zeroValue24) ?_ ?_); exact rfl; clear hF; intro bo _ hF))
  ((refine wp_region_line ([]) ([⟨bo, bs zeros, 24⟩]) [0, 1, 2, 3, 4] ([ln 5, ln 6, ln 7]) (by kernel_rfl) (by kernel_rfl) hF ?_); clear hF; (simp only [planOf, List.filterMap_cons, List.filterMap_nil, List.getElem?_toArray, List.getElem?_cons_succ, List.getElem?_cons_zero, Option.map_some]))
  repeat (first | ((with_reducible apply wq_move); (focus (simp only [Act.eval, Array.getD_eq_getD_getElem?, List.getElem?_toArray, List.getElem?_cons_succ, List.getElem?_cons_zero, Option.getD_some, List.map_toArray, List.map_cons, List.map_nil] <;> exact rfl)); simp only [Act.put, List.setIfInBounds_toArray, List.set_cons_succ, List.set_cons_zero]) | ((with_reducible apply wq_loadRowS (T := 55) (hu := Try.underlying55)); exact rfl; exact Hk.out; exact info_key Hnm.out q; simp only [Act.put, List.setIfInBounds_toArray, List.set_cons_succ, List.set_cons_zero]) | ((with_reducible apply wq_loadRowA (T := 24) (hu := Try.underlying24)); exact rfl; exact Hd.out; exact info_idl Hs.out; simp only [Act.put, List.setIfInBounds_toArray, List.set_cons_succ, List.set_cons_zero]))
  refine wpQuiet_nil ?_
  (refine And.intro ?_ ?_; (focus (repeat (first | (with_reducible exact FOK.nil) | (with_reducible refine FOK.ln ?_) | (with_reducible refine FOK.tk ?_) | (with_reducible refine FOK.fl ?_ ?_; (focus fail))))))
  ((with_reducible apply wpLine_callp (f := 32) (hc := Try.call32)); exact wanted_plain; (focus (simp only [Act.eval, Array.getD_eq_getD_getElem?, List.getElem?_toArray, List.getElem?_cons_succ, List.getElem?_cons_zero, Option.getD_some, List.map_toArray, List.map_cons, List.map_nil] <;> exact rfl)); (focus (intro _ _ hw; exact hashK nm Hnm.out q i 255 seed Hs.out _)); (simp only [Act.put, List.setIfInBounds_toArray, List.set_cons_succ, List.set_cons_zero, List.cons_append, List.nil_append, ← bs_append]))
  rw [Hx.out]
  ((with_reducible apply wpLine_callp (f := 31) (hc := Try.call31)); exact wanted_plain; (focus (simp only [Act.eval, Array.getD_eq_getD_getElem?, List.getElem?_toArray, List.getElem?_cons_succ, List.getElem?_cons_zero, Option.getD_some, List.map_toArray, List.map_cons, List.map_nil] <;> exact rfl)); (focus (intro _ _ hw; exact stepsK nm Hnm.out q i 0 3 3 rfl (by omega) x Hxl.out _)); (simp only [Act.put, List.setIfInBounds_toArray, List.set_cons_succ, List.set_cons_zero, List.cons_append, List.nil_append, ← bs_append]))
  rw [Hz.out]
  ((with_reducible apply wpLine_store 0 (T := 24)); exact wanted_plain; exact rfl; exact rfl; exact rfl; exact info_idl Hzl.out; (focus (simp only [bs_length, zeros_length, Hzl.out])); exact bs_oneCell _; (simp only [Act.put, List.setIfInBounds_toArray, List.set_cons_succ, List.set_cons_zero, List.cons_append, List.nil_append, ← bs_append]))
  ((refine wpLine_nil ?_); intro wl hF)
  go_wp2_with (first | fail)
  exact post_row hF rfl rfl rfl ⟨0, rfl⟩ Try.underlying24 (info_idl Hzl.out) ⟨rfl, hF.below⟩

def secOf (nm : List UInt8) (q : Int) (seed : List UInt8) (i : Nat) : List UInt8 := hashOf nm q i 255 seed
/-- The public key. -/
def pubOf (nm : List UInt8) (q : Int) (seed : List UInt8) : List UInt8 := endsOf nm q fun i => chain nm q i 0 (secOf nm q seed i) 3
theorem pubOf_length (nm : List UInt8) (q : Int) (seed : List UInt8) : (pubOf nm q seed).length = 32 := hash_length _

set_option maxHeartbeats 4000000 in
theorem publicK (nm : List UInt8) (hnm : nm.length = 16) (q : Int) (h0 : -9223372036854775808 ≤ q) (h1 : q ≤ 9223372036854775807) (seed : List UInt8) (hs : seed.length = 32) (w : World) :
    Calls Try.prog 15 #[agg nm, .int .i64 q, agg seed] w fun e w' => e = .returned (agg (pubOf nm q seed)) ∧ Below w.heap.size w w' := by
  have hF := Fr.start w
  have Hnm := Lib.hid hnm
  have Hq := Lib.hid (And.intro h0 h1)
  have Hs := Lib.hid hs
  obtain ⟨z, hz⟩ : ∃ z, pubOf nm q seed = z := ⟨_, rfl⟩
  have Hz := Lib.hid (show endsOf nm q (fun i => chain nm q i 0 (secOf nm q seed i) 3) = z from hz)
  have Hzl := Lib.hid (show z.length = 32 by rw [← hz]; exact hash_length _)
  rw [hz]
  clear hz hnm h0 h1 hs
  go_enter Try.func15, Try.ntmps15
  go_wp2_with (first | ((with_reducible apply wpl_box (x := Operand.tmp 0) hF); exact rfl; clear hF; intro bn _ hF) | ((with_reducible apply wpl_box (x := Operand.tmp 2) hF); exact rfl; clear hF; intro bd _ hF) | ((with_reducible refine wpl_alloc (dst := some 6) hF (bs zeros) (T := 24) (hz := Try.zeroValue24) ?_ ?_); exact rfl; clear hF; intro bo _ hF) | ((with_reducible apply wpl_load hF (T := 22) (hu := Try.underlying22)); exact rfl; (first | exact ⟨0, rfl⟩ | exact ⟨1, rfl⟩ | exact ⟨2, rfl⟩ | exact ⟨3, rfl⟩ | exact ⟨4, rfl⟩ | exact ⟨5, rfl⟩ | exact ⟨6, rfl⟩ | exact ⟨7, rfl⟩ | exact ⟨8, rfl⟩ | exact ⟨9, rfl⟩ | exact ⟨10, rfl⟩ | exact ⟨11, rfl⟩); exact info_nm Hnm.out) | ((with_reducible refine wpl_build (keyv nm q) ?_ ?_); (focus (intro w; simp only [List.map_toArray, List.map_cons, List.map_nil]; exact build_key Hnm.out q w))) | ((with_reducible refine wpl_alloc (dst := some 7) hF (keyc (List.replicate 16 0) 0) (T := 55) (hz := Try.zeroValue55) ?_ ?_); exact rfl; clear hF; intro bk _ hF) | ((with_reducible apply wpl_store hF 3 (T := 55) (cs' := keyc nm q)); exact rfl; exact rfl; exact rfl; exact info_key Hnm.out q; (focus (rw [keyc_length Hnm.out, keyc_length (by simp)])); exact keyc_one nm q; clear hF; intro _ hF) | ((with_reducible apply wpl_loadD hF (T := 55) (hu := Try.underlying55)); exact rfl; (first | exact ⟨0, rfl⟩ | exact ⟨1, rfl⟩ | exact ⟨2, rfl⟩ | exact ⟨3, rfl⟩ | exact ⟨4, rfl⟩ | exact ⟨5, rfl⟩ | exact ⟨6, rfl⟩ | exact ⟨7, rfl⟩ | exact ⟨8, rfl⟩ | exact ⟨9, rfl⟩ | exact ⟨10, rfl⟩ | exact ⟨11, rfl⟩); exact info_key Hnm.out q) | (go_at_call 29; refine (endsK nm Hnm.out q Hq.out.1 Hq.out.2 30 Try.call30 _ (fun i => chain nm q i 0 (secOf nm q seed i) 3) (fun i => chain_length (hashOf_length _ _ _ _ _) 3) (fun i hi w' hb => public1 nm Hnm.out q seed Hs.out i hi _ _ ((hF.isRow (k := 3) rfl).below hb) ((hF.isRow (k := 1) rfl).below hb))).mono ?_; rintro _ _ ⟨rfl, hb⟩; replace hF := hF.call hb; clear hb; rw [Hz.out]) | ((with_reducible apply wpl_store hF 2 (T := 24)); exact rfl; exact rfl; exact rfl; exact info_idl Hzl.out; (focus (simp only [bs_length, zeros_length, Hzl.out, Hzl.out])); exact bs_oneCell _; clear hF; intro _ hF))
  exact post_row hF rfl rfl rfl ⟨2, rfl⟩ Try.underlying24 (info_idl Hzl.out) ⟨rfl, hF.below⟩
end Go.Proofs.Ytbnjgldilckhpaa
