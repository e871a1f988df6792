/-
  THE WALKS of lms.node and latticeref6.node.
-/
import Derived.Test.YtbnjgldilckhpaaLmsA
namespace Go.Proofs.Ytbnjgldilckhpaa
set_option linter.unusedSimpArgs false
set_option linter.unusedVariables false
open Go.RowKit
attribute [local irreducible] wpQuiet Calls wpLine
set_option maxRecDepth 4000

theorem Row.range {w : World} {b : Nat} {xs : List (List UInt8)} {t : TypeId} (h : Row w b (bs xs.flatten) t) (hxs : ∀ x ∈ xs, x.length = 32) {i : Nat} (hi : i < xs.length) : w.rangeAt b (i * 32) (bs (xs.getD i [])) := by
  intro j v hv
  rw [h.cell]
  rw [← row_at xs hxs i hi, List.getElem?_take] at hv
  split at hv
  · rwa [List.getElem?_drop] at hv
  · cases hv
section
variable {P : Program} {ops : Array Oper} {rest : List Oper} {Q : Exit → Act → World → Prop} {a : Act} {w0 w : World} {L : List Blk}
theorem wpl_loadAt {dst : Option Tmp} {T ty : TypeId} {x : Operand} {pos : String} {after : Array Edge} {b o n : Nat} {e : TypeId} (v : List UInt8) (hv : v.length = 32)
    (hx : a.eval x = .pointer (some ⟨b, o, none⟩)) (hr : w.rangeAt b o (bs v)) (hu : P.underlying T = some (.array n e)) (hs : (P.info? T).map (·.size) = some 32)
    (h : wpList P ops Q rest (a.put dst (agg v)) w) :
    wpList P ops Q (⟨dst, .load T x, ty, pos, after, none⟩ :: rest) a w :=
  wpl_here (by simp only [execOp, hx, Sem.run_bind, run_loadAt_mid w b o T (bs v) (.array n e) hr hu rfl (by rw [bs_length, hv]; exact hs), Result.andThen_ok, Sem.run_pure]) h
/-- make of nothing, with room. -/
theorem wpl_make0 (hF : Fr w0 w L) {dst : Option Tmp} {x y : Operand} {t ty : TypeId} {pos : String} {after : Array Edge} {e : TypeId} {z : Value} {bytes : Nat} (ht : P.underlying t = some (.slice e)) (he : Elem P e z bytes)
    {c : Int} (hx : a.eval x = .int .i64 0) (hy : a.eval y = .int .i64 c) (h0 : 0 ≤ c) (hb : (bytes : Int) * c ≤ 281474976710656) (h63 : c ≤ 9223372036854775807)
    (h : ∀ b' w' (tz : List Value), (tz.length : Int) = c → Fr w0 w' (L ++ [⟨b', tz, e⟩]) → wpList P ops Q rest (a.put dst (.slice (some ⟨b', 0, none⟩) 0 c.toNat)) w') :
    wpList P ops Q (⟨dst, .makeSlice t x y, ty, pos, after, none⟩ :: rest) a w :=
  wpl_make hF ht he hx hy (Int.le_refl 0) h0 hb h63 fun b' w' hF' => h b' w' _ (by rw [List.length_replicate]; omega) hF'
end
theorem take_flat (xs : List (List UInt8)) {k : Nat} (hk : k < xs.length) : (xs.take (k + 1)).flatten = (xs.take k).flatten ++ xs.getD k [] := by
  rw [List.take_add_one, List.flatten_append]
  congr 1
  simp [List.getD, hk]

set_option maxHeartbeats 4000000 in
theorem nodeL (nm : List UInt8) (hnm : nm.length = 16) (r : Int) (h0 : -9223372036854775808 ≤ r) (h1 : r ≤ 9223372036854775807) (mark : UInt8) (xs : List (List UInt8)) (hxs : ∀ x ∈ xs, x.length = 32) (m : Nat) (hm : xs.length = m) (hm2 : m ≤ 2) (bl : Nat) {T : TypeId} {w : World} (hr : Row w bl (bs xs.flatten) T) :
    Calls Try.prog 47 #[agg nm, .int .i64 r, B mark, .slice (some ⟨bl, 0, none⟩) m m] w fun e w' => e = .returned (agg (nodeOf nm r mark xs.flatten)) ∧ Below w.heap.size w w' := by
  have hF := Fr.start w
  have Hnm := Lib.hid hnm
  have Hq := Lib.hid (And.intro h0 h1)
  have Hxs := Lib.hid hxs
  have Hm := Lib.hid hm
  have Hr := Lib.hid hr
  obtain ⟨z, hz⟩ : ∃ z, nodeOf nm r mark xs.flatten = z := ⟨_, rfl⟩
  have Hz := Lib.hid (show hash (headOf nm r ++ [mark, mark] ++ xs.flatten) = z from hz)
  have Hzl := Lib.hid (show z.length = 32 by rw [← hz]; exact hash_length _)
  rw [hz]
  clear hz hnm h0 h1 hxs hm hr
  go_enter Try.func47, Try.ntmps47
  go_wp2_with (first | ((with_reducible apply wpl_box (x := Operand.tmp 0) hF); exact rfl; clear hF; intro bn _ hF) | ((with_reducible refine wpl_alloc (dst := some 8) hF (bs zeros) (T := 24) (hz := Try.zeroValue24) ?_ ?_); exact rfl; clear hF; intro bo _ hF) | ((with_reducible apply wpl_make0 hF (ht := Try.underlying28) (he := byteElem)); exact rfl; exact rfl; (focus omega); (focus omega); (focus omega); clear hF; intro g _ tz htz hF; have Htz := Lib.hid htz; clear htz) | ((with_reducible apply wpl_sliceA (T := 22) (hu := Try.underlying22) (he := info_u8_)); exact rfl) | ((with_reducible apply wpl_append (dst := some 19) hF 2 ([]) (tz) (bs nm) (ht := Try.underlying28) (he := byteElem)); exact rfl; (focus exact rfl); (focus (exact rfl)); (focus (have := Htz.out; omega)); exact rfl; (focus (rw [bs_length]; exact Hnm.out)); (focus (exact Sl.whole hF ⟨0, rfl⟩)); exact bs_oneCell _; (focus omega); (focus (unfold maxLen; omega)); clear hF; intro b1 c1 t1 w1 hc1 hF; have H1 := Lib.hid hc1; clear hc1) | (go_at_call 42; refine (fourL r Hq.out.1 Hq.out.2 _).mono ?_; rintro _ _ ⟨b2, c2, t2, rfl, hc2, hm⟩; replace hF := hF.took hm; clear hm; have H2 := Lib.hid hc2; clear hc2) | ((with_reducible apply wpl_append (dst := some 23) hF 2 ([] ++ bs nm) (t1) (bs (four r)) (ht := Try.underlying28) (he := byteElem)); exact rfl; (focus exact rfl); (focus (rw [List.nil_append, bs_length]; exact Hnm.out)); (focus (have := H1.out; omega)); exact rfl; (focus (exact rfl)); (focus (exact Sl.pre hF ⟨3, rfl⟩)); exact bs_oneCell _; (focus omega); (focus (unfold maxLen; omega)); clear hF; intro b3 c3 t3 w3 hc3 hF; have H3 := Lib.hid hc3; clear hc3) | ((with_reducible apply wpl_push hF 2 ([] ++ bs nm ++ bs (four r)) (t3) (bs [mark, mark]) (ht := Try.underlying28) (he := byteElem)); (focus (intro _; exact rfl)); (focus exact rfl); (focus (intro _; exact rfl)); (focus (rw [List.nil_append, List.length_append, bs_length, bs_length, Hnm.out, four_length])); (focus (have := H3.out; omega)); (focus (first | exact rfl | kernel_rfl)); exact rfl; (focus omega); exact bs_oneCell _; (focus omega); (focus (unfold maxLen; omega)); clear hF; intro b4 c4 t4 _ w4 hc4 hF; have H4 := Lib.hid hc4; clear hc4))
  have hF0 : Fr w w4 [⟨bn, bs nm, 22⟩, ⟨bo, bs zeros, 24⟩, ⟨b4, bs (headOf nm r ++ [mark, mark] ++ (xs.take 0).flatten) ++ t4, 5⟩] := by
    have := hF.sub (L' := [_, _, _]) (List.sublist_append_left [_, _, _] _)
    simpa [headOf, bs_append] using this
  clear hF
  go_loopw [9, 31] (fun u v wr => ∃ (k b c : Nat) (tt : List Value), k ≤ m ∧ v = .int .i64 (k : Int) ∧ u = .slice (some ⟨b, 0, none⟩) (22 + 32 * k) c ∧ c = 22 + 32 * k + tt.length ∧ Fr w wr [⟨bn, bs nm, 22⟩, ⟨bo, bs zeros, 24⟩, ⟨b, bs (headOf nm r ++ [mark, mark] ++ (xs.take k).flatten) ++ tt, 5⟩]) (fun _ v _ => ((m : Int) - intOf v).toNat)
  case atStart => exact ⟨0, b4, c4, t4, by omega, rfl, rfl, H4.out, hF0⟩
  case round =>
    clear hF0
    obtain ⟨k, b, c, tt, hk, rfl, rfl, hct, hF⟩ := hrel
    have Hct := Lib.hid hct
    clear hct
    have Hjl := Lib.hid (show (headOf nm r ++ [mark, mark] ++ (xs.take k).flatten).length = 22 + 32 * k by
      have := flat_len (xs.take k) (fun x hx => Hxs.out x (List.mem_of_mem_take hx))
      rw [List.length_take, Hm.out, Nat.min_eq_left hk] at this
      simp [headOf_length Hnm.out, this]
      omega)
    by_cases hlt : k < m
    · have d1 : (k : Int) < (m : Int) := by omega
      obtain ⟨y, hy⟩ : ∃ y, xs.getD k [] = y := ⟨_, rfl⟩
      have Hy := Lib.hid hy
      have Hyl := Lib.hid (show y.length = 32 by rw [← hy]; exact getD_len Hxs.out (by rw [Hm.out]; exact hlt))
      have Hrg := Lib.hid (show ∀ w', Fr w w' [⟨bn, bs nm, 22⟩, ⟨bo, bs zeros, 24⟩, ⟨b, bs (headOf nm r ++ [mark, mark] ++ (xs.take k).flatten) ++ tt, 5⟩] → w'.rangeAt bl (k * 32) (bs y) from fun w' hF' => by rw [← hy]; exact (Hr.out.fr hF').range Hxs.out (by rw [Hm.out]; exact hlt))
      clear hy
      go_wp2_with (first | ((with_reducible apply wpl_idx32 (hu := Try.underlying68) (he := info_id_)); exact rfl; exact rfl; (focus omega); (focus omega)) | ((with_reducible apply wpl_loadAt y Hyl.out (T := 24) (o := k * 32) (hu := Try.underlying24) (hs := info_id_)); exact rfl; exact Hrg.out _ hF) | ((with_reducible refine wpl_alloc (dst := some 11) hF (bs zeros) (T := 24) (hz := Try.zeroValue24) ?_ ?_); exact rfl; clear hF; intro bt _ hF) | ((with_reducible apply wpl_store hF 3 (T := 24)); exact rfl; exact rfl; exact rfl; exact info_idl Hyl.out; (focus (simp only [bs_length, zeros_length, Hyl.out, Hyl.out])); exact bs_oneCell _; clear hF; intro _ hF) | ((with_reducible apply wpl_sliceA (T := 24) (hu := Try.underlying24) (he := info_u8_)); exact rfl) | ((with_reducible apply wpl_append (dst := some 37) hF 2 (bs (headOf nm r ++ [mark, mark] ++ (xs.take k).flatten)) (tt) (bs y) (ht := Try.underlying28) (he := byteElem)); exact rfl; (focus exact rfl); (focus (rw [bs_length]; exact Hjl.out)); (focus (exact Hct.out)); exact rfl; (focus (rw [bs_length]; exact Hyl.out)); (focus (exact Sl.whole hF ⟨3, rfl⟩)); exact bs_oneCell _; (focus omega); (focus (unfold maxLen; omega)); clear hF; intro b2 c2 t2 w2 hc2 hF; have H2 := Lib.hid hc2; clear hc2))
      go_roundw
      case rel =>
        refine ⟨k + 1, b2, c2, t2, by omega, by go_num, rfl, H2.out, ?_⟩
        rw [take_flat xs (by rw [Hm.out]; exact hlt), Hy.out, ← List.append_assoc, bs_append _ y]
        exact hF.sub (List.sublist_append_left [_, _, _] _)
      case measure => simp [intOf]; omega
    · obtain rfl : k = m := by omega
      have e : xs.take k = xs := by rw [← Hm.out]; exact List.take_length
      rw [e] at hF
      have Hjl' := Lib.hid (show (headOf nm r ++ [mark, mark] ++ xs.flatten).length = 22 + 32 * k by rw [← Hjl.out, e])
      go_wp2_with (first | (go_at_call 51; refine (shaSum (headOf nm r ++ [mark, mark] ++ xs.flatten) _ _ _ Hjl'.out _ (Sl.pre hF ⟨2, rfl⟩) (by omega)).mono ?_; rintro _ _ ⟨rfl, hb⟩; replace hF := hF.call hb; clear hb; rw [Hz.out]) | ((with_reducible apply wpl_store hF 1 (T := 24)); exact rfl; exact rfl; exact rfl; exact info_idl Hzl.out; (focus (simp only [bs_length, zeros_length, Hzl.out, Hzl.out])); exact bs_oneCell _; clear hF; intro _ hF))
      exact post_row hF rfl rfl rfl ⟨1, rfl⟩ Try.underlying24 (info_idl Hzl.out) ⟨rfl, hF.below⟩

set_option maxHeartbeats 4000000 in
theorem nodeR (nm : List UInt8) (hnm : nm.length = 16) (r : Int) (h0 : -9223372036854775808 ≤ r) (h1 : r ≤ 9223372036854775807) (mark : UInt8) (body : List UInt8) (p : Option Addr) (m c : Nat) (hm : body.length = m) (hm2 : m ≤ 64) {w : World} (hs : Sl w p (bs body)) :
    Calls Try.prog 49 #[agg nm, .int .i64 r, B mark, .slice p m c] w fun e w' => e = .returned (agg (nodeOf nm r mark body)) ∧ Below w.heap.size w w' := by
  have hF := Fr.start w
  have Hnl := Lib.hid (show (bs nm).length = 16 by rw [bs_length]; exact hnm)
  have Hq := Lib.hid (And.intro h0 h1)
  have Hm := Lib.hid hm
  have Hs := Lib.hid hs
  obtain ⟨z, hz⟩ : ∃ z, nodeOf nm r mark body = z := ⟨_, rfl⟩
  have e : bs (headOf nm r ++ [mark, mark] ++ body) = [] ++ bs nm ++ bs (four r) ++ bs [mark, mark] ++ bs body := by simp only [headOf, bs_append, List.nil_append]
  have He := Lib.hid e
  have Hl := Lib.hid (show (headOf nm r ++ [mark, mark] ++ body).length = 0 + 16 + 4 + 2 + m by simp [headOf_length hnm, hm]; omega)
  have Hz := Lib.hid (show hash (headOf nm r ++ [mark, mark] ++ body) = z from hz)
  have Hzl := Lib.hid (show z.length = 32 by rw [← hz]; exact hash_length _)
  rw [hz]
  clear hz hnm h0 h1 hm hs e
  go_enter Try.func49, Try.ntmps49
  go_wp2_with (first | ((with_reducible apply wpl_box (x := Operand.tmp 0) hF); exact rfl; clear hF; intro bn _ hF) | ((with_reducible refine wpl_alloc (dst := some 8) hF (bs zeros) (T := 24) (hz := Try.zeroValue24) ?_ ?_); exact rfl; clear hF; intro bo _ hF) | ((with_reducible apply wpl_sliceA (T := 22) (hu := Try.underlying22) (he := info_u8_)); exact rfl) | ((with_reducible apply wpl_push hF 2 ([] ++ bs nm ++ bs (four r)) (t2) (bs [mark, mark]) (ht := Try.underlying28) (he := byteElem)); (focus (intro _; exact rfl)); (focus exact rfl); (focus (intro _; exact rfl)); (focus (rw [List.nil_append, List.length_append, bs_length (four r), Hnl.out, four_length])); (focus (have := H2.out; omega)); (focus (first | exact rfl | kernel_rfl)); exact rfl; (focus omega); exact bs_oneCell _; (focus omega); (focus (unfold maxLen; omega)); clear hF; intro b3 c3 t3 _ w3 hc3 hF; have H3 := Lib.hid hc3; clear hc3) | ((with_reducible apply wpl_buildSlice hF (ht := Try.underlying28) (he := byteElem) ([])); (focus omega); (focus (first | exact rfl | kernel_rfl)); clear hF; intro bt _ hF) | ((with_reducible apply wpl_append (dst := some 12) hF 2 ([]) ([]) (bs nm) (ht := Try.underlying28) (he := byteElem)); exact rfl; (focus exact rfl); (focus (exact rfl)); (focus (exact rfl)); exact rfl; (focus (exact Hnl.out)); (focus (exact Sl.whole hF ⟨0, rfl⟩)); exact bs_oneCell _; (focus omega); (focus (unfold maxLen; omega)); clear hF; intro b1 c1 t1 w1 hc1 hF; have H1 := Lib.hid hc1; clear hc1) | (go_at_call 44; refine (four6 r Hq.out.1 Hq.out.2 hF 2 (xs := [] ++ bs nm) (tail := t1) rfl (by rw [List.nil_append]; exact Hnl.out) (by have := H1.out; omega) (by omega)).mono ?_; clear hF; rintro _ _ ⟨b2, c2, t2, rfl, hc2, hF⟩; have H2 := Lib.hid hc2; clear hc2) | ((with_reducible apply wpl_append (dst := some 21) hF 2 ([] ++ bs nm ++ bs (four r) ++ bs [mark, mark]) (t3) (bs body) (ht := Try.underlying28) (he := byteElem)); exact rfl; (focus exact rfl); (focus (rw [List.nil_append, List.length_append, List.length_append, bs_length (four r), bs_length [mark, mark], Hnl.out, four_length]; rfl)); (focus (have := H3.out; omega)); exact rfl; (focus (rw [bs_length]; exact Hm.out)); (focus (exact Hs.out.fr hF)); exact bs_oneCell _; (focus omega); (focus (unfold maxLen; omega)); clear hF; intro b4 c4 t4 w4 hc4 hF; have H4 := Lib.hid hc4; clear hc4) | (go_at_call 36; refine (refSum (headOf nm r ++ [mark, mark] ++ body) _ _ _ Hl.out _ (by rw [He.out]; exact Sl.pre hF ⟨2, rfl⟩) (by omega)).mono ?_; rintro _ _ ⟨rfl, hb⟩; replace hF := hF.call hb; clear hb; rw [Hz.out]) | ((with_reducible apply wpl_store hF 1 (T := 24)); exact rfl; exact rfl; exact rfl; exact info_idl Hzl.out; (focus (simp only [bs_length, zeros_length, Hzl.out, Hzl.out])); exact bs_oneCell _; clear hF; intro _ hF))
  exact post_row hF rfl rfl rfl ⟨1, rfl⟩ Try.underlying24 (info_idl Hzl.out) ⟨rfl, hF.below⟩
end Go.Proofs.Ytbnjgldilckhpaa
