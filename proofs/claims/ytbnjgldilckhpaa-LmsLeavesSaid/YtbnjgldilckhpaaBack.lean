/-
  THE WALKS of ots.Back and of the function that it hands on.
-/
import Derived.Test.YtbnjgldilckhpaaRow2
import Derived.Test.YtbnjgldilckhpaaSign
namespace Go.Proofs.Ytbnjgldilckhpaa
set_option linter.unusedSimpArgs false
set_option linter.unusedVariables false
open Go.RowKit
attribute [local irreducible] wpQuiet Calls wpLine
set_option maxRecDepth 4000

/-- Hash number i of a signature. -/
def partOf (sig : List UInt8) (i : Nat) : List UInt8 := if i < 133 then (sig.drop (36 + 32 * i)).take 32 else zeros
theorem partOf_length {sig : List UInt8} (h : sig.length = 4292) (i : Nat) : (partOf sig i).length = 32 := by
  unfold partOf
  split
  · simp [h]; omega
  · exact zeros_length
/-- What a signature leads back to, and what is wrong with it. -/
def saltOf (sig : List UInt8) : List UInt8 := (sig.drop 4).take 32
def backY (nm : List UInt8) (q : Int) (msg sig : List UInt8) (i : Nat) : List UInt8 := chain nm q i (digOf nm q (saltOf sig) msg i) (partOf sig i) (3 - digOf nm q (saltOf sig) msg i)
def okSig (sig : List UInt8) : Prop := sig.length = 4292 ∧ sig.take 4 = [0, 0, 0, 2]
instance (sig : List UInt8) : Decidable (okSig sig) := inferInstanceAs (Decidable (_ ∧ _))
def backId (nm : List UInt8) (q : Int) (msg sig : List UInt8) : List UInt8 := if okSig sig then endsOf nm q (backY nm q msg sig) else zeros
def backErr (sig : List UInt8) : Int := if okSig sig then 0 else 12
theorem backId_length (nm : List UInt8) (q : Int) (msg sig : List UInt8) : (backId nm q msg sig).length = 32 := by
  unfold backId
  split
  · exact hash_length _
  · exact zeros_length
theorem take4 {sig : List UInt8} (h : 4 ≤ sig.length) : sig.take 4 = [gb sig 0, gb sig 1, gb sig 2, gb sig 3] := by
  rcases sig with _ | ⟨a, _ | ⟨b, _ | ⟨c, _ | ⟨d, t⟩⟩⟩⟩ <;> simp at h
  rfl
theorem splice_whole {L u : List UInt8} (h : L.length = u.length) : splice L 0 u = u := by simp [splice, h]

set_option maxHeartbeats 4000000 in
theorem back1 (nm : List UInt8) (hnm : nm.length = 16) (q : Int) (sig : List UInt8) (hsl : sig.length = 4292) (f : Nat → Nat) (hf4 : ∀ i, f i < 4) (i : Nat) (hi : i < 133) (bl bk ba cs : Nat) (x : Addr) (hcs : 4292 ≤ cs) {w : World} (hl : Row w bl [.slice (some x) 4292 cs] 28) (hk : Row w bk (keyc nm q) 55) (ha : Row w ba (ii f 133) 64) (hs : Sl w (some x) (bs sig)) :
    Calls Try.prog 45 #[.int .i64 (i : Int), .pointer (some ⟨bl, 0, none⟩), .pointer (some ⟨bk, 0, none⟩), .pointer (some ⟨ba, 0, none⟩)] w fun e w' => e = .returned (agg (chain nm q i (f i) (partOf sig i) (3 - f i))) ∧ Below w.heap.size w w' := by
  have hF := Fr.start w
  have Hnm := Lib.hid hnm
  have Hl := Lib.hid hl
  have Hk := Lib.hid hk
  have Ha := Lib.hid ha
  have Hs := Lib.hid hs
  obtain ⟨u, hu⟩ : ∃ u, partOf sig i = u := ⟨_, rfl⟩
  have Hul := Lib.hid (show u.length = 32 by rw [← hu]; exact partOf_length hsl i)
  have Hu := Lib.hid (show ∀ w', Fr w w' [] → Sl w' (some (x.add (36 + 32 * i))) (bs u) by
    intro w' hF'
    rw [← hu, partOf, if_pos hi, ← bs_cut]
    exact (hs.fr hF').sub _ _)
  obtain ⟨k, hk⟩ : ∃ k, f i = k := ⟨_, rfl⟩
  have hk4 : k < 4 := by rw [← hk]; exact hf4 i
  have Hv := Lib.hid (show (ii f 133)[i]? = some (.int .i64 (k : Int)) by rw [ii_get f hi, hk])
  rw [hu, hk]
  obtain ⟨z, hz⟩ : ∃ z, chain nm q i (k : Int) u (3 - k) = z := ⟨_, rfl⟩
  have Hz := Lib.hid hz
  have Hzl := Lib.hid (show z.length = 32 by rw [← hz]; exact chain_length Hul.out _)
  rw [hz]
  clear hz hk hu hs ha hl hnm hsl hf4
  have i0 : (0 : Int) ≤ (i : Int) := by omega
  have i1 : (i : Int) < 133 := by omega
  have g1 : (36 + 32 * (i : Int)).toNat = 36 + 32 * i := by omega
  have hmin : min (4292 - (36 + 32 * i)) 32 = 32 := by omega
  have Hmin := Lib.hid hmin
  clear hmin
  go_enter Try.func45, Try.ntmps45
  go_wp2_with (first | ((with_reducible refine wpl_alloc (dst := some 5) hF (bs zeros) (T := 24) (hz := Try.zeroValue24) ?_ ?_); exact rfl; clear hF; intro bo _ hF) | ((with_reducible refine wpl_alloc (dst := some 6) hF (bs zeros) (T := 24) (hz := Try.zeroValue24) ?_ ?_); exact rfl; clear hF; intro bz _ hF))
  ((refine wp_region_line ([]) ([⟨bo, bs zeros, 24⟩, ⟨bz, bs zeros, 24⟩]) [0, 1, 2, 3, 4, 5] ([ln 6]) (by kernel_rfl) (by kernel_rfl) hF ?_); clear hF; (simp only [planOf, List.filterMap_cons, List.filterMap_nil, List.getElem?_toArray, List.getElem?_cons_succ, List.getElem?_cons_zero, Option.map_some]))
  repeat (first | ((with_reducible apply wq_move); (focus (simp only [Act.eval, Array.getD_eq_getD_getElem?, List.getElem?_toArray, List.getElem?_cons_succ, List.getElem?_cons_zero, Option.getD_some, List.map_toArray, List.map_cons, List.map_nil] <;> exact rfl)); simp only [Act.put, List.setIfInBounds_toArray, List.set_cons_succ, List.set_cons_zero]) | ((with_reducible apply wq_sliceA (T := 24) (hu := Try.underlying24) (he := info_u8_)); exact rfl; simp only [Act.put, List.setIfInBounds_toArray, List.set_cons_succ, List.set_cons_zero]) | ((with_reducible apply wq_load1 (T := 28) (hu := Try.underlying28)); exact rfl; exact (fun w' hF' => by rw [(Hl.out.fr hF').cell]; rfl); simp only [Act.put, List.setIfInBounds_toArray, List.set_cons_succ, List.set_cons_zero]) | ((with_reducible apply wq_mulI); exact rfl; exact rfl; (focus omega); simp only [Act.put, List.setIfInBounds_toArray, List.set_cons_succ, List.set_cons_zero]) | ((with_reducible apply wq_addI); exact rfl; exact rfl; (focus omega); simp only [Act.put, List.setIfInBounds_toArray, List.set_cons_succ, List.set_cons_zero]) | ((with_reducible apply wq_cut_lo (hu := Try.underlying28) (he := info_u8_)); exact rfl; exact rfl; (focus omega); (focus omega); (focus omega); simp only [Act.put, List.setIfInBounds_toArray, List.set_cons_succ, List.set_cons_zero, g1]))
  refine wpQuiet_nil ?_
  (refine And.intro ?_ ?_; (focus (repeat (first | (with_reducible exact FOK.nil) | (with_reducible refine FOK.ln ?_) | (with_reducible refine FOK.tk ?_) | (with_reducible refine FOK.fl ?_ ?_; (focus fail))))))
  ((with_reducible apply wpLine_copy 1 0 (bs u) (hu := Try.underlying28) (hsz := info_u8_)); exact wanted_plain; exact rfl; exact rfl; exact rfl; (focus (simp [bs_length, Hul.out, Hmin.out, zeros_length])); exact rfl; (focus (intro _ _ hw; exact Hu.out _ (hw.sub (List.nil_sublist _)))); (focus (simp [bs_length, splice_len, Hul.out, Hmin.out, zeros_length])); exact bs_oneCell _; exact (show (_ : Int) = (32 : Int) by simp [bs_length, Hul.out, Hmin.out, zeros_length]); (simp only [bs_splice]; (simp only [Act.put, List.setIfInBounds_toArray, List.set_cons_succ, List.set_cons_zero, List.cons_append, List.nil_append, ← bs_append])))
  rw [splice_whole (zeros_length.trans Hul.out.symm)]
  ((refine wpLine_nil ?_); intro wl hF)
  go_wp2_with (first | fail)
  have hF1 := hF.perms (L' := [⟨bz, bs u, 24⟩, ⟨bo, bs zeros, 24⟩]) (List.Perm.swap _ _ _)
  clear hF
  have hF := hF1
  clear hF1
  ((refine wp_region_line ([⟨bz, bs u, 24⟩]) ([⟨bo, bs zeros, 24⟩]) [0, 1, 2, 3, 4, 5] ([ln 6, ln 7]) (by kernel_rfl) (by kernel_rfl) hF ?_); clear hF; (simp only [planOf, List.filterMap_cons, List.filterMap_nil, List.getElem?_toArray, List.getElem?_cons_succ, List.getElem?_cons_zero, Option.map_some]))
  repeat (first | ((with_reducible apply wq_move); (focus (simp only [Act.eval, Array.getD_eq_getD_getElem?, List.getElem?_toArray, List.getElem?_cons_succ, List.getElem?_cons_zero, Option.getD_some, List.map_toArray, List.map_cons, List.map_nil] <;> exact rfl)); simp only [Act.put, List.setIfInBounds_toArray, List.set_cons_succ, List.set_cons_zero]) | ((with_reducible apply wq_loadRowS (T := 55) (hu := Try.underlying55)); exact rfl; exact Hk.out; exact info_key Hnm.out q; simp only [Act.put, List.setIfInBounds_toArray, List.set_cons_succ, List.set_cons_zero]) | ((with_reducible apply wq_idxA (T := 64) (hu := Try.underlying64) (he := info_int_)); exact rfl; exact rfl; (focus omega); (focus omega); simp only [Act.put, List.setIfInBounds_toArray, List.set_cons_succ, List.set_cons_zero, Int.toNat_natCast]) | ((with_reducible apply wq_loadK (T := 3) (hu := Try.underlying3)); exact rfl; exact (fun w' hF' => by rw [(Ha.out.fr hF').cell]; exact Hv.out); simp only [Act.put, List.setIfInBounds_toArray, List.set_cons_succ, List.set_cons_zero]) | ((with_reducible apply wq_load (T := 24) (hu := Try.underlying24)); exact rfl; (first | exact ⟨0, rfl⟩ | exact ⟨1, rfl⟩ | exact ⟨2, rfl⟩ | exact ⟨3, rfl⟩ | exact ⟨4, rfl⟩ | exact ⟨5, rfl⟩ | exact ⟨6, rfl⟩ | exact ⟨7, rfl⟩ | exact ⟨8, rfl⟩ | exact ⟨9, rfl⟩ | exact ⟨10, rfl⟩ | exact ⟨11, rfl⟩); exact info_idl Hul.out; simp only [Act.put, List.setIfInBounds_toArray, List.set_cons_succ, List.set_cons_zero]))
  refine wpQuiet_nil ?_
  (refine And.intro ?_ ?_; (focus (repeat (first | (with_reducible exact FOK.nil) | (with_reducible refine FOK.ln ?_) | (with_reducible refine FOK.tk ?_) | (with_reducible refine FOK.fl ?_ ?_; (focus fail))))))
  ((with_reducible apply wpLine_callp (f := 31) (hc := Try.call31)); exact wanted_plain; (focus (simp only [Act.eval, Array.getD_eq_getD_getElem?, List.getElem?_toArray, List.getElem?_cons_succ, List.getElem?_cons_zero, Option.getD_some, List.map_toArray, List.map_cons, List.map_nil] <;> exact rfl)); (focus (intro _ _ hw; exact stepsK nm Hnm.out q (i : Int) k (3 - k) 3 (by omega) (by omega) u Hul.out _)); (simp only [Act.put, List.setIfInBounds_toArray, List.set_cons_succ, List.set_cons_zero, List.cons_append, List.nil_append, ← bs_append]))
  rw [Hz.out]
  ((with_reducible apply wpLine_store 0 (T := 24)); exact wanted_plain; exact rfl; exact rfl; exact rfl; exact info_idl Hzl.out; (focus (simp only [bs_length, zeros_length, Hzl.out])); exact bs_oneCell _; (simp only [Act.put, List.setIfInBounds_toArray, List.set_cons_succ, List.set_cons_zero, List.cons_append, List.nil_append, ← bs_append]))
  ((refine wpLine_nil ?_); intro wl hF)
  go_wp2_with (first | fail)
  exact post_row hF rfl rfl rfl ⟨1, rfl⟩ Try.underlying24 (info_idl Hzl.out) ⟨rfl, hF.below⟩

theorem info_slice (v : Value) : (Try.prog.info? 28).map (·.size) = some [v].length := by kernel_rfl
set_option maxHeartbeats 8000000 in
theorem backK (nm : List UInt8) (hnm : nm.length = 16) (q : Int) (h0 : -9223372036854775808 ≤ q) (h1 : q ≤ 9223372036854775807) (msg : List UInt8) (pm : Option Addr) (lm cm : Nat) (hm : msg.length = lm) (hlim : lm ≤ 1000000) (sig : List UInt8) (ps : Option Addr) (ls cs : Nat) (hsl : sig.length = ls) (hcs : ls ≤ cs) {w : World} (hsm : Sl w pm (bs msg)) (hss : Sl w ps (bs sig)) :
    Calls Try.prog 22 #[agg nm, .int .i64 q, .slice pm lm cm, .slice ps ls cs] w fun e w' => e = .returned (.tuple #[agg (backId nm q msg sig), .int .i64 (backErr sig)]) ∧ Below w.heap.size w w' := by
  have hF := Fr.start w
  have Hnm := Lib.hid hnm
  have Hq := Lib.hid (And.intro h0 h1)
  have Hm := Lib.hid hm
  have Hsm := Lib.hid hsm
  have Hss := Lib.hid hss
  obtain ⟨z, hz⟩ : ∃ z, backId nm q msg sig = z := ⟨_, rfl⟩
  obtain ⟨er, her⟩ : ∃ r, backErr sig = r := ⟨_, rfl⟩
  rw [hz, her]
  have Hz := Lib.hid hz
  have Her := Lib.hid her
  have Hsl := Lib.hid hsl
  clear hz her h0 h1 hm hsm hss hnm hsl
  by_cases hlen : ls = 4292
  · subst hlen
    obtain ⟨x, rfl⟩ := Hss.out.addr (by rw [bs_length, Hsl.out]; omega)
    have c0 := Lib.hid (Hss.out.cell (bs_get (i := 0) (by rw [Hsl.out]; omega)))
    have c1 := Lib.hid (Hss.out.cell (bs_get (i := 1) (by rw [Hsl.out]; omega)))
    have c2 := Lib.hid (Hss.out.cell (bs_get (i := 2) (by rw [Hsl.out]; omega)))
    have c3 := Lib.hid (Hss.out.cell (bs_get (i := 3) (by rw [Hsl.out]; omega)))
    have Hno := Lib.hid (show sig.take 4 ≠ [0, 0, 0, 2] → z = zeros ∧ er = 12 by
      intro h
      rw [← Hz.out, ← Her.out, backId, backErr, if_neg (fun h2 => h h2.2), if_neg (fun h2 => h h2.2)]
      exact ⟨rfl, rfl⟩)
    have h4 := take4 (sig := sig) (by rw [Hsl.out]; omega)
    obtain ⟨g0, hg0⟩ : ∃ g, gb sig 0 = g := ⟨_, rfl⟩
    obtain ⟨g1, hg1⟩ : ∃ g, gb sig 1 = g := ⟨_, rfl⟩
    obtain ⟨g2, hg2⟩ : ∃ g, gb sig 2 = g := ⟨_, rfl⟩
    obtain ⟨g3, hg3⟩ : ∃ g, gb sig 3 = g := ⟨_, rfl⟩
    rw [hg0, hg1, hg2, hg3] at h4
    rw [hg0] at c0
    rw [hg1] at c1
    rw [hg2] at c2
    rw [hg3] at c3
    clear hg0 hg1 hg2 hg3
    rw [h4] at Hno
    have H4 := Lib.hid h4
    clear h4
    by_cases n0 : (g0.toNat : Int) = 0
    · by_cases n1 : (g1.toNat : Int) = 0
      · by_cases n2 : (g2.toNat : Int) = 0
        · by_cases n3 : (g3.toNat : Int) = 2
          · have hok : okSig sig := by
              refine ⟨Hsl.out, ?_⟩
              rw [H4.out]
              have e0 : g0 = 0 := UInt8.toNat_inj.1 (by show g0.toNat = 0; omega)
              have e1 : g1 = 0 := UInt8.toNat_inj.1 (by show g1.toNat = 0; omega)
              have e2 : g2 = 0 := UInt8.toNat_inj.1 (by show g2.toNat = 0; omega)
              have e3 : g3 = 2 := UInt8.toNat_inj.1 (by show g3.toNat = 2; omega)
              rw [e0, e1, e2, e3]
            obtain rfl : er = 0 := by rw [← Her.out, backErr, if_pos hok]
            obtain ⟨c, hc⟩ : ∃ c, saltOf sig = c := ⟨_, rfl⟩
            have Hcl := Lib.hid (show c.length = 32 by rw [← hc]; simp [saltOf, Hsl.out])
            have Hcs := Lib.hid (show Sl w (some (x.add 4)) (bs c) by
              rw [← hc, saltOf, ← bs_cut]
              exact Hss.out.sub _ _)
            obtain ⟨f, hf⟩ : ∃ f, digOf nm q c msg = f := ⟨_, rfl⟩
            have Hf := Lib.hid hf
            have Hf4 := Lib.hid (show ∀ i, f i < 4 by intro i; rw [← hf]; exact digOf_lt _ _ _ _ _)
            obtain ⟨Y, hY⟩ : ∃ Y, backY nm q msg sig = Y := ⟨_, rfl⟩
            have HYe := Lib.hid (show ∀ i : Nat, chain nm q i (f i : Int) (partOf sig i) (3 - f i) = Y i by intro i; rw [← hY, ← hf, ← hc]; rfl)
            have HY := Lib.hid (show ∀ i, (Y i).length = 32 by intro i; rw [← HYe.out]; exact chain_length (partOf_length Hsl.out i) _)
            have Hze := Lib.hid (show endsOf nm q Y = z by rw [← Hz.out, backId, if_pos hok, hY])
            have Hzl := Lib.hid (show z.length = 32 by rw [← Hze.out]; exact hash_length _)
            clear hok hc hf hY
            go_enter Try.func22, Try.ntmps22
            go_wp2_with (first | (first | ((with_reducible apply wpl_box (x := Operand.tmp 0) hF); exact rfl; clear hF; intro bn _ hF) | ((with_reducible apply wpl_box1 (x := Operand.tmp 3) hF); exact rfl; exact rfl; clear hF; intro bl _ hF) | ((with_reducible refine wpl_alloc (dst := some 8) hF (bs zeros) (T := 24) (hz := Try.zeroValue24) ?_ ?_); exact rfl; clear hF; intro bo _ hF) | ((with_reducible apply wpl_load1 hF (T := 28) (hu := Try.underlying28)); exact rfl; (first | exact ⟨0, rfl⟩ | exact ⟨1, rfl⟩ | exact ⟨2, rfl⟩ | exact ⟨3, rfl⟩ | exact ⟨4, rfl⟩ | exact ⟨5, rfl⟩ | exact ⟨6, rfl⟩ | exact ⟨7, rfl⟩ | exact ⟨8, rfl⟩ | exact ⟨9, rfl⟩ | exact ⟨10, rfl⟩ | exact ⟨11, rfl⟩); exact rfl) | ((with_reducible apply wpl_idxS' (hu := Try.underlying28) (he := info_u8_)); exact rfl; exact rfl; (focus omega); (focus omega)) | ((with_reducible apply wpl_loadC (T := 5) (hu := Try.underlying5)); exact rfl; (focus (first | exact hF.old c0.out | exact hF.old c1.out | exact hF.old c2.out | exact hF.old c3.out))) | go_skip | ((with_reducible refine wpl_unguard ?_ ?_); (focus (go_simp; done))) | ((with_reducible apply wpl_store hF 2 (T := 24) (cs' := bs zeros)); exact rfl; (focus (first | exact rfl | kernel_rfl)); exact rfl; exact info_idl zeros_length; exact rfl; exact bs_oneCell _; clear hF; intro _ hF)) | ((with_reducible apply wpl_load hF (T := 22) (hu := Try.underlying22)); exact rfl; (first | exact ⟨0, rfl⟩ | exact ⟨1, rfl⟩ | exact ⟨2, rfl⟩ | exact ⟨3, rfl⟩ | exact ⟨4, rfl⟩ | exact ⟨5, rfl⟩ | exact ⟨6, rfl⟩ | exact ⟨7, rfl⟩ | exact ⟨8, rfl⟩ | exact ⟨9, rfl⟩ | exact ⟨10, rfl⟩ | exact ⟨11, rfl⟩); exact info_nm Hnm.out) | ((with_reducible refine wpl_build (keyv nm q) ?_ ?_); (focus (intro w; simp only [List.map_toArray, List.map_cons, List.map_nil]; exact build_key Hnm.out q w))) | ((with_reducible refine wpl_alloc (dst := some 10) hF (keyc (List.replicate 16 0) 0) (T := 55) (hz := Try.zeroValue55) ?_ ?_); exact rfl; clear hF; intro bk _ hF) | ((with_reducible apply wpl_store hF 3 (T := 55) (cs' := keyc nm q)); exact rfl; exact rfl; exact rfl; exact info_key Hnm.out q; (focus (rw [keyc_length Hnm.out, keyc_length (by simp)])); exact keyc_one nm q; clear hF; intro _ hF) | ((with_reducible refine wpl_alloc (dst := some 11) hF (bs zeros) (T := 24) (hz := Try.zeroValue24) ?_ ?_); exact rfl; clear hF; intro bc _ hF))
            ((refine wp_region_line ([⟨bn, bs nm, 22⟩, ⟨bl, [.slice (some x) 4292 cs], 28⟩]) ([⟨bo, bs zeros, 24⟩, ⟨bk, keyc nm q, 55⟩, ⟨bc, bs zeros, 24⟩]) [0, 1, 2] ([ln 3]) (by kernel_rfl) (by kernel_rfl) hF ?_); clear hF; (simp only [planOf, List.filterMap_cons, List.filterMap_nil, List.getElem?_toArray, List.getElem?_cons_succ, List.getElem?_cons_zero, Option.map_some]))
            repeat (first | ((with_reducible apply wq_move); (focus (simp only [Act.eval, Array.getD_eq_getD_getElem?, List.getElem?_toArray, List.getElem?_cons_succ, List.getElem?_cons_zero, Option.getD_some, List.map_toArray, List.map_cons, List.map_nil] <;> exact rfl)); simp only [Act.put, List.setIfInBounds_toArray, List.set_cons_succ, List.set_cons_zero]) | ((with_reducible apply wq_sliceA (T := 24) (hu := Try.underlying24) (he := info_u8_)); exact rfl; simp only [Act.put, List.setIfInBounds_toArray, List.set_cons_succ, List.set_cons_zero]) | ((with_reducible apply wq_load1 (T := 28) (hu := Try.underlying28)); exact rfl; exact (fun w' hF' => by rw [hF'.cell (k := 1) rfl]; rfl); simp only [Act.put, List.setIfInBounds_toArray, List.set_cons_succ, List.set_cons_zero]) | ((with_reducible apply wq_cut_lo (hu := Try.underlying28) (he := info_u8_)); exact rfl; exact rfl; (focus omega); (focus omega); (focus omega); simp only [Act.put, List.setIfInBounds_toArray, List.set_cons_succ, List.set_cons_zero, Int.toNat_natCast]))
            refine wpQuiet_nil ?_
            (refine And.intro ?_ ?_; (focus (repeat (first | (with_reducible exact FOK.nil) | (with_reducible refine FOK.ln ?_) | (with_reducible refine FOK.tk ?_) | (with_reducible refine FOK.fl ?_ ?_; (focus fail))))))
            ((with_reducible apply wpLine_copy 2 0 (bs c) (hu := Try.underlying28) (hsz := info_u8_)); exact wanted_plain; exact rfl; exact rfl; exact rfl; (focus (simp [bs_length, Hcl.out, zeros_length])); exact rfl; (focus (intro _ _ hw; exact Hcs.out.fr hw)); (focus (simp [bs_length, splice_len, Hcl.out, zeros_length])); exact bs_oneCell _; exact (show (_ : Int) = (32 : Int) by simp [bs_length, Hcl.out, zeros_length]); (simp only [bs_splice]; (simp only [Act.put, List.setIfInBounds_toArray, List.set_cons_succ, List.set_cons_zero, List.cons_append, List.nil_append, ← bs_append])))
            rw [splice_whole (zeros_length.trans Hcl.out.symm)]
            ((refine wpLine_nil ?_); intro wl hF)
            go_wp2_with (first | ((with_reducible apply wpl_loadD hF (T := 55) (hu := Try.underlying55)); exact rfl; (first | exact ⟨0, rfl⟩ | exact ⟨1, rfl⟩ | exact ⟨2, rfl⟩ | exact ⟨3, rfl⟩ | exact ⟨4, rfl⟩ | exact ⟨5, rfl⟩ | exact ⟨6, rfl⟩ | exact ⟨7, rfl⟩ | exact ⟨8, rfl⟩ | exact ⟨9, rfl⟩ | exact ⟨10, rfl⟩ | exact ⟨11, rfl⟩); exact info_key Hnm.out q) | ((with_reducible apply wpl_load hF (T := 24) (hu := Try.underlying24)); exact rfl; (first | exact ⟨0, rfl⟩ | exact ⟨1, rfl⟩ | exact ⟨2, rfl⟩ | exact ⟨3, rfl⟩ | exact ⟨4, rfl⟩ | exact ⟨5, rfl⟩ | exact ⟨6, rfl⟩ | exact ⟨7, rfl⟩ | exact ⟨8, rfl⟩ | exact ⟨9, rfl⟩ | exact ⟨10, rfl⟩ | exact ⟨11, rfl⟩); exact info_idl Hcl.out) | (go_at_call 37; refine (digitsK nm Hnm.out q Hq.out.1 Hq.out.2 c Hcl.out msg pm lm cm Hm.out (by omega) (Hsm.out.fr hF)).mono ?_; rintro _ _ ⟨rfl, hb⟩; replace hF := hF.call hb; clear hb; rw [Hf.out]) | ((with_reducible refine wpl_alloc (dst := some 12) hF (List.replicate 133 (.int .i64 0)) (T := 64) (hz := zero133) ?_ ?_); exact rfl; clear hF; intro ba _ hF) | ((with_reducible apply wpl_store hF 5 (T := 64)); exact rfl; exact rfl; exact rfl; exact info_133 (ii_length f 133); (focus (rw [ii_length, List.length_replicate])); exact ii_one f 133; clear hF; intro _ hF) | (go_at_call 29; refine (endsK nm Hnm.out q Hq.out.1 Hq.out.2 45 Try.call45 _ Y HY.out (fun i hi w' hb => by rw [← HYe.out i]; exact back1 nm Hnm.out q sig Hsl.out f Hf4.out i hi _ _ _ cs x (by omega) ((hF.isRow (k := 1) rfl).below hb) ((hF.isRow (k := 3) rfl).below hb) ((hF.isRow (k := 5) rfl).below hb) ((Hss.out.fr hF).below hb))).mono ?_; rintro _ _ ⟨rfl, hb⟩; replace hF := hF.call hb; clear hb; rw [Hze.out]) | ((with_reducible apply wpl_store hF 2 (T := 24)); exact rfl; exact rfl; exact rfl; exact info_idl Hzl.out; (focus (simp only [bs_length, zeros_length, Hzl.out, Hzl.out])); exact bs_oneCell _; clear hF; intro _ hF))
            exact post_row_tmp hF rfl rfl rfl rfl ⟨2, rfl⟩ Try.underlying24 (info_idl Hzl.out) ⟨rfl, hF.below⟩
          · obtain ⟨rfl, rfl⟩ := Hno.out (fun h => by simp only [List.cons.injEq, and_true] at h; exact n3 (by rw [h.2.2.2]; rfl))
            go_enter Try.func22, Try.ntmps22; go_wp2_with (first | ((with_reducible apply wpl_box (x := Operand.tmp 0) hF); exact rfl; clear hF; intro bn _ hF) | ((with_reducible apply wpl_box1 (x := Operand.tmp 3) hF); exact rfl; exact rfl; clear hF; intro bl _ hF) | ((with_reducible refine wpl_alloc (dst := some 8) hF (bs zeros) (T := 24) (hz := Try.zeroValue24) ?_ ?_); exact rfl; clear hF; intro bo _ hF) | ((with_reducible apply wpl_load1 hF (T := 28) (hu := Try.underlying28)); exact rfl; (first | exact ⟨0, rfl⟩ | exact ⟨1, rfl⟩ | exact ⟨2, rfl⟩ | exact ⟨3, rfl⟩ | exact ⟨4, rfl⟩ | exact ⟨5, rfl⟩ | exact ⟨6, rfl⟩ | exact ⟨7, rfl⟩ | exact ⟨8, rfl⟩ | exact ⟨9, rfl⟩ | exact ⟨10, rfl⟩ | exact ⟨11, rfl⟩); exact rfl) | ((with_reducible apply wpl_idxS' (hu := Try.underlying28) (he := info_u8_)); exact rfl; exact rfl; (focus omega); (focus omega)) | ((with_reducible apply wpl_loadC (T := 5) (hu := Try.underlying5)); exact rfl; (focus (first | exact hF.old c0.out | exact hF.old c1.out | exact hF.old c2.out | exact hF.old c3.out))) | go_skip | ((with_reducible refine wpl_unguard ?_ ?_); (focus (go_simp; done))) | ((with_reducible apply wpl_store hF 2 (T := 24) (cs' := bs zeros)); exact rfl; (focus (first | exact rfl | kernel_rfl)); exact rfl; exact info_idl zeros_length; exact rfl; exact bs_oneCell _; clear hF; intro _ hF)); exact post_row_tmp hF rfl rfl rfl rfl ⟨2, rfl⟩ Try.underlying24 (info_idl zeros_length) ⟨rfl, hF.below⟩
        · obtain ⟨rfl, rfl⟩ := Hno.out (fun h => by simp only [List.cons.injEq, and_true] at h; exact n2 (by rw [h.2.2.1]; rfl))
          go_enter Try.func22, Try.ntmps22; go_wp2_with (first | ((with_reducible apply wpl_box (x := Operand.tmp 0) hF); exact rfl; clear hF; intro bn _ hF) | ((with_reducible apply wpl_box1 (x := Operand.tmp 3) hF); exact rfl; exact rfl; clear hF; intro bl _ hF) | ((with_reducible refine wpl_alloc (dst := some 8) hF (bs zeros) (T := 24) (hz := Try.zeroValue24) ?_ ?_); exact rfl; clear hF; intro bo _ hF) | ((with_reducible apply wpl_load1 hF (T := 28) (hu := Try.underlying28)); exact rfl; (first | exact ⟨0, rfl⟩ | exact ⟨1, rfl⟩ | exact ⟨2, rfl⟩ | exact ⟨3, rfl⟩ | exact ⟨4, rfl⟩ | exact ⟨5, rfl⟩ | exact ⟨6, rfl⟩ | exact ⟨7, rfl⟩ | exact ⟨8, rfl⟩ | exact ⟨9, rfl⟩ | exact ⟨10, rfl⟩ | exact ⟨11, rfl⟩); exact rfl) | ((with_reducible apply wpl_idxS' (hu := Try.underlying28) (he := info_u8_)); exact rfl; exact rfl; (focus omega); (focus omega)) | ((with_reducible apply wpl_loadC (T := 5) (hu := Try.underlying5)); exact rfl; (focus (first | exact hF.old c0.out | exact hF.old c1.out | exact hF.old c2.out | exact hF.old c3.out))) | go_skip | ((with_reducible refine wpl_unguard ?_ ?_); (focus (go_simp; done))) | ((with_reducible apply wpl_store hF 2 (T := 24) (cs' := bs zeros)); exact rfl; (focus (first | exact rfl | kernel_rfl)); exact rfl; exact info_idl zeros_length; exact rfl; exact bs_oneCell _; clear hF; intro _ hF)); exact post_row_tmp hF rfl rfl rfl rfl ⟨2, rfl⟩ Try.underlying24 (info_idl zeros_length) ⟨rfl, hF.below⟩
      · obtain ⟨rfl, rfl⟩ := Hno.out (fun h => by simp only [List.cons.injEq, and_true] at h; exact n1 (by rw [h.2.1]; rfl))
        go_enter Try.func22, Try.ntmps22; go_wp2_with (first | ((with_reducible apply wpl_box (x := Operand.tmp 0) hF); exact rfl; clear hF; intro bn _ hF) | ((with_reducible apply wpl_box1 (x := Operand.tmp 3) hF); exact rfl; exact rfl; clear hF; intro bl _ hF) | ((with_reducible refine wpl_alloc (dst := some 8) hF (bs zeros) (T := 24) (hz := Try.zeroValue24) ?_ ?_); exact rfl; clear hF; intro bo _ hF) | ((with_reducible apply wpl_load1 hF (T := 28) (hu := Try.underlying28)); exact rfl; (first | exact ⟨0, rfl⟩ | exact ⟨1, rfl⟩ | exact ⟨2, rfl⟩ | exact ⟨3, rfl⟩ | exact ⟨4, rfl⟩ | exact ⟨5, rfl⟩ | exact ⟨6, rfl⟩ | exact ⟨7, rfl⟩ | exact ⟨8, rfl⟩ | exact ⟨9, rfl⟩ | exact ⟨10, rfl⟩ | exact ⟨11, rfl⟩); exact rfl) | ((with_reducible apply wpl_idxS' (hu := Try.underlying28) (he := info_u8_)); exact rfl; exact rfl; (focus omega); (focus omega)) | ((with_reducible apply wpl_loadC (T := 5) (hu := Try.underlying5)); exact rfl; (focus (first | exact hF.old c0.out | exact hF.old c1.out | exact hF.old c2.out | exact hF.old c3.out))) | go_skip | ((with_reducible refine wpl_unguard ?_ ?_); (focus (go_simp; done))) | ((with_reducible apply wpl_store hF 2 (T := 24) (cs' := bs zeros)); exact rfl; (focus (first | exact rfl | kernel_rfl)); exact rfl; exact info_idl zeros_length; exact rfl; exact bs_oneCell _; clear hF; intro _ hF)); exact post_row_tmp hF rfl rfl rfl rfl ⟨2, rfl⟩ Try.underlying24 (info_idl zeros_length) ⟨rfl, hF.below⟩
    · obtain ⟨rfl, rfl⟩ := Hno.out (fun h => by simp only [List.cons.injEq, and_true] at h; exact n0 (by rw [h.1]; rfl))
      go_enter Try.func22, Try.ntmps22; go_wp2_with (first | ((with_reducible apply wpl_box (x := Operand.tmp 0) hF); exact rfl; clear hF; intro bn _ hF) | ((with_reducible apply wpl_box1 (x := Operand.tmp 3) hF); exact rfl; exact rfl; clear hF; intro bl _ hF) | ((with_reducible refine wpl_alloc (dst := some 8) hF (bs zeros) (T := 24) (hz := Try.zeroValue24) ?_ ?_); exact rfl; clear hF; intro bo _ hF) | ((with_reducible apply wpl_load1 hF (T := 28) (hu := Try.underlying28)); exact rfl; (first | exact ⟨0, rfl⟩ | exact ⟨1, rfl⟩ | exact ⟨2, rfl⟩ | exact ⟨3, rfl⟩ | exact ⟨4, rfl⟩ | exact ⟨5, rfl⟩ | exact ⟨6, rfl⟩ | exact ⟨7, rfl⟩ | exact ⟨8, rfl⟩ | exact ⟨9, rfl⟩ | exact ⟨10, rfl⟩ | exact ⟨11, rfl⟩); exact rfl) | ((with_reducible apply wpl_idxS' (hu := Try.underlying28) (he := info_u8_)); exact rfl; exact rfl; (focus omega); (focus omega)) | ((with_reducible apply wpl_loadC (T := 5) (hu := Try.underlying5)); exact rfl; (focus (first | exact hF.old c0.out | exact hF.old c1.out | exact hF.old c2.out | exact hF.old c3.out))) | go_skip | ((with_reducible refine wpl_unguard ?_ ?_); (focus (go_simp; done))) | ((with_reducible apply wpl_store hF 2 (T := 24) (cs' := bs zeros)); exact rfl; (focus (first | exact rfl | kernel_rfl)); exact rfl; exact info_idl zeros_length; exact rfl; exact bs_oneCell _; clear hF; intro _ hF)); exact post_row_tmp hF rfl rfl rfl rfl ⟨2, rfl⟩ Try.underlying24 (info_idl zeros_length) ⟨rfl, hF.below⟩
  · obtain ⟨rfl, rfl⟩ : z = zeros ∧ er = 12 := by
      rw [← Hz.out, ← Her.out, backId, backErr, if_neg (fun h2 => hlen (Hsl.out.symm.trans h2.1)), if_neg (fun h2 => hlen (Hsl.out.symm.trans h2.1))]
      exact ⟨rfl, rfl⟩
    have n9 : ((ls : Int) != 4292) = true := by simp; omega
    have c0 := n9
    have c1 := n9
    have c2 := n9
    have c3 := n9
    go_enter Try.func22, Try.ntmps22; go_wp2_with (first | ((with_reducible apply wpl_box (x := Operand.tmp 0) hF); exact rfl; clear hF; intro bn _ hF) | ((with_reducible apply wpl_box1 (x := Operand.tmp 3) hF); exact rfl; exact rfl; clear hF; intro bl _ hF) | ((with_reducible refine wpl_alloc (dst := some 8) hF (bs zeros) (T := 24) (hz := Try.zeroValue24) ?_ ?_); exact rfl; clear hF; intro bo _ hF) | ((with_reducible apply wpl_load1 hF (T := 28) (hu := Try.underlying28)); exact rfl; (first | exact ⟨0, rfl⟩ | exact ⟨1, rfl⟩ | exact ⟨2, rfl⟩ | exact ⟨3, rfl⟩ | exact ⟨4, rfl⟩ | exact ⟨5, rfl⟩ | exact ⟨6, rfl⟩ | exact ⟨7, rfl⟩ | exact ⟨8, rfl⟩ | exact ⟨9, rfl⟩ | exact ⟨10, rfl⟩ | exact ⟨11, rfl⟩); exact rfl) | ((with_reducible apply wpl_idxS' (hu := Try.underlying28) (he := info_u8_)); exact rfl; exact rfl; (focus omega); (focus omega)) | ((with_reducible apply wpl_loadC (T := 5) (hu := Try.underlying5)); exact rfl; (focus (first | exact hF.old c0.out | exact hF.old c1.out | exact hF.old c2.out | exact hF.old c3.out))) | go_skip | ((with_reducible refine wpl_unguard ?_ ?_); (focus (go_simp; done))) | ((with_reducible apply wpl_store hF 2 (T := 24) (cs' := bs zeros)); exact rfl; (focus (first | exact rfl | kernel_rfl)); exact rfl; exact info_idl zeros_length; exact rfl; exact bs_oneCell _; clear hF; intro _ hF)); exact post_row_tmp hF rfl rfl rfl rfl ⟨2, rfl⟩ Try.underlying24 (info_idl zeros_length) ⟨rfl, hF.below⟩
end Go.Proofs.Ytbnjgldilckhpaa
