/-
  THE WALK of latticeref5.Back.
-/
import Derived.Test.YtbnjgldilckhpaaBack
namespace Go.Proofs.Ytbnjgldilckhpaa
set_option linter.unusedSimpArgs false
set_option linter.unusedVariables false
open Go.RowKit
attribute [local irreducible] wpQuiet Calls wpLine
set_option maxRecDepth 4000

theorem four_two : four 2 = [0, 0, 0, 2] := by decide
/-- The first k bytes are laid. -/
def layZ (u : List UInt8) (k : Nat) : List UInt8 := u.take k ++ zeros.drop k
theorem layZ_length {u : List UInt8} (h : u.length = 32) {k : Nat} (hk : k ≤ 32) : (layZ u k).length = 32 := by
  simp [layZ, h, zeros_length]; omega
theorem layZ_set {u : List UInt8} (h : u.length = 32) {k : Nat} (hk : k < 32) : (layZ u k).set k (gb u k) = layZ u (k + 1) := by
  have e := fill_set (pre := u.take k) (z := zeros) (n := k) (x := gb u k) (by rw [List.length_take, h]; omega) (by rw [zeros_length]; exact hk)
  rw [layZ, e, layZ, List.take_add_one, List.getElem?_eq_getElem (by omega), gb_eq (by omega)]
  rfl
theorem gb_cut (l : List UInt8) (o m k : Nat) (hk : k < m) : gb ((l.drop o).take m) k = gb l (o + k) := by
  simp [gb, List.getD, List.getElem?_take, hk, List.getElem?_drop]

set_option maxHeartbeats 8000000 in
theorem refBack (nm : List UInt8) (hnm : nm.length = 16) (q : Int) (h0 : -9223372036854775808 ≤ q) (h1 : q ≤ 9223372036854775807) (msg : List UInt8) (pm : Option Addr) (lm cm : Nat) (hm : msg.length = lm) (hlim : lm ≤ 1000000) (sig : List UInt8) (ps : Option Addr) (ls cs : Nat) (hsl : sig.length = ls) (hcs : ls ≤ cs) {w : World} (hsm : Sl w pm (bs msg)) (hss : Sl w ps (bs sig)) :
    Calls Try.prog 23 #[agg nm, .int .i64 q, .slice pm lm cm, .slice ps ls cs] w fun e w' => e = .returned (.tuple #[agg (backId nm q msg sig), .int .i64 (backErr sig)]) ∧ Below w.heap.size w w' := by
  have hF := Fr.start w
  have Hnm := Lib.hid hnm
  have Hq := Lib.hid (And.intro h0 h1)
  have Hm := Lib.hid hm
  have Hsm := Lib.hid hsm
  have Hss := Lib.hid hss
  obtain ⟨z, hz⟩ : ∃ z, backId nm q msg sig = z := ⟨_, rfl⟩
  obtain ⟨er, her⟩ : ∃ r, backErr sig = r := ⟨_, rfl⟩
  rw [hz, her]
  have Hz := Lib.hid hz
  have Her := Lib.hid her
  have Hsl := Lib.hid hsl
  clear hz her h0 h1 hm hsm hss hnm hsl
  by_cases hlen : ls = 4292
  · subst hlen
    obtain ⟨x, rfl⟩ := Hss.out.addr (by rw [bs_length, Hsl.out]; omega)
    have Ht4 := Lib.hid (show ∀ w', Fr w w' [] → Sl w' (some x) (bs (sig.take 4)) by
      intro w' hF'
      have e : bs (sig.take 4) = (bs sig).take 4 := by simp [bs, List.map_take]
      rw [e]
      exact (Hss.out.fr hF').take 4)
    have Ht4l := Lib.hid (show (sig.take 4).length = 4 by rw [List.length_take, Hsl.out]; rfl)
    obtain ⟨d, hd⟩ : ∃ d, decide (sig.take 4 = four 2) = d := ⟨_, rfl⟩
    have Hd := Lib.hid hd
    have c4 : ((4 : Int) - 0).toNat = 4 := rfl
    go_enter Try.func23, Try.ntmps23
    go_wp2_with (first | ((with_reducible apply wpl_box (x := Operand.tmp 0) hF); exact rfl; clear hF; intro bn _ hF) | ((with_reducible refine wpl_alloc (dst := some 8) hF (bs zeros) (T := 24) (hz := Try.zeroValue24) ?_ ?_); exact rfl; clear hF; intro bo _ hF))
    ((refine wp_region_line ([⟨bn, bs nm, 22⟩]) ([⟨bo, bs zeros, 24⟩]) [0] ([ln 1, tk 2, tk 3, tk 4, tk 5, tk 6, ln 7, tk 8, tk 9, tk 10]) (by kernel_rfl) (by kernel_rfl) hF ?_); clear hF; (simp only [planOf, List.filterMap_cons, List.filterMap_nil, List.getElem?_toArray, List.getElem?_cons_succ, List.getElem?_cons_zero, Option.map_some]))
    repeat (first | ((with_reducible apply wq_move); (focus (simp only [Act.eval, Array.getD_eq_getD_getElem?, List.getElem?_toArray, List.getElem?_cons_succ, List.getElem?_cons_zero, Option.getD_some, List.map_toArray, List.map_cons, List.map_nil] <;> exact rfl)); simp only [Act.put, List.setIfInBounds_toArray, List.set_cons_succ, List.set_cons_zero]))
    refine wpQuiet_nil ?_
    (refine And.intro ?_ ?_; (focus (repeat (first | (with_reducible exact FOK.nil) | (with_reducible refine FOK.ln ?_) | (with_reducible refine FOK.tk ?_) | (with_reducible refine FOK.fl ?_ ?_; (focus fail))))))
    ((with_reducible apply wpLine_lenB (hT := Try.underlying28)); exact rfl; exact rfl; (simp only [Act.put, List.setIfInBounds_toArray, List.set_cons_succ, List.set_cons_zero, List.cons_append, List.nil_append, ← bs_append]))
    ((refine wpLine_take rfl ?_); ((with_reducible apply wq_neqInt); exact rfl; exact rfl; simp only [Act.put, List.setIfInBounds_toArray, List.set_cons_succ, List.set_cons_zero, show ((((4292 : Nat) : Int)) != 4292) = false from rfl]); (refine wpQuiet_nil ?_))
    ((refine wpLine_take rfl ?_); ((with_reducible apply wq_move); (focus (simp only [Act.eval, Array.getD_eq_getD_getElem?, List.getElem?_toArray, List.getElem?_cons_succ, List.getElem?_cons_zero, Option.getD_some, List.map_toArray, List.map_cons, List.map_nil] <;> exact rfl)); simp only [Act.put, List.setIfInBounds_toArray, List.set_cons_succ, List.set_cons_zero]); (refine wpQuiet_nil ?_))
    ((refine wpLine_take rfl ?_); (with_reducible refine wq_unguard ?_ ?_); (focus (go_simp; done)); ((with_reducible apply wq_move); (focus (simp only [Act.eval, Array.getD_eq_getD_getElem?, List.getElem?_toArray, List.getElem?_cons_succ, List.getElem?_cons_zero, Option.getD_some, List.map_toArray, List.map_cons, List.map_nil] <;> exact rfl)); simp only [Act.put, List.setIfInBounds_toArray, List.set_cons_succ, List.set_cons_zero]); (refine wpQuiet_nil ?_))
    ((refine wpLine_take rfl ?_); (with_reducible refine wq_unguard ?_ ?_); (focus (go_simp; done)); ((with_reducible apply wq_cut_hi (hu := Try.underlying28) (he := info_u8_)); exact rfl; exact rfl; (focus omega); (focus omega); simp only [Act.put, List.setIfInBounds_toArray, List.set_cons_succ, List.set_cons_zero]); (refine wpQuiet_nil ?_))
    ((refine wpLine_take rfl ?_); (with_reducible refine wq_unguard ?_ ?_); (focus (go_simp; done)); ((with_reducible apply wq_toSt (sig.take 4) (hS := Try.underlying28) (he := Try.underlying5) (hT := Try.underlying9)); exact rfl; exact Ht4l.out; exact (fun w' hF' => Ht4.out w' (hF'.sub (List.nil_sublist _))); simp only [Act.put, List.setIfInBounds_toArray, List.set_cons_succ, List.set_cons_zero]); (refine wpQuiet_nil ?_))
    ((with_reducible apply wpLine_madeK (f := 40) (hc := Try.call40)); exact rfl; (focus (simp only [Act.eval, Array.getD_eq_getD_getElem?, List.getElem?_toArray, List.getElem?_cons_succ, List.getElem?_cons_zero, Option.getD_some, List.map_toArray, List.map_cons, List.map_nil] <;> exact rfl)); intro _ _ hw; refine (four5nil 2 (by omega) (by omega) _).mono ?_; clear hw; rintro _ _ ⟨b1, c1, t1, rfl, hc1, hm⟩; refine ⟨_, _, rfl, hm, ?_⟩; clear hm; have H1 := Lib.hid hc1; clear hc1; (simp only [Act.put, List.setIfInBounds_toArray, List.set_cons_succ, List.set_cons_zero, List.cons_append, List.nil_append, ← bs_append]))
    ((refine wpLine_take rfl ?_); (with_reducible refine wq_unguard ?_ ?_); (focus (go_simp; done)); ((with_reducible apply wq_toSt (four 2) (hS := Try.underlying28) (he := Try.underlying5) (hT := Try.underlying9)); exact rfl; exact rfl; exact (fun w' hF' => Sl.pre hF' ⟨1, rfl⟩); simp only [Act.put, List.setIfInBounds_toArray, List.set_cons_succ, List.set_cons_zero]); (refine wpQuiet_nil ?_))
    ((refine wpLine_take rfl ?_); (with_reducible refine wq_unguard ?_ ?_); (focus (go_simp; done)); ((with_reducible apply wq_neqSt); exact rfl; exact rfl; simp only [Act.put, List.setIfInBounds_toArray, List.set_cons_succ, List.set_cons_zero, Hd.out]); (refine wpQuiet_nil ?_))
    ((refine wpLine_take rfl ?_); ((with_reducible apply wq_pick'); exact rfl; (focus (simp only [Act.eval, Array.getD_eq_getD_getElem?, List.getElem?_toArray, List.getElem?_cons_succ, List.getElem?_cons_zero, Option.getD_some, List.map_toArray, List.map_cons, List.map_nil] <;> exact rfl)); simp only [Act.put, List.setIfInBounds_toArray, List.set_cons_succ, List.set_cons_zero]); (refine wpQuiet_nil ?_))
    ((refine wpLine_nil ?_); intro wl hF)
    cases d
    · obtain ⟨rfl, rfl⟩ : z = zeros ∧ er = 12 := by
        have h : ¬ okSig sig := fun h2 => by
          have := Hd.out
          rw [h2.2, four_two] at this
          simp at this
        rw [← Hz.out, ← Her.out, backId, backErr, if_neg h, if_neg h]
        exact ⟨rfl, rfl⟩
      go_wp2_with (first | ((with_reducible apply wpl_store hF 2 (T := 24) (cs' := bs zeros)); exact rfl; (focus (first | exact rfl | kernel_rfl)); exact rfl; exact info_idl zeros_length; exact rfl; exact bs_oneCell _; clear hF; intro _ hF))
      exact post_row_tmp hF rfl rfl rfl rfl ⟨2, rfl⟩ Try.underlying24 (info_idl zeros_length) ⟨rfl, hF.below⟩
    · have hok : okSig sig := ⟨Hsl.out, by rw [← four_two]; exact of_decide_eq_true Hd.out⟩
      obtain rfl : er = 0 := by rw [← Her.out, backErr, if_pos hok]
      obtain ⟨c, hc⟩ : ∃ c, saltOf sig = c := ⟨_, rfl⟩
      have Hcl := Lib.hid (show c.length = 32 by rw [← hc]; simp [saltOf, Hsl.out])
      have Hcs := Lib.hid (show Sl w (some (x.add 4)) (bs c) by
        rw [← hc, saltOf, ← bs_cut]
        exact Hss.out.sub _ _)
      obtain ⟨f, hf⟩ : ∃ f, digOf nm q c msg = f := ⟨_, rfl⟩
      have Hf := Lib.hid hf
      have Hf4 := Lib.hid (show ∀ i, f i < 4 by intro i; rw [← hf]; exact digOf_lt _ _ _ _ _)
      obtain ⟨Y, hY⟩ : ∃ Y, backY nm q msg sig = Y := ⟨_, rfl⟩
      have HYe := Lib.hid (show ∀ i : Nat, chain nm q i (f i : Int) (partOf sig i) (3 - f i) = Y i by intro i; rw [← hY, ← hf, ← hc]; rfl)
      have HY := Lib.hid (show ∀ i, (Y i).length = 32 by intro i; rw [← HYe.out]; exact chain_length (partOf_length Hsl.out i) _)
      have Hze := Lib.hid (show hash (headOf nm q ++ two 32896 ++ joinY Y 133) = z by rw [← Hz.out, backId, if_pos hok, hY]; rfl)
      have Hzl := Lib.hid (show z.length = 32 by rw [← Hze.out]; exact hash_length _)
      clear hok hc hf hY hd
      have c32 : ((36 : Int) - 4).toNat = 32 := rfl
      go_wp2_with (first | fail)
      have hF1 := hF.sub (L' := [⟨bn, bs nm, 22⟩, ⟨bo, bs zeros, 24⟩]) (List.Sublist.cons_cons _ (List.Sublist.cons _ (List.Sublist.refl _)))
      clear hF
      have hF := hF1
      clear hF1
      ((refine wp_region_line ([⟨bn, bs nm, 22⟩]) ([⟨bo, bs zeros, 24⟩]) [0, 1, 2, 3, 4] ([ln 5, fl 6 (List.replicate 133 (.int .i64 0)) 64 (fun b => .pointer (some ⟨b, 0, none⟩)), ln 7]) (by kernel_rfl) (by kernel_rfl) hF ?_); clear hF; (simp only [planOf, List.filterMap_cons, List.filterMap_nil, List.getElem?_toArray, List.getElem?_cons_succ, List.getElem?_cons_zero, Option.map_some]))
      repeat (first | ((with_reducible apply wq_move); (focus (simp only [Act.eval, Array.getD_eq_getD_getElem?, List.getElem?_toArray, List.getElem?_cons_succ, List.getElem?_cons_zero, Option.getD_some, List.map_toArray, List.map_cons, List.map_nil] <;> exact rfl)); simp only [Act.put, List.setIfInBounds_toArray, List.set_cons_succ, List.set_cons_zero]) | ((with_reducible apply wq_load (T := 22) (hu := Try.underlying22)); exact rfl; (first | exact ⟨0, rfl⟩ | exact ⟨1, rfl⟩ | exact ⟨2, rfl⟩ | exact ⟨3, rfl⟩ | exact ⟨4, rfl⟩ | exact ⟨5, rfl⟩ | exact ⟨6, rfl⟩ | exact ⟨7, rfl⟩ | exact ⟨8, rfl⟩ | exact ⟨9, rfl⟩ | exact ⟨10, rfl⟩ | exact ⟨11, rfl⟩); exact info_nm Hnm.out; simp only [Act.put, List.setIfInBounds_toArray, List.set_cons_succ, List.set_cons_zero]) | ((with_reducible apply wq_cutG (hu := Try.underlying28) (he := info_u8_)); exact rfl; exact rfl; exact rfl; (focus omega); (focus omega); (focus omega); (focus omega); simp only [Act.put, List.setIfInBounds_toArray, List.set_cons_succ, List.set_cons_zero, c32]))
      refine wpQuiet_nil ?_
      (refine And.intro ?_ ?_; (focus (repeat (first | (with_reducible exact FOK.nil) | (with_reducible refine FOK.ln ?_) | (with_reducible refine FOK.tk ?_) | (with_reducible refine FOK.fl ?_ ?_; (focus (exact fstep_alloc zero133 rfl)))))))
      ((with_reducible apply wpLine_callp (f := 39) (hc := Try.call39)); exact wanted_plain; (focus (simp only [Act.eval, Array.getD_eq_getD_getElem?, List.getElem?_toArray, List.getElem?_cons_succ, List.getElem?_cons_zero, Option.getD_some, List.map_toArray, List.map_cons, List.map_nil] <;> exact rfl)); (focus (intro _ _ hw; exact digits5 nm Hnm.out q Hq.out.1 Hq.out.2 c Hcl.out _ _ msg pm lm cm Hm.out (by omega) (Hcs.out.fr hw) (Hsm.out.fr hw))); (simp only [Act.put, List.setIfInBounds_toArray, List.set_cons_succ, List.set_cons_zero, List.cons_append, List.nil_append, ← bs_append]))
      rw [Hf.out]
      refine wpLine_float fun ba => ?_
      (simp only [Act.put, List.setIfInBounds_toArray, List.set_cons_succ, List.set_cons_zero, List.cons_append, List.nil_append, ← bs_append])
      ((with_reducible apply wpLine_store 1 (T := 64)); exact wanted_plain; exact rfl; exact rfl; exact rfl; exact info_133 (ii_length f 133); (focus (rw [ii_length, List.length_replicate])); exact ii_one f 133; (simp only [Act.put, List.setIfInBounds_toArray, List.set_cons_succ, List.set_cons_zero, List.cons_append, List.nil_append, ← bs_append]))
      ((refine wpLine_nil ?_); intro wl hF)
      go_wp2_with (first | ((with_reducible apply wpl_load hF (T := 22) (hu := Try.underlying22)); exact rfl; (first | exact ⟨0, rfl⟩ | exact ⟨1, rfl⟩ | exact ⟨2, rfl⟩ | exact ⟨3, rfl⟩ | exact ⟨4, rfl⟩ | exact ⟨5, rfl⟩ | exact ⟨6, rfl⟩ | exact ⟨7, rfl⟩ | exact ⟨8, rfl⟩ | exact ⟨9, rfl⟩ | exact ⟨10, rfl⟩ | exact ⟨11, rfl⟩); exact info_nm Hnm.out) | (go_at_call 33; refine (head5 nm Hnm.out q Hq.out.1 Hq.out.2 _).mono ?_; rintro _ _ ⟨b2, c2, t2, rfl, hc2, hm⟩; replace hF := hF.took hm; clear hm; have H2 := Lib.hid hc2; clear hc2) | ((with_reducible apply wpl_push hF 3 (bs (headOf nm q)) (t2) (bs (two 32896)) (ht := Try.underlying28) (he := byteElem)); (focus (intro _; exact rfl)); (focus exact rfl); (focus (intro _; exact rfl)); (focus (rw [bs_length, headOf_length Hnm.out])); (focus (exact H2.out)); (focus (first | exact rfl | kernel_rfl)); exact rfl; (focus omega); exact bs_oneCell _; (focus omega); (focus (unfold maxLen; omega)); clear hF; intro b3 c3 t3 _ w3 hc3 hF; have H3 := Lib.hid hc3; clear hc3))
      have hF0 : Fr w w3 [⟨bn, bs nm, 22⟩, ⟨bo, bs zeros, 24⟩, ⟨ba, ii f 133, 64⟩, ⟨b3, bs (headOf nm q ++ two 32896 ++ joinY Y 0) ++ t3, 5⟩] := by
        rw [joinY, List.append_nil, bs_append]
        exact hF
      clear hF
      go_loopw [11, 12] (fun u v wr => ∃ (m b c : Nat) (tt : List Value), m ≤ 133 ∧ v = .int .i64 (m : Int) ∧ u = .slice (some ⟨b, 0, none⟩) (22 + 32 * m) c ∧ c = 22 + 32 * m + tt.length ∧ Fr w wr [⟨bn, bs nm, 22⟩, ⟨bo, bs zeros, 24⟩, ⟨ba, ii f 133, 64⟩, ⟨b, bs (headOf nm q ++ two 32896 ++ joinY Y m) ++ tt, 5⟩]) (fun _ v _ => (133 - intOf v).toNat)
      case atStart => exact ⟨0, b3, c3, t3, by omega, rfl, rfl, H3.out, hF0⟩
      case round =>
        clear hF0
        obtain ⟨m, b, c', tt, hm, rfl, rfl, hct, hF⟩ := hrel
        have Hct := Lib.hid hct
        clear hct
        have Hjl := Lib.hid (show (headOf nm q ++ two 32896 ++ joinY Y m).length = 22 + 32 * m by simp [headOf_length Hnm.out, two_length, joinY_length HY.out]; omega)
        by_cases hlt : m < 133
        · have d0 : (0 : Int) ≤ (m : Int) := by omega
          have d1 : (m : Int) < 133 := by omega
          obtain ⟨u, hu⟩ : ∃ u, partOf sig m = u := ⟨_, rfl⟩
          have Hul := Lib.hid (show u.length = 32 by rw [← hu]; exact partOf_length Hsl.out m)
          have Hug := Lib.hid (show ∀ k, k < 32 → gb u k = gb sig (36 + 32 * m + k) by
            intro k hk
            rw [← hu, partOf, if_pos hlt, gb_cut _ _ _ _ hk])
          obtain ⟨k, hk⟩ : ∃ k, f m = k := ⟨_, rfl⟩
          have hk4 : k < 4 := by rw [← hk]; exact Hf4.out m
          have Hv := Lib.hid (show (ii f 133)[m]? = some (.int .i64 (k : Int)) by rw [ii_get f hlt, hk])
          obtain ⟨y, hy⟩ : ∃ y, Y m = y := ⟨_, rfl⟩
          have Hy := Lib.hid (show chain nm q (m : Int) (k : Int) u (3 - k) = y by rw [← hy, ← HYe.out m, hu, hk])
          have Hyy := Lib.hid hy
          have Hyl := Lib.hid (show y.length = 32 by rw [← hy]; exact HY.out m)
          clear hu hy hk
          go_wp2_with (first | ((with_reducible refine wpl_alloc (dst := some 13) hF (bs zeros) (T := 24) (hz := Try.zeroValue24) ?_ ?_); exact rfl; clear hF; intro bz _ hF))
          have hFz : Fr w _ ([⟨bn, bs nm, 22⟩, ⟨bo, bs zeros, 24⟩, ⟨ba, ii f 133, 64⟩, ⟨b, bs (headOf nm q ++ two 32896 ++ joinY Y m) ++ tt, 5⟩] ++ [⟨bz, bs (layZ u 0), 24⟩]) := hF
          clear hF
          obtain ⟨wo, hwo⟩ : ∃ wo : World, wo = wr := ⟨_, rfl⟩
          clear hwo
          go_loopw [14] (fun v wr => ∃ j : Nat, j ≤ 32 ∧ v = .int .i64 (j : Int) ∧ Fr w wr [⟨bn, bs nm, 22⟩, ⟨bo, bs zeros, 24⟩, ⟨ba, ii f 133, 64⟩, ⟨b, bs (headOf nm q ++ two 32896 ++ joinY Y m) ++ tt, 5⟩, ⟨bz, bs (layZ u j), 24⟩]) (fun v _ => (32 - intOf v).toNat)
          case atStart => exact ⟨0, by omega, rfl, hFz⟩
          case round =>
            clear hFz
            obtain ⟨j, hj, rfl, hF⟩ := hrel
            by_cases hlj : j < 32
            · have e0 : (0 : Int) ≤ (j : Int) := by omega
              have e1 : (j : Int) < 32 := by omega
              have e2 : (36 + 32 * (m : Int) + (j : Int)).toNat = 36 + 32 * m + j := by omega
              obtain ⟨g, hg⟩ : ∃ g, gb u j = g := ⟨_, rfl⟩
              have Hcell := Lib.hid (show w.cell? (x.add (36 + 32 * m + j)) = some (B g) by
                rw [← hg, Hug.out j hlj]
                exact Hss.out.cell (bs_get (by rw [Hsl.out]; omega)))
              have Hset := Lib.hid (show (layZ u j).set j g = layZ u (j + 1) by rw [← hg]; exact layZ_set Hul.out hlj)
              have Hll := Lib.hid (layZ_length Hul.out hj)
              clear hg
              go_wp2_with (first | ((with_reducible apply wpl_idxS' (hu := Try.underlying28) (he := info_u8_)); exact rfl; exact rfl; (focus omega); (focus omega); rw [e2]) | ((with_reducible apply wpl_loadC (T := 5) (hu := Try.underlying5)); exact rfl; (focus (exact hF.old Hcell.out))) | ((with_reducible apply wpl_idxA (T := 24) (hu := Try.underlying24) (he := info_u8_)); exact rfl; exact rfl; (focus omega); (focus omega); rw [Int.toNat_natCast]) | ((with_reducible apply wpl_storeB hF 4 (T := 5)); exact rfl; exact rfl; exact rfl; exact info_u8_; (focus (rw [Hll.out]; exact hlj)); clear hF; intro w4 hF))
              go_roundw
              case rel => exact ⟨j + 1, by omega, by go_num, by rw [← Hset.out]; exact hF⟩
              case measure => simp [intOf]; omega
            · obtain rfl : j = 32 := by omega
              have e3 : layZ u 32 = u := by
                rw [layZ, List.take_of_length_le (by rw [Hul.out]; exact Nat.le_refl _), show zeros.drop 32 = [] from rfl, List.append_nil]
              rw [e3] at hF
              clear e3
              go_wp2_with (first | fail)
              have hF1 := hF.perms (L' := [⟨bn, bs nm, 22⟩, ⟨ba, ii f 133, 64⟩, ⟨bz, bs u, 24⟩] ++ [⟨bo, bs zeros, 24⟩, ⟨b, bs (headOf nm q ++ two 32896 ++ joinY Y m) ++ tt, 5⟩]) (by
                refine List.Perm.cons _ ?_
                exact (List.Perm.cons _ (List.perm_append_comm (l₁ := [_]) (l₂ := [_, _]))).trans (List.Perm.swap _ _ _))
              clear hF
              have hF := hF1
              clear hF1
              ((refine wp_region_line ([⟨bn, bs nm, 22⟩, ⟨ba, ii f 133, 64⟩, ⟨bz, bs u, 24⟩]) ([⟨bo, bs zeros, 24⟩, ⟨b, bs (headOf nm q ++ two 32896 ++ joinY Y m) ++ tt, 5⟩]) [0, 1, 2, 3, 4, 5, 6] ([ln 7, fl 8 (bs zeros) 24 (fun b => .pointer (some ⟨b, 0, none⟩)), ln 9]) (by kernel_rfl) (by kernel_rfl) hF ?_); clear hF; (simp only [planOf, List.filterMap_cons, List.filterMap_nil, List.getElem?_toArray, List.getElem?_cons_succ, List.getElem?_cons_zero, Option.map_some]))
              repeat (first | ((with_reducible apply wq_move); (focus (simp only [Act.eval, Array.getD_eq_getD_getElem?, List.getElem?_toArray, List.getElem?_cons_succ, List.getElem?_cons_zero, Option.getD_some, List.map_toArray, List.map_cons, List.map_nil] <;> exact rfl)); simp only [Act.put, List.setIfInBounds_toArray, List.set_cons_succ, List.set_cons_zero]) | ((with_reducible apply wq_load (T := 22) (hu := Try.underlying22)); exact rfl; (first | exact ⟨0, rfl⟩ | exact ⟨1, rfl⟩ | exact ⟨2, rfl⟩ | exact ⟨3, rfl⟩ | exact ⟨4, rfl⟩ | exact ⟨5, rfl⟩ | exact ⟨6, rfl⟩ | exact ⟨7, rfl⟩ | exact ⟨8, rfl⟩ | exact ⟨9, rfl⟩ | exact ⟨10, rfl⟩ | exact ⟨11, rfl⟩); exact info_nm Hnm.out; simp only [Act.put, List.setIfInBounds_toArray, List.set_cons_succ, List.set_cons_zero]) | ((with_reducible apply wq_load (T := 24) (hu := Try.underlying24)); exact rfl; (first | exact ⟨0, rfl⟩ | exact ⟨1, rfl⟩ | exact ⟨2, rfl⟩ | exact ⟨3, rfl⟩ | exact ⟨4, rfl⟩ | exact ⟨5, rfl⟩ | exact ⟨6, rfl⟩ | exact ⟨7, rfl⟩ | exact ⟨8, rfl⟩ | exact ⟨9, rfl⟩ | exact ⟨10, rfl⟩ | exact ⟨11, rfl⟩); exact info_idl Hul.out; simp only [Act.put, List.setIfInBounds_toArray, List.set_cons_succ, List.set_cons_zero]) | ((with_reducible apply wq_idxA (T := 64) (hu := Try.underlying64) (he := info_int_)); exact rfl; exact rfl; (focus omega); (focus omega); simp only [Act.put, List.setIfInBounds_toArray, List.set_cons_succ, List.set_cons_zero, Int.toNat_natCast]) | ((with_reducible apply wq_loadV (T := 3) (hu := Try.underlying3)); exact rfl; (first | exact ⟨0, rfl⟩ | exact ⟨1, rfl⟩ | exact ⟨2, rfl⟩ | exact ⟨3, rfl⟩ | exact ⟨4, rfl⟩ | exact ⟨5, rfl⟩ | exact ⟨6, rfl⟩ | exact ⟨7, rfl⟩ | exact ⟨8, rfl⟩ | exact ⟨9, rfl⟩ | exact ⟨10, rfl⟩ | exact ⟨11, rfl⟩); exact Hv.out; simp only [Act.put, List.setIfInBounds_toArray, List.set_cons_succ, List.set_cons_zero]))
              refine wpQuiet_nil ?_
              (refine And.intro ?_ ?_; (focus (repeat (first | (with_reducible exact FOK.nil) | (with_reducible refine FOK.ln ?_) | (with_reducible refine FOK.tk ?_) | (with_reducible refine FOK.fl ?_ ?_; (focus (exact fstep_alloc Try.zeroValue24 rfl)))))))
              ((with_reducible apply wpLine_callp (f := 34) (hc := Try.call34)); exact wanted_plain; (focus (simp only [Act.eval, Array.getD_eq_getD_getElem?, List.getElem?_toArray, List.getElem?_cons_succ, List.getElem?_cons_zero, Option.getD_some, List.map_toArray, List.map_cons, List.map_nil] <;> exact rfl)); (focus (intro _ _ hw; exact walk5 nm Hnm.out q Hq.out.1 Hq.out.2 (m : Int) (by omega) (by omega) k (3 - k) 3 (by omega) (by omega) u Hul.out _)); (simp only [Act.put, List.setIfInBounds_toArray, List.set_cons_succ, List.set_cons_zero, List.cons_append, List.nil_append, ← bs_append]))
              rw [Hy.out]
              refine wpLine_float fun bt => ?_
              (simp only [Act.put, List.setIfInBounds_toArray, List.set_cons_succ, List.set_cons_zero, List.cons_append, List.nil_append, ← bs_append])
              ((with_reducible apply wpLine_store 2 (T := 24)); exact wanted_plain; exact rfl; exact rfl; exact rfl; exact info_idl Hyl.out; (focus (simp only [bs_length, zeros_length, Hyl.out])); exact bs_oneCell _; (simp only [Act.put, List.setIfInBounds_toArray, List.set_cons_succ, List.set_cons_zero, List.cons_append, List.nil_append, ← bs_append]))
              ((refine wpLine_nil ?_); intro wl hF)
              go_wp2_with (first | ((with_reducible apply wpl_sliceA (T := 24) (hu := Try.underlying24) (he := info_u8_)); exact rfl) | ((with_reducible apply wpl_append (dst := some 67) hF 4 (bs (headOf nm q ++ two 32896 ++ joinY Y m)) (tt) (bs y) (ht := Try.underlying28) (he := byteElem)); exact rfl; (focus exact rfl); (focus (rw [bs_length]; exact Hjl.out)); (focus (exact Hct.out)); exact rfl; (focus (rw [bs_length]; exact Hyl.out)); (focus (exact Sl.whole hF ⟨5, rfl⟩)); exact bs_oneCell _; (focus omega); (focus (unfold maxLen; omega)); clear hF; intro b5 c5 t5 w5 hc5 hF; have H5 := Lib.hid hc5; clear hc5))
              have hF1 := hF.take (L' := [⟨bn, bs nm, 22⟩, ⟨bo, bs zeros, 24⟩, ⟨ba, ii f 133, 64⟩, ⟨b5, bs (headOf nm q ++ two 32896 ++ joinY Y m) ++ bs y ++ t5, 5⟩]) (by intro x hx; revert hx; simp only [List.mem_cons, List.not_mem_nil, or_false]; rintro (rfl | rfl | rfl | rfl) <;> simp) (by
                have ha := hF.apart
                simp at ha ⊢
                omega)
              refine ⟨⟨m + 1, b5, c5, t5, by omega, by go_num, rfl, H5.out, ?_⟩, by simp [intOf]; omega⟩
              rw [joinY, ← List.append_assoc, bs_append _ (Y m), Hyy.out]
              exact hF1
        · obtain rfl : m = 133 := by omega
          go_wp2_with (first | (go_at_call 36; refine (refSum (headOf nm q ++ two 32896 ++ joinY Y 133) _ _ _ Hjl.out _ (Sl.pre hF ⟨3, rfl⟩) (by omega)).mono ?_; rintro _ _ ⟨rfl, hb⟩; replace hF := hF.call hb; clear hb; rw [Hze.out]) | ((with_reducible apply wpl_store hF 1 (T := 24)); exact rfl; exact rfl; exact rfl; exact info_idl Hzl.out; (focus (simp only [bs_length, zeros_length, Hzl.out, Hzl.out])); exact bs_oneCell _; clear hF; intro _ hF))
          exact post_row_tmp hF rfl rfl rfl rfl ⟨1, rfl⟩ Try.underlying24 (info_idl Hzl.out) ⟨rfl, hF.below⟩
  · obtain ⟨rfl, rfl⟩ : z = zeros ∧ er = 12 := by
      rw [← Hz.out, ← Her.out, backId, backErr, if_neg (fun h2 => hlen (Hsl.out.symm.trans h2.1)), if_neg (fun h2 => hlen (Hsl.out.symm.trans h2.1))]
      exact ⟨rfl, rfl⟩
    have n9 : ((ls : Int) != 4292) = true := by simp; omega
    go_enter Try.func23, Try.ntmps23
    go_wp2_with (first | ((with_reducible apply wpl_box (x := Operand.tmp 0) hF); exact rfl; clear hF; intro bn _ hF) | ((with_reducible refine wpl_alloc (dst := some 8) hF (bs zeros) (T := 24) (hz := Try.zeroValue24) ?_ ?_); exact rfl; clear hF; intro bo _ hF))
    ((refine wp_region_fr (by kernel_rfl) (by kernel_rfl) hF ?_); clear hF)
    repeat (first | ((with_reducible apply wq_move); (focus (simp only [Act.eval, Array.getD_eq_getD_getElem?, List.getElem?_toArray, List.getElem?_cons_succ, List.getElem?_cons_zero, Option.getD_some, List.map_toArray, List.map_cons, List.map_nil] <;> exact rfl)); simp only [Act.put, List.setIfInBounds_toArray, List.set_cons_succ, List.set_cons_zero, eq_self, decide_true, decide_false, Bool.not_true, Bool.not_false, eq_self, n9]) | ((with_reducible apply wq_assign); (focus (simp only [Act.eval, Array.getD_eq_getD_getElem?, List.getElem?_toArray, List.getElem?_cons_succ, List.getElem?_cons_zero, Option.getD_some, List.map_toArray, List.map_cons, List.map_nil] <;> exact rfl)); simp only [Act.put, List.setIfInBounds_toArray, List.set_cons_succ, List.set_cons_zero, eq_self, decide_true, decide_false, Bool.not_true, Bool.not_false, eq_self, n9]) | ((with_reducible apply wq_load (T := 24) (hu := Try.underlying24)); exact rfl; (first | exact ⟨0, rfl⟩ | exact ⟨1, rfl⟩ | exact ⟨2, rfl⟩ | exact ⟨3, rfl⟩ | exact ⟨4, rfl⟩ | exact ⟨5, rfl⟩ | exact ⟨6, rfl⟩ | exact ⟨7, rfl⟩ | exact ⟨8, rfl⟩ | exact ⟨9, rfl⟩ | exact ⟨10, rfl⟩ | exact ⟨11, rfl⟩); exact info_idl (by first | (with_reducible exact hash_length _) | (with_reducible exact zeros_length) | (with_reducible assumption) | exact Hxl.out); simp only [Act.put, List.setIfInBounds_toArray, List.set_cons_succ, List.set_cons_zero, eq_self, decide_true, decide_false, Bool.not_true, Bool.not_false, eq_self, n9]) | ((with_reducible apply wq_lenB (hT := Try.underlying28)); exact rfl; simp only [Act.put, List.setIfInBounds_toArray, List.set_cons_succ, List.set_cons_zero, n9]) | ((with_reducible apply wq_neqInt); exact rfl; exact rfl; simp only [Act.put, List.setIfInBounds_toArray, List.set_cons_succ, List.set_cons_zero, n9]) | ((with_reducible apply wq_eqbytes (T := 24)); exact rfl; exact rfl; exact Try.eqGuardType24; exact (fun w => run_eqId w _ _ (by first | (with_reducible exact hash_length _) | (with_reducible exact zeros_length) | (with_reducible assumption) | exact Hxl.out) (by first | (with_reducible exact hash_length _) | (with_reducible exact zeros_length) | (with_reducible assumption) | exact Hxl.out)); simp only [Act.put, List.setIfInBounds_toArray, List.set_cons_succ, List.set_cons_zero, eq_self, decide_true, decide_false, Bool.not_true, Bool.not_false, eq_self, n9]) | ((with_reducible apply wq_neqbytes (T := 24)); exact rfl; exact rfl; exact Try.eqGuardType24; exact (fun w => run_eqId w _ _ (by first | (with_reducible exact hash_length _) | (with_reducible exact zeros_length) | (with_reducible assumption) | exact Hxl.out) (by first | (with_reducible exact hash_length _) | (with_reducible exact zeros_length) | (with_reducible assumption) | exact Hxl.out)); simp only [Act.put, List.setIfInBounds_toArray, List.set_cons_succ, List.set_cons_zero, eq_self, decide_true, decide_false, Bool.not_true, Bool.not_false, eq_self, n9]) | ((with_reducible apply wq_eqSt); exact rfl; exact rfl; simp only [Act.put, List.setIfInBounds_toArray, List.set_cons_succ, List.set_cons_zero, eq_self, decide_true, decide_false, Bool.not_true, Bool.not_false, eq_self, n9]) | ((with_reducible apply wq_pick); exact rfl; (focus (simp only [Act.eval, Array.getD_eq_getD_getElem?, List.getElem?_toArray, List.getElem?_cons_succ, List.getElem?_cons_zero, Option.getD_some, List.map_toArray, List.map_cons, List.map_nil] <;> exact rfl)); simp only [Act.put, List.setIfInBounds_toArray, List.set_cons_succ, List.set_cons_zero, eq_self, decide_true, decide_false, Bool.not_true, Bool.not_false, eq_self, n9]) | ((with_reducible apply wq_pick'); exact rfl; (focus (simp only [Act.eval, Array.getD_eq_getD_getElem?, List.getElem?_toArray, List.getElem?_cons_succ, List.getElem?_cons_zero, Option.getD_some, List.map_toArray, List.map_cons, List.map_nil] <;> exact rfl)); simp only [Act.put, List.setIfInBounds_toArray, List.set_cons_succ, List.set_cons_zero, eq_self, decide_true, decide_false, Bool.not_true, Bool.not_false, eq_self, n9]) | ((with_reducible apply wq_not); exact rfl; simp only [Act.put, List.setIfInBounds_toArray, List.set_cons_succ, List.set_cons_zero, eq_self, decide_true, decide_false, Bool.not_true, Bool.not_false, eq_self, n9]) | ((with_reducible refine wq_unguard ?_ ?_); (focus (go_simp; done))) | ((with_reducible refine wq_skip ?_ ?_); (focus (go_simp; done)); simp only [Act.put, List.setIfInBounds_toArray, List.set_cons_succ, List.set_cons_zero]) | ((with_reducible refine wq_skip_none ?_ ?_); (focus (first | (go_simp; done) | (go_simp; exact rfl))); simp only [Act.put, List.setIfInBounds_toArray, List.set_cons_succ, List.set_cons_zero]))
    ((refine wpQuiet_nil ?_); intro _ hF)
    go_wp2_with (first | ((with_reducible apply wpl_store hF 1 (T := 24) (cs' := bs zeros)); exact rfl; (focus (first | exact rfl | kernel_rfl)); exact rfl; exact info_idl zeros_length; exact rfl; exact bs_oneCell _; clear hF; intro _ hF))
    exact post_row_tmp hF rfl rfl rfl rfl ⟨1, rfl⟩ Try.underlying24 (info_idl zeros_length) ⟨rfl, hF.below⟩
end Go.Proofs.Ytbnjgldilckhpaa
