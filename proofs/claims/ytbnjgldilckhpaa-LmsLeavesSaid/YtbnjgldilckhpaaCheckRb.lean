/-
  THE WALK of latticeref6.Check, where key and signature have their forms.
-/
import Derived.Test.YtbnjgldilckhpaaCheckR
namespace Go.Proofs.Ytbnjgldilckhpaa
set_option linter.unusedSimpArgs false
set_option linter.unusedVariables false
open Go.RowKit
attribute [local irreducible] wpQuiet Calls wpLine wpSeq
set_option maxRecDepth 4000

section
variable {P : Program} {ops : Array Oper} {rest : List Oper} {Q : Act → Prop} {a : Act} {w0 : World} {L : List Blk}
theorem wq_quoN {dst : Option Tmp} {x y : Operand} {T ty T' : TypeId} {pos : String} {after : Array Edge} {m n : Nat} (hx : a.eval x = .int .i64 (m : Int)) (hy : a.eval y = .int .i64 (n : Int)) (hm : (m : Int) ≤ 9223372036854775807) (hn : 0 < n)
    (h : wpQuiet P ops (fun w' => Fr w0 w' L) Q rest (a.put dst (.int .i64 ((m / n : Nat) : Int)))) : wpQuiet P ops (fun w' => Fr w0 w' L) Q (⟨dst, .binOp .quo T x y T', ty, pos, after, none⟩ :: rest) a :=
  wq_bin hx hy rfl (fun w => by
    show (Op.intDiv .quo .i64 (m : Int) (n : Int)).run P w = _
    have e : ((m : Int)).tdiv (n : Int) = ((m / n : Nat) : Int) := rfl
    have hle : m / n ≤ m := Nat.div_le_self _ _
    have h0 : ¬ ((n : Int) = 0) := by omega
    simp only [Op.intDiv, if_neg h0, e]
    generalize m / n = q at hle ⊢
    rw [IntWalk.i64_in _ (by omega)]
    rfl) h
end
theorem gb_cutC (l : List UInt8) {o m i : Nat} (hi : i < m) (h : o + m ≤ l.length) : gb ((l.drop o).take m) i = gb l (o + i) := by
  simp [gb, List.getElem?_take, hi, List.getElem?_drop]
theorem laid_step {nm : List UInt8} (hn : nm.length = 16) {i : Nat} (hi : i < 16) : (nm.take i ++ List.replicate (16 - i) 0).set i (gb nm i) = nm.take (i + 1) ++ List.replicate (16 - (i + 1)) 0 := by
  have hl : (nm.take i).length = i := by rw [List.length_take, hn]; omega
  have e1 : List.replicate (16 - i) (0 : UInt8) = 0 :: List.replicate (16 - (i + 1)) 0 := by rw [show 16 - i = (16 - (i + 1)) + 1 by omega, List.replicate_succ]
  rw [List.set_append_right _ _ (by omega), hl, Nat.sub_self, e1, List.set_cons_zero, List.take_add_one, List.append_assoc]
  congr 1
  simp [gb, hn, hi]

set_option maxHeartbeats 8000000 in
theorem checkR3 (pub : List UInt8) (p0 : Option Addr) (c0 : Nat) (hl0 : pub.length = 56) (hc0 : 56 ≤ c0) (msg : List UInt8) (p1 : Option Addr) (l1 c1 : Nat) (hl1 : msg.length = l1) (hlim : l1 ≤ 1000000) (sig : List UInt8) (p2 : Option Addr) (l2 c2 : Nat) (hl2 : sig.length = l2) (hc2 : l2 ≤ c2) {w : World} (s0 : Sl w p0 (bs pub)) (s1 : Sl w p1 (bs msg)) (s2 : Sl w p2 (bs sig)) (h n : Nat) (hn : n = 2 ^ h) (h1 : 1 ≤ h) (h5 : h ≤ 5) (hk : numOf pub = (h : Int)) (hk2 : numOf (pub.drop 4) = 2) (hls : l2 = 4300 + 32 * h) (hk3 : numOf (sig.drop 4296) = (h : Int)) (q : Nat) (hq : q < n) (hk4 : numOf sig = (q : Int)) (res : Int)
    (hres : res = if backErr (otsOf sig) ≠ 0 then backErr (otsOf sig) else if rootOf (nmOf pub) h msg sig ≠ pub.drop 24 then 12 else 0) :
    Calls Try.prog 27 #[.slice p0 56 c0, .slice p1 l1 c1, .slice p2 l2 c2] w fun e w' => e = .returned (.int .i64 res) ∧ Below w.heap.size w w' := by
  have hF := Fr.start w
  have hn32 : n ≤ 32 := by rw [hn]; exact (Nat.pow_le_pow_right (n := 2) (by decide) h5 : 2 ^ h ≤ 2 ^ 5)
  have hn2 : 2 ≤ n := by rw [hn]; exact (Nat.pow_le_pow_right (n := 2) (by decide) h1 : 2 ^ 1 ≤ 2 ^ h)
  have Hp := Lib.hid (show (1 : Int) * 2 ^ ((h : Int)).toNat = (n : Int) by rw [pow_int, hn])
  have b1 : 4332 ≤ l2 := by omega
  have b2 : l2 ≤ 4460 := by omega
  have f1 := Lib.hid (show ((l2 : Int) != 4300 + 32 * (h : Int)) = false by simp; omega)
  have f2 := Lib.hid (show decide ((q : Int) ≥ (n : Int)) = false by simp; omega)
  obtain ⟨x, rfl⟩ := s0.addr (by rw [bs_length, hl0]; decide)
  obtain ⟨y, rfl⟩ := s2.addr (by rw [bs_length, hl2]; omega)
  obtain ⟨nm, hnm⟩ : ∃ nm, nmOf pub = nm := ⟨_, rfl⟩
  obtain ⟨ots, hots⟩ : ∃ o, otsOf sig = o := ⟨_, rfl⟩
  have Hnm := Lib.hid (show nm.length = 16 by rw [← hnm, nmOf]; simp [hl0])
  have Hol := Lib.hid (show ots.length = 4292 by rw [← hots, otsOf]; simp [hl2]; omega)
  have Snm := Lib.hid (show ∀ w', Sl w' (some x) (bs pub) → Sl w' (some (x.add 8)) (bs nm) from fun w' hw' => by rw [← hnm, nmOf, ← bs_take, ← bs_drop]; exact hw'.sub 8 16)
  have Sots := Lib.hid (show ∀ w', Sl w' (some y) (bs sig) → Sl w' (some (y.add 4)) (bs ots) from fun w' hw' => by rw [← hots, otsOf, ← bs_take, ← bs_drop]; exact hw'.sub 4 4292)
  obtain ⟨k, hkk⟩ : ∃ k, backId nm (q : Int) msg ots = k := ⟨_, rfl⟩
  obtain ⟨e, he⟩ : ∃ e, backErr ots = e := ⟨_, rfl⟩
  have Hkk := Lib.hid hkk
  have He := Lib.hid he
  have Hkl := Lib.hid (show k.length = 32 by rw [← hkk]; exact backId_length _ _ _ _)
  have hq2 : (numOf sig).toNat = q := by rw [hk4]; exact Int.toNat_natCast q
  obtain ⟨r0, hr0⟩ : ∃ r, rootOf nm h msg sig = r := ⟨_, rfl⟩
  have Hroot := Lib.hid (show climb nm (n + q) (nodeOf nm ((n + q : Nat) : Int) 130 k) (sig.drop 4300) = r0 by rw [← hr0, rootOf, hq2, hk4, hots, hkk, hn])
  rw [hnm, hots, he, hr0] at hres
  have Hres := Lib.hid hres
  have e1v : (l2 : Int) = 4300 + 32 * (h : Int) := by rw [hls, Int.natCast_add, Int.natCast_mul]; rfl
  have d4 : ¬ (q : Int) ≥ (n : Int) := Int.not_le.2 (Int.ofNat_lt.2 hq)
  have Hgb := Lib.hid (show ∀ i, i < 16 → gb nm i = gb pub (8 + i) from fun i hi => by rw [← hnm, nmOf]; exact gb_cutC _ hi (by rw [hl0]; omega))
  have S0 := Lib.hid s0
  have S1 := Lib.hid s1
  have S2 := Lib.hid s2
  have Hl0 := Lib.hid hl0
  have Hl1 := Lib.hid hl1
  have Hl2 := Lib.hid hl2
  have Hk := Lib.hid hk
  have Hk2 := Lib.hid hk2
  have Hk3 := Lib.hid hk3
  have Hk4 := Lib.hid hk4
  have Hls := Lib.hid hls
  have Hn := Lib.hid hn
  clear s0 s1 s2 hk hk2 hn hnm hots hkk he hr0 hres hq2 hk3 hk4 hl0 hl1 hl2 hls
  go_enter Try.func27, Try.ntmps27
  go_wp2_with (first | go_skip | ((with_reducible refine wpl_unguard ?_ ?_); (focus (go_simp; done))) | (go_at_call 48; first | (refine (getK pub (by rw [Hl0.out]; decide) _ _ _ (by omega) (S0.out.fr hF)).mono ?_; rintro _ _ ⟨rfl, hb⟩; replace hF := hF.call hb; clear hb; rw [Hk.out]) | (refine (getK (pub.drop 4) (by rw [List.length_drop, Hl0.out]; decide) _ _ _ (by omega) (by rw [← bs_drop]; exact (S0.out.fr hF).drop 4)).mono ?_; rintro _ _ ⟨rfl, hb⟩; replace hF := hF.call hb; clear hb; rw [Hk2.out]) | (refine (getK (sig.drop 4296) (by rw [List.length_drop, Hl2.out]; omega) _ _ _ (by omega) (by rw [← bs_drop]; exact (S2.out.fr hF).drop 4296)).mono ?_; rintro _ _ ⟨rfl, hb⟩; replace hF := hF.call hb; clear hb; rw [Hk3.out]) | (refine (getK sig (by rw [Hl2.out]; omega) _ _ _ (by omega) (S2.out.fr hF)).mono ?_; rintro _ _ ⟨rfl, hb⟩; replace hF := hF.call hb; clear hb; rw [Hk4.out])) | ((with_reducible apply wpl_cut_lo (hu := Try.underlying28) (he := info_u8_)); exact rfl; exact rfl; (focus omega); (focus omega); (focus omega)) | ((with_reducible apply wpl_shlI); exact rfl; exact rfl; (focus omega); (focus omega); (focus (rw [Hp.out]; omega)); (focus (rw [Hp.out]; omega)); rw [Hp.out]) | ((with_reducible refine wpl_alloc (dst := some 8) hF (bs (List.replicate 16 0)) (T := 22) (hz := Try.zeroValue22) ?_ ?_); exact rfl; clear hF; intro bn _ hF))
  go_loopw [9] (fun v wr => ∃ i : Nat, i ≤ 16 ∧ v = .int .i64 (i : Int) ∧ Fr w wr [⟨bn, bs (nm.take i ++ List.replicate (16 - i) 0), 22⟩]) (fun v _ => (16 - intOf v).toNat)
  case atStart => exact ⟨0, by omega, rfl, by simpa using hF⟩
  case round =>
    clear hF
    obtain ⟨i, hi, rfl, hF⟩ := hrel
    by_cases hlt : i < 16
    · have d5 : (i : Int) < 16 := by omega
      have Hll := Lib.hid (show (nm.take i ++ List.replicate (16 - i) 0).length = 16 by rw [List.length_append, List.length_take, Hnm.out, List.length_replicate]; omega)
      have Hc := Lib.hid (show ∀ w', Sl w' (some x) (bs pub) → w'.cell? (x.add ((8 : Int) + (i : Int)).toNat) = some (B (gb nm i)) from fun w' hw' => by
        rw [show ((8 : Int) + (i : Int)).toNat = 8 + i by omega, Hgb.out i hlt]
        exact hw'.cell (bs_get (by rw [Hl0.out]; omega)))
      go_wp2_with (first | ((with_reducible apply wpl_idxS' (k := (8 : Int) + (i : Int)) (hu := Try.underlying28) (he := info_u8_)); exact rfl; exact rfl; (focus omega); (focus omega)) | ((with_reducible apply wpl_loadC (T := 5) (hu := Try.underlying5)); exact rfl; exact Hc.out _ (S0.out.fr hF)) | ((with_reducible apply wpl_idxA (T := 22) (hu := Try.underlying22) (he := info_u8_)); exact rfl; exact rfl; (focus omega); (focus omega)) | ((with_reducible apply wpl_storeB hF 0 (i := i) (u := gb nm i) (T := 5)); exact rfl; exact rfl; exact rfl; exact info_u8_; (focus (rw [Hll.out]; exact hlt)); clear hF; intro _ hF))
      go_roundw
      case rel => exact ⟨i + 1, by omega, by go_num, by rw [← laid_step Hnm.out hlt]; exact hF⟩
      case measure => simp [intOf]; omega
    · obtain rfl : i = 16 := by omega
      have e16 : nm.take 16 ++ List.replicate (16 - 16) 0 = nm := by
        rw [List.take_of_length_le (by rw [Hnm.out]; omega)]
        simp
      rw [e16] at hF
      clear e16
      go_wp2_with (first | go_skip | ((with_reducible refine wpl_unguard ?_ ?_); (focus (go_simp; done))) | (go_at_call 48; first | (refine (getK pub (by rw [Hl0.out]; decide) _ _ _ (by omega) (S0.out.fr hF)).mono ?_; rintro _ _ ⟨rfl, hb⟩; replace hF := hF.call hb; clear hb; rw [Hk.out]) | (refine (getK (pub.drop 4) (by rw [List.length_drop, Hl0.out]; decide) _ _ _ (by omega) (by rw [← bs_drop]; exact (S0.out.fr hF).drop 4)).mono ?_; rintro _ _ ⟨rfl, hb⟩; replace hF := hF.call hb; clear hb; rw [Hk2.out]) | (refine (getK (sig.drop 4296) (by rw [List.length_drop, Hl2.out]; omega) _ _ _ (by omega) (by rw [← bs_drop]; exact (S2.out.fr hF).drop 4296)).mono ?_; rintro _ _ ⟨rfl, hb⟩; replace hF := hF.call hb; clear hb; rw [Hk3.out]) | (refine (getK sig (by rw [Hl2.out]; omega) _ _ _ (by omega) (S2.out.fr hF)).mono ?_; rintro _ _ ⟨rfl, hb⟩; replace hF := hF.call hb; clear hb; rw [Hk4.out])) | ((with_reducible apply wpl_cut_lo (hu := Try.underlying28) (he := info_u8_)); exact rfl; exact rfl; (focus omega); (focus omega); (focus omega)) | ((with_reducible apply wpl_shlI); exact rfl; exact rfl; (focus omega); (focus omega); (focus (rw [Hp.out]; omega)); (focus (rw [Hp.out]; omega)); rw [Hp.out]))
      ((refine wp_region_line ([⟨bn, bs nm, 22⟩]) ([]) [0, 1, 2, 3, 4] ([ln 5, tk 6, tk 7, tk 8, fl 9 (bs zeros) 24 (fun b => .pointer (some ⟨b, 0, none⟩)), ln 10, tk 11]) (by kernel_rfl) (by kernel_rfl) hF ?_); clear hF; (simp only [planOf, List.filterMap_cons, List.filterMap_nil, List.getElem?_toArray, List.getElem?_cons_succ, List.getElem?_cons_zero, Option.map_some]))
      repeat (first | ((with_reducible apply wq_move); (focus (simp only [Act.eval, Array.getD_eq_getD_getElem?, List.getElem?_toArray, List.getElem?_cons_succ, List.getElem?_cons_zero, Option.getD_some, List.map_toArray, List.map_cons, List.map_nil] <;> exact rfl)); simp only [Act.put, List.setIfInBounds_toArray, List.set_cons_succ, List.set_cons_zero]) | ((with_reducible apply wq_load (T := 22) (hu := Try.underlying22)); exact rfl; (first | exact ⟨0, rfl⟩ | exact ⟨1, rfl⟩ | exact ⟨2, rfl⟩ | exact ⟨3, rfl⟩ | exact ⟨4, rfl⟩ | exact ⟨5, rfl⟩ | exact ⟨6, rfl⟩ | exact ⟨7, rfl⟩ | exact ⟨8, rfl⟩ | exact ⟨9, rfl⟩ | exact ⟨10, rfl⟩ | exact ⟨11, rfl⟩); exact info_nm Hnm.out; simp only [Act.put, List.setIfInBounds_toArray, List.set_cons_succ, List.set_cons_zero]) | ((with_reducible apply wq_cutG (hu := Try.underlying28) (he := info_u8_)); exact rfl; exact rfl; exact rfl; (focus omega); (focus omega); (focus omega); (focus omega); simp only [Act.put, List.setIfInBounds_toArray, List.set_cons_succ, List.set_cons_zero]))
      refine wpQuiet_nil ?_
      (refine And.intro ?_ ?_; (focus (repeat (first | (with_reducible exact FOK.nil) | (with_reducible refine FOK.ln ?_) | (with_reducible refine FOK.tk ?_) | (with_reducible refine FOK.fl ?_ ?_; (focus (exact fstep_alloc Try.zeroValue24 rfl)))))))
      ((with_reducible apply wpLine_callp (f := 23) (hc := Try.call23)); exact wanted_plain; (focus (simp only [Act.eval, Array.getD_eq_getD_getElem?, List.getElem?_toArray, List.getElem?_cons_succ, List.getElem?_cons_zero, Option.getD_some, List.map_toArray, List.map_cons, List.map_nil] <;> exact rfl)); (focus (intro _ _ hw; exact refBack nm Hnm.out (q : Int) (by omega) (by omega) msg p1 l1 c1 Hl1.out hlim ots _ _ _ Hol.out (by omega) (S1.out.fr hw) (Sots.out _ (S2.out.fr hw)))); (simp only [Act.put, List.setIfInBounds_toArray, List.set_cons_succ, List.set_cons_zero, List.cons_append, List.nil_append, ← bs_append]))
      rw [Hkk.out, He.out]
      (repeat (first | ((refine wpLine_take rfl ?_); (first | ((with_reducible apply wq_move); (focus (simp only [Act.eval, Array.getD_eq_getD_getElem?, List.getElem?_toArray, List.getElem?_cons_succ, List.getElem?_cons_zero, Option.getD_some, List.map_toArray, List.map_cons, List.map_nil] <;> exact rfl)); simp only [Act.put, List.setIfInBounds_toArray, List.set_cons_succ, List.set_cons_zero]) | ((with_reducible apply wq_assign); (focus (simp only [Act.eval, Array.getD_eq_getD_getElem?, List.getElem?_toArray, List.getElem?_cons_succ, List.getElem?_cons_zero, Option.getD_some, List.map_toArray, List.map_cons, List.map_nil] <;> exact rfl)); simp only [Act.put, List.setIfInBounds_toArray, List.set_cons_succ, List.set_cons_zero]) | fail); (refine wpQuiet_nil ?_)) | ((with_reducible apply wpLine_ext); exact rfl; exact rfl; exact rfl; (simp only [Act.put, List.setIfInBounds_toArray, List.set_cons_succ, List.set_cons_zero, List.cons_append, List.nil_append, ← bs_append])) | ((with_reducible apply wpLine_len (hT := Try.underlying28)); exact rfl; exact rfl; (simp only [Act.put, List.setIfInBounds_toArray, List.set_cons_succ, List.set_cons_zero, List.cons_append, List.nil_append, ← bs_append]))))
      refine wpLine_float fun bk => ?_
      (simp only [Act.put, List.setIfInBounds_toArray, List.set_cons_succ, List.set_cons_zero, List.cons_append, List.nil_append, ← bs_append])
      (repeat (first | ((refine wpLine_take rfl ?_); (first | ((with_reducible apply wq_move); (focus (simp only [Act.eval, Array.getD_eq_getD_getElem?, List.getElem?_toArray, List.getElem?_cons_succ, List.getElem?_cons_zero, Option.getD_some, List.map_toArray, List.map_cons, List.map_nil] <;> exact rfl)); simp only [Act.put, List.setIfInBounds_toArray, List.set_cons_succ, List.set_cons_zero]) | ((with_reducible apply wq_assign); (focus (simp only [Act.eval, Array.getD_eq_getD_getElem?, List.getElem?_toArray, List.getElem?_cons_succ, List.getElem?_cons_zero, Option.getD_some, List.map_toArray, List.map_cons, List.map_nil] <;> exact rfl)); simp only [Act.put, List.setIfInBounds_toArray, List.set_cons_succ, List.set_cons_zero]) | fail); (refine wpQuiet_nil ?_)) | ((with_reducible apply wpLine_store 0 (T := 24)); exact wanted_plain; exact rfl; exact rfl; exact rfl; exact info_idl Hkl.out; (focus (simp only [bs_length, zeros_length, Hkl.out])); exact bs_oneCell _; (simp only [Act.put, List.setIfInBounds_toArray, List.set_cons_succ, List.set_cons_zero, List.cons_append, List.nil_append, ← bs_append]))))
      ((refine wpLine_nil ?_); intro wl hF)
      by_cases he0 : e = 0
      · subst he0
        obtain ⟨t0, ht0⟩ : ∃ t, nodeOf nm ((n : Int) + (q : Int)) 130 k = t := ⟨_, rfl⟩
        have Ht0 := Lib.hid ht0
        have Ht0l := Lib.hid (show t0.length = 32 by rw [← ht0]; exact nodeOf_length _ _ _ _)
        have Hr0 := Lib.hid (show climb nm (n + q) t0 (sig.drop 4300) = r0 by rw [← Hroot.out, ← ht0, Int.natCast_add])
        clear ht0
        go_wp2_with (first | go_skip | ((with_reducible refine wpl_unguard ?_ ?_); (focus (go_simp; done))) | (go_at_call 48; first | (refine (getK pub (by rw [Hl0.out]; decide) _ _ _ (by omega) (S0.out.fr hF)).mono ?_; rintro _ _ ⟨rfl, hb⟩; replace hF := hF.call hb; clear hb; rw [Hk.out]) | (refine (getK (pub.drop 4) (by rw [List.length_drop, Hl0.out]; decide) _ _ _ (by omega) (by rw [← bs_drop]; exact (S0.out.fr hF).drop 4)).mono ?_; rintro _ _ ⟨rfl, hb⟩; replace hF := hF.call hb; clear hb; rw [Hk2.out]) | (refine (getK (sig.drop 4296) (by rw [List.length_drop, Hl2.out]; omega) _ _ _ (by omega) (by rw [← bs_drop]; exact (S2.out.fr hF).drop 4296)).mono ?_; rintro _ _ ⟨rfl, hb⟩; replace hF := hF.call hb; clear hb; rw [Hk3.out]) | (refine (getK sig (by rw [Hl2.out]; omega) _ _ _ (by omega) (S2.out.fr hF)).mono ?_; rintro _ _ ⟨rfl, hb⟩; replace hF := hF.call hb; clear hb; rw [Hk4.out])) | ((with_reducible apply wpl_cut_lo (hu := Try.underlying28) (he := info_u8_)); exact rfl; exact rfl; (focus omega); (focus omega); (focus omega)) | ((with_reducible apply wpl_shlI); exact rfl; exact rfl; (focus omega); (focus omega); (focus (rw [Hp.out]; omega)); (focus (rw [Hp.out]; omega)); rw [Hp.out]))
        ((refine wp_region_line ([⟨bn, bs nm, 22⟩]) ([⟨bk, bs k, 24⟩]) [0, 1, 2] ([ln 3, fl 4 (bs zeros) 24 (fun b => .pointer (some ⟨b, 0, none⟩)), ln 5]) (by kernel_rfl) (by kernel_rfl) hF ?_); clear hF; (simp only [planOf, List.filterMap_cons, List.filterMap_nil, List.getElem?_toArray, List.getElem?_cons_succ, List.getElem?_cons_zero, Option.map_some]))
        repeat (first | ((with_reducible apply wq_move); (focus (simp only [Act.eval, Array.getD_eq_getD_getElem?, List.getElem?_toArray, List.getElem?_cons_succ, List.getElem?_cons_zero, Option.getD_some, List.map_toArray, List.map_cons, List.map_nil] <;> exact rfl)); simp only [Act.put, List.setIfInBounds_toArray, List.set_cons_succ, List.set_cons_zero]) | ((with_reducible apply wq_load (T := 22) (hu := Try.underlying22)); exact rfl; (first | exact ⟨0, rfl⟩ | exact ⟨1, rfl⟩ | exact ⟨2, rfl⟩ | exact ⟨3, rfl⟩ | exact ⟨4, rfl⟩ | exact ⟨5, rfl⟩ | exact ⟨6, rfl⟩ | exact ⟨7, rfl⟩ | exact ⟨8, rfl⟩ | exact ⟨9, rfl⟩ | exact ⟨10, rfl⟩ | exact ⟨11, rfl⟩); exact info_nm Hnm.out; simp only [Act.put, List.setIfInBounds_toArray, List.set_cons_succ, List.set_cons_zero]) | ((with_reducible apply wq_sliceA (T := 24) (hu := Try.underlying24) (he := info_u8_)); exact rfl; simp only [Act.put, List.setIfInBounds_toArray, List.set_cons_succ, List.set_cons_zero]))
        refine wpQuiet_nil ?_
        (refine And.intro ?_ ?_; (focus (repeat (first | (with_reducible exact FOK.nil) | (with_reducible refine FOK.ln ?_) | (with_reducible refine FOK.tk ?_) | (with_reducible refine FOK.fl ?_ ?_; (focus (exact fstep_alloc Try.zeroValue24 rfl)))))))
        ((with_reducible apply wpLine_callp (f := 49) (hc := Try.call49)); exact wanted_plain; (focus (simp only [Act.eval, Array.getD_eq_getD_getElem?, List.getElem?_toArray, List.getElem?_cons_succ, List.getElem?_cons_zero, Option.getD_some, List.map_toArray, List.map_cons, List.map_nil] <;> exact rfl)); (focus (intro _ _ hw; exact nodeR nm Hnm.out ((n : Int) + (q : Int)) (by omega) (by omega) 130 k _ _ _ Hkl.out (by omega) (Sl.whole hw ⟨1, rfl⟩))); (simp only [Act.put, List.setIfInBounds_toArray, List.set_cons_succ, List.set_cons_zero, List.cons_append, List.nil_append, ← bs_append]))
        rw [Ht0.out]
        refine wpLine_float fun bt => ?_
        (simp only [Act.put, List.setIfInBounds_toArray, List.set_cons_succ, List.set_cons_zero, List.cons_append, List.nil_append, ← bs_append])
        ((with_reducible apply wpLine_store 1 (T := 24)); exact wanted_plain; exact rfl; exact rfl; exact rfl; exact info_idl Ht0l.out; (focus (simp only [bs_length, zeros_length, Ht0l.out])); exact bs_oneCell _; (simp only [Act.put, List.setIfInBounds_toArray, List.set_cons_succ, List.set_cons_zero, List.cons_append, List.nil_append, ← bs_append]))
        ((refine wpLine_nil ?_); intro wl hF)
        go_wp2_with (first | fail)
        go_loopw [13, 15] (fun v u wr => ∃ (r d i : Nat) (t : List UInt8), r < 2 * n ∧ 2 ^ d ≤ r ∧ r < 2 ^ (d + 1) ∧ v = .int .i64 (r : Int) ∧ u = .int .i64 (i : Int) ∧ i + d = h ∧ t.length = 32 ∧ climb nm r t (sig.drop (4300 + 32 * i)) = r0 ∧ Fr w wr [⟨bn, bs nm, 22⟩, ⟨bk, bs k, 24⟩, ⟨bt, bs t, 24⟩]) (fun v _ _ => (intOf v).toNat)
        case atStart =>
          refine ⟨n + q, h, 0, t0, by omega, by rw [← Hn.out]; omega, by rw [Nat.pow_succ, ← Hn.out]; omega, by congr, rfl, by omega, Ht0l.out, Hr0.out, hF⟩
        case round =>
          clear hF
          obtain ⟨r, d, i, t, hr, hd1, hd2, rfl, rfl, hid, ht, hcl, hF⟩ := hrel
          have Htl := Lib.hid ht
          have Hcl := Lib.hid hcl
          have Hd1 := Lib.hid hd1
          have Hd2 := Lib.hid hd2
          clear ht hcl hd1 hd2
          by_cases hr1 : 1 < r
          · have d5 : (r : Int) > 1 := by omega
            have hd0 : 1 ≤ d := by
              refine Nat.pos_of_ne_zero fun e => ?_
              have := Hd2.out
              rw [e] at this
              omega
            obtain ⟨d', rfl⟩ : ∃ d', d = d' + 1 := ⟨d - 1, by omega⟩
            have hdd1 : 2 ^ d' ≤ r / 2 := by have := Hd1.out; rw [Nat.pow_succ] at this; omega
            have hdd2 : r / 2 < 2 ^ (d' + 1) := by have := Hd2.out; rw [Nat.pow_succ] at this; omega
            have Hdd := Lib.hid (And.intro hdd1 hdd2)
            have hi5 : i ≤ 4 := by omega
            have hil : 4300 + 32 * i + 32 ≤ l2 := by omega
            have Hid := Lib.hid hid
            obtain ⟨sd, hsd⟩ : ∃ s, (sig.drop (4300 + 32 * i)).take 32 = s := ⟨_, rfl⟩
            have Hsl := Lib.hid (show sd.length = 32 by rw [← hsd, List.length_take, List.length_drop, Hl2.out]; omega)
            have Ssd := Lib.hid (show ∀ w', Sl w' (some y) (bs sig) → Sl w' (some (y.add ((4300 : Int) + 32 * (i : Int)).toNat)) (bs sd) from fun w' hw' => by
              rw [show ((4300 : Int) + 32 * (i : Int)).toNat = 4300 + 32 * i by omega, ← hsd, ← bs_take, ← bs_drop]
              exact hw'.sub (4300 + 32 * i) 32)
            have q1 : ((4332 : Int) + 32 * (i : Int) - (4300 + 32 * (i : Int))).toNat = 32 := by omega
            have Q1 := Lib.hid q1
            have hcs := Hcl.out
            rw [climb_step hr1, hsd, List.drop_drop] at hcs
            clear hsd hdd1 hdd2 hid q1
            by_cases hp : r % 2 = 1
            · have p1 : (r : Int) % 2 = 1 := by omega
              rw [if_pos hp] at hcs
              obtain ⟨z, hz⟩ : ∃ z, nodeOf nm ((r / 2 : Nat) : Int) 131 (sd ++ t) = z := ⟨_, rfl⟩
              have Hz := Lib.hid hz
              have Hzl := Lib.hid (show z.length = 32 by rw [← hz]; exact nodeOf_length _ _ _ _)
              have Hcz := Lib.hid (show climb nm (r / 2) z (sig.drop (4300 + 32 * (i + 1))) = r0 by rw [← hz]; exact hcs)
              clear hcs hz
              go_wp2_with (first | ((with_reducible apply wpl_cutG (lo := (4300 : Int) + 32 * (i : Int)) (hi := (4332 : Int) + 32 * (i : Int)) (hu := Try.underlying28) (he := info_u8_)); exact rfl; exact rfl; exact rfl; (focus omega); (focus omega); (focus omega); (focus omega); rw [Q1.out]))
              ((refine wp_region_line ([⟨bn, bs nm, 22⟩, ⟨bk, bs k, 24⟩]) ([⟨bt, bs t, 24⟩]) [0, 1, 2, 4, 6] ([fl 3 [] 5 (fun b => .slice (some ⟨b, 0, none⟩) 0 0), ln 5, ln 7, ln 8, ln 9]) (by kernel_rfl) (by kernel_rfl) hF ?_); clear hF; (simp only [planOf, List.filterMap_cons, List.filterMap_nil, List.getElem?_toArray, List.getElem?_cons_succ, List.getElem?_cons_zero, Option.map_some]))
              ((repeat (first | ((with_reducible apply wq_move); (focus (simp only [Act.eval, Array.getD_eq_getD_getElem?, List.getElem?_toArray, List.getElem?_cons_succ, List.getElem?_cons_zero, Option.getD_some, List.map_toArray, List.map_cons, List.map_nil] <;> exact rfl)); simp only [Act.put, List.setIfInBounds_toArray, List.set_cons_succ, List.set_cons_zero]) | ((with_reducible apply wq_load (T := 22) (hu := Try.underlying22)); exact rfl; (first | exact ⟨0, rfl⟩ | exact ⟨1, rfl⟩ | exact ⟨2, rfl⟩ | exact ⟨3, rfl⟩ | exact ⟨4, rfl⟩ | exact ⟨5, rfl⟩ | exact ⟨6, rfl⟩ | exact ⟨7, rfl⟩ | exact ⟨8, rfl⟩ | exact ⟨9, rfl⟩ | exact ⟨10, rfl⟩ | exact ⟨11, rfl⟩); exact info_nm Hnm.out; simp only [Act.put, List.setIfInBounds_toArray, List.set_cons_succ, List.set_cons_zero]) | ((with_reducible apply wq_sliceA (T := 24) (hu := Try.underlying24) (he := info_u8_)); exact rfl; simp only [Act.put, List.setIfInBounds_toArray, List.set_cons_succ, List.set_cons_zero]) | ((with_reducible apply wq_quoN (m := r) (n := 2)); exact rfl; exact rfl; (focus omega); (focus omega); simp only [Act.put, List.setIfInBounds_toArray, List.set_cons_succ, List.set_cons_zero]))); (refine wpQuiet_nil ?_); (refine And.intro ?_ ?_; (focus (repeat (first | (with_reducible exact FOK.nil) | (with_reducible refine FOK.ln ?_) | (with_reducible refine FOK.tk ?_) | (with_reducible refine FOK.fl ?_ ?_; (focus (exact fstep_build Try.underlying28 byteElem (by omega) (by kernel_rfl)))))))); (refine wpLine_float fun be => ?_); (simp only [Act.put, List.setIfInBounds_toArray, List.set_cons_succ, List.set_cons_zero, List.cons_append, List.nil_append, ← bs_append]))
              ((with_reducible apply wpLine_append 1 ([]) ([]) (bs sd) (ht := Try.underlying28) (he := byteElem)); exact wanted_plain; exact rfl; exact rfl; (focus (simp [bs_length, Hsl.out])); (focus exact rfl); exact rfl; (focus (simp [bs_length, Hsl.out])); (focus (intro _ _ hw; exact Ssd.out _ (S2.out.fr hw))); exact bs_oneCell _; (focus omega); (focus (unfold maxLen; omega)); (intro b1 c1 t1 hc1); have H1 := Lib.hid hc1; clear hc1; (simp only [Act.put, List.setIfInBounds_toArray, List.set_cons_succ, List.set_cons_zero, List.cons_append, List.nil_append, ← bs_append]))
              ((with_reducible apply wpLine_append 1 (bs sd) (t1) (bs t) (ht := Try.underlying28) (he := byteElem)); exact wanted_plain; exact rfl; exact rfl; (focus (simp [bs_length, Htl.out, Hsl.out])); (focus exact (by have := H1.out; omega)); exact rfl; (focus (simp [bs_length, Htl.out, Hsl.out])); (focus (intro _ _ hw; exact Sl.whole hw ⟨2, rfl⟩)); exact bs_oneCell _; (focus omega); (focus (unfold maxLen; omega)); (intro b2 c2 t2 hc2); have H2 := Lib.hid hc2; clear hc2; (simp only [Act.put, List.setIfInBounds_toArray, List.set_cons_succ, List.set_cons_zero, List.cons_append, List.nil_append, ← bs_append]))
              ((with_reducible apply wpLine_callp (f := 49) (hc := Try.call49)); exact wanted_plain; (focus (simp only [Act.eval, Array.getD_eq_getD_getElem?, List.getElem?_toArray, List.getElem?_cons_succ, List.getElem?_cons_zero, Option.getD_some, List.map_toArray, List.map_cons, List.map_nil] <;> exact rfl)); (focus (intro _ _ hw; exact nodeR nm Hnm.out ((r / 2 : Nat) : Int) (by omega) (by omega) 131 (sd ++ t) _ _ _ (by simp [Hsl.out, Htl.out]) (by omega) (Sl.pre hw ⟨3, rfl⟩))); (simp only [Act.put, List.setIfInBounds_toArray, List.set_cons_succ, List.set_cons_zero, List.cons_append, List.nil_append, ← bs_append]))
              rw [Hz.out]
              ((with_reducible apply wpLine_store 0 (T := 24)); exact wanted_plain; exact rfl; exact rfl; exact rfl; exact info_idl Hzl.out; (focus (simp only [bs_length, zeros_length, Hzl.out, Htl.out])); exact bs_oneCell _; (simp only [Act.put, List.setIfInBounds_toArray, List.set_cons_succ, List.set_cons_zero, List.cons_append, List.nil_append, ← bs_append]))
              ((refine wpLine_nil ?_); intro wl hF)
              go_wp2_with (first | fail)
              go_roundw
              case rel => exact ⟨r / 2, d', i + 1, z, by omega, Hdd.out.1, Hdd.out.2, by congr, by go_num, by have := Hid.out; omega, Hzl.out, Hcz.out, hF.sub (List.sublist_append_left [_, _, _] _)⟩
              case measure => simp [intOf]; omega
            · have p1 : (r : Int) % 2 = 0 := by omega
              rw [if_neg hp] at hcs
              obtain ⟨z, hz⟩ : ∃ z, nodeOf nm ((r / 2 : Nat) : Int) 131 (t ++ sd) = z := ⟨_, rfl⟩
              have Hz := Lib.hid hz
              have Hzl := Lib.hid (show z.length = 32 by rw [← hz]; exact nodeOf_length _ _ _ _)
              have Hcz := Lib.hid (show climb nm (r / 2) z (sig.drop (4300 + 32 * (i + 1))) = r0 by rw [← hz]; exact hcs)
              clear hcs hz
              go_wp2_with (first | ((with_reducible apply wpl_cutG (lo := (4300 : Int) + 32 * (i : Int)) (hi := (4332 : Int) + 32 * (i : Int)) (hu := Try.underlying28) (he := info_u8_)); exact rfl; exact rfl; exact rfl; (focus omega); (focus omega); (focus omega); (focus omega); rw [Q1.out]))
              ((refine wp_region_line ([⟨bn, bs nm, 22⟩, ⟨bk, bs k, 24⟩]) ([⟨bt, bs t, 24⟩]) [0, 1, 2, 4, 6] ([fl 3 [] 5 (fun b => .slice (some ⟨b, 0, none⟩) 0 0), ln 5, ln 7, ln 8, ln 9]) (by kernel_rfl) (by kernel_rfl) hF ?_); clear hF; (simp only [planOf, List.filterMap_cons, List.filterMap_nil, List.getElem?_toArray, List.getElem?_cons_succ, List.getElem?_cons_zero, Option.map_some]))
              ((repeat (first | ((with_reducible apply wq_move); (focus (simp only [Act.eval, Array.getD_eq_getD_getElem?, List.getElem?_toArray, List.getElem?_cons_succ, List.getElem?_cons_zero, Option.getD_some, List.map_toArray, List.map_cons, List.map_nil] <;> exact rfl)); simp only [Act.put, List.setIfInBounds_toArray, List.set_cons_succ, List.set_cons_zero]) | ((with_reducible apply wq_load (T := 22) (hu := Try.underlying22)); exact rfl; (first | exact ⟨0, rfl⟩ | exact ⟨1, rfl⟩ | exact ⟨2, rfl⟩ | exact ⟨3, rfl⟩ | exact ⟨4, rfl⟩ | exact ⟨5, rfl⟩ | exact ⟨6, rfl⟩ | exact ⟨7, rfl⟩ | exact ⟨8, rfl⟩ | exact ⟨9, rfl⟩ | exact ⟨10, rfl⟩ | exact ⟨11, rfl⟩); exact info_nm Hnm.out; simp only [Act.put, List.setIfInBounds_toArray, List.set_cons_succ, List.set_cons_zero]) | ((with_reducible apply wq_sliceA (T := 24) (hu := Try.underlying24) (he := info_u8_)); exact rfl; simp only [Act.put, List.setIfInBounds_toArray, List.set_cons_succ, List.set_cons_zero]) | ((with_reducible apply wq_quoN (m := r) (n := 2)); exact rfl; exact rfl; (focus omega); (focus omega); simp only [Act.put, List.setIfInBounds_toArray, List.set_cons_succ, List.set_cons_zero]))); (refine wpQuiet_nil ?_); (refine And.intro ?_ ?_; (focus (repeat (first | (with_reducible exact FOK.nil) | (with_reducible refine FOK.ln ?_) | (with_reducible refine FOK.tk ?_) | (with_reducible refine FOK.fl ?_ ?_; (focus (exact fstep_build Try.underlying28 byteElem (by omega) (by kernel_rfl)))))))); (refine wpLine_float fun be => ?_); (simp only [Act.put, List.setIfInBounds_toArray, List.set_cons_succ, List.set_cons_zero, List.cons_append, List.nil_append, ← bs_append]))
              ((with_reducible apply wpLine_append 1 ([]) ([]) (bs t) (ht := Try.underlying28) (he := byteElem)); exact wanted_plain; exact rfl; exact rfl; (focus (simp [bs_length, Htl.out])); (focus exact rfl); exact rfl; (focus (simp [bs_length, Htl.out])); (focus (intro _ _ hw; exact Sl.whole hw ⟨2, rfl⟩)); exact bs_oneCell _; (focus omega); (focus (unfold maxLen; omega)); (intro b1 c1 t1 hc1); have H1 := Lib.hid hc1; clear hc1; (simp only [Act.put, List.setIfInBounds_toArray, List.set_cons_succ, List.set_cons_zero, List.cons_append, List.nil_append, ← bs_append]))
              ((with_reducible apply wpLine_append 1 (bs t) (t1) (bs sd) (ht := Try.underlying28) (he := byteElem)); exact wanted_plain; exact rfl; exact rfl; (focus (simp [bs_length, Htl.out, Hsl.out])); (focus exact (by have := H1.out; omega)); exact rfl; (focus (simp [bs_length, Htl.out, Hsl.out])); (focus (intro _ _ hw; exact Ssd.out _ (S2.out.fr hw))); exact bs_oneCell _; (focus omega); (focus (unfold maxLen; omega)); (intro b2 c2 t2 hc2); have H2 := Lib.hid hc2; clear hc2; (simp only [Act.put, List.setIfInBounds_toArray, List.set_cons_succ, List.set_cons_zero, List.cons_append, List.nil_append, ← bs_append]))
              ((with_reducible apply wpLine_callp (f := 49) (hc := Try.call49)); exact wanted_plain; (focus (simp only [Act.eval, Array.getD_eq_getD_getElem?, List.getElem?_toArray, List.getElem?_cons_succ, List.getElem?_cons_zero, Option.getD_some, List.map_toArray, List.map_cons, List.map_nil] <;> exact rfl)); (focus (intro _ _ hw; exact nodeR nm Hnm.out ((r / 2 : Nat) : Int) (by omega) (by omega) 131 (t ++ sd) _ _ _ (by simp [Hsl.out, Htl.out]) (by omega) (Sl.pre hw ⟨3, rfl⟩))); (simp only [Act.put, List.setIfInBounds_toArray, List.set_cons_succ, List.set_cons_zero, List.cons_append, List.nil_append, ← bs_append]))
              rw [Hz.out]
              ((with_reducible apply wpLine_store 0 (T := 24)); exact wanted_plain; exact rfl; exact rfl; exact rfl; exact info_idl Hzl.out; (focus (simp only [bs_length, zeros_length, Hzl.out, Htl.out])); exact bs_oneCell _; (simp only [Act.put, List.setIfInBounds_toArray, List.set_cons_succ, List.set_cons_zero, List.cons_append, List.nil_append, ← bs_append]))
              ((refine wpLine_nil ?_); intro wl hF)
              go_wp2_with (first | fail)
              go_roundw
              case rel => exact ⟨r / 2, d', i + 1, z, by omega, Hdd.out.1, Hdd.out.2, by congr, by go_num, by have := Hid.out; omega, Hzl.out, Hcz.out, hF.sub (List.sublist_append_left [_, _, _] _)⟩
              case measure => simp [intOf]; omega
          · have d5 : ¬ (r : Int) > 1 := by omega
            have e1 : t = r0 := by rw [← Hcl.out, climb_end (by omega)]
            subst e1
            have Sp := Lib.hid (show ∀ w', Sl w' (some x) (bs pub) → Sl w' (some (x.add 24)) (bs (pub.drop 24)) from fun w' hw' => by rw [← bs_drop]; exact hw'.drop 24)
            have Hpl := Lib.hid (show (pub.drop 24).length = 32 by rw [List.length_drop, Hl0.out])
            go_wp2_with (first | fail)
            by_cases hf : t = pub.drop 24
            · have Hf := Lib.hid (show decide (t = pub.drop 24) = true from decide_eq_true hf)
              ((refine wp_region_fr (by kernel_rfl) (by kernel_rfl) hF ?_); clear hF)
              repeat (first | (first | ((with_reducible apply wq_move); (focus (simp only [Act.eval, Array.getD_eq_getD_getElem?, List.getElem?_toArray, List.getElem?_cons_succ, List.getElem?_cons_zero, Option.getD_some, List.map_toArray, List.map_cons, List.map_nil] <;> exact rfl)); simp only [Act.put, List.setIfInBounds_toArray, List.set_cons_succ, List.set_cons_zero, eq_self, decide_true, decide_false, Bool.not_true, Bool.not_false, Hf.out]) | ((with_reducible apply wq_assign); (focus (simp only [Act.eval, Array.getD_eq_getD_getElem?, List.getElem?_toArray, List.getElem?_cons_succ, List.getElem?_cons_zero, Option.getD_some, List.map_toArray, List.map_cons, List.map_nil] <;> exact rfl)); simp only [Act.put, List.setIfInBounds_toArray, List.set_cons_succ, List.set_cons_zero, eq_self, decide_true, decide_false, Bool.not_true, Bool.not_false, Hf.out]) | ((with_reducible apply wq_load (T := 24) (hu := Try.underlying24)); exact rfl; (first | exact ⟨0, rfl⟩ | exact ⟨1, rfl⟩ | exact ⟨2, rfl⟩ | exact ⟨3, rfl⟩ | exact ⟨4, rfl⟩ | exact ⟨5, rfl⟩ | exact ⟨6, rfl⟩ | exact ⟨7, rfl⟩ | exact ⟨8, rfl⟩ | exact ⟨9, rfl⟩ | exact ⟨10, rfl⟩ | exact ⟨11, rfl⟩); exact info_idl (by first | (with_reducible exact hash_length _) | (with_reducible exact zeros_length) | (with_reducible assumption) | exact Hxl.out); simp only [Act.put, List.setIfInBounds_toArray, List.set_cons_succ, List.set_cons_zero, eq_self, decide_true, decide_false, Bool.not_true, Bool.not_false, Hf.out]) | ((with_reducible apply wq_sliceA (T := 24) (hu := Try.underlying24) (he := info_u8_)); exact rfl; simp only [Act.put, List.setIfInBounds_toArray, List.set_cons_succ, List.set_cons_zero]) | ((with_reducible apply wq_toSt (t) (hS := Try.underlying28) (he := Try.underlying5) (hT := Try.underlying9)); exact rfl; exact Htl.out; exact (fun w' hF' => Sl.whole hF' ⟨2, rfl⟩); simp only [Act.put, List.setIfInBounds_toArray, List.set_cons_succ, List.set_cons_zero]) | ((with_reducible apply wq_toSt ((pub.drop 24)) (hS := Try.underlying28) (he := Try.underlying5) (hT := Try.underlying9)); exact rfl; exact Hpl.out; exact (fun w' hF' => Sp.out _ (S0.out.fr hF')); simp only [Act.put, List.setIfInBounds_toArray, List.set_cons_succ, List.set_cons_zero]) | ((with_reducible apply wq_cut_lo (hu := Try.underlying28) (he := info_u8_)); exact rfl; exact rfl; (focus omega); (focus omega); (focus omega); simp only [Act.put, List.setIfInBounds_toArray, List.set_cons_succ, List.set_cons_zero]) | ((with_reducible apply wq_neqSt); exact rfl; exact rfl; simp only [Act.put, List.setIfInBounds_toArray, List.set_cons_succ, List.set_cons_zero, Hf.out]) | ((with_reducible apply wq_eqbytes (T := 24)); exact rfl; exact rfl; exact Try.eqGuardType24; exact (fun w => run_eqId w _ _ (by first | (with_reducible exact hash_length _) | (with_reducible exact zeros_length) | (with_reducible assumption) | exact Hxl.out) (by first | (with_reducible exact hash_length _) | (with_reducible exact zeros_length) | (with_reducible assumption) | exact Hxl.out)); simp only [Act.put, List.setIfInBounds_toArray, List.set_cons_succ, List.set_cons_zero, eq_self, decide_true, decide_false, Bool.not_true, Bool.not_false, Hf.out]) | ((with_reducible apply wq_neqbytes (T := 24)); exact rfl; exact rfl; exact Try.eqGuardType24; exact (fun w => run_eqId w _ _ (by first | (with_reducible exact hash_length _) | (with_reducible exact zeros_length) | (with_reducible assumption) | exact Hxl.out) (by first | (with_reducible exact hash_length _) | (with_reducible exact zeros_length) | (with_reducible assumption) | exact Hxl.out)); simp only [Act.put, List.setIfInBounds_toArray, List.set_cons_succ, List.set_cons_zero, eq_self, decide_true, decide_false, Bool.not_true, Bool.not_false, Hf.out]) | ((with_reducible apply wq_eqSt); exact rfl; exact rfl; simp only [Act.put, List.setIfInBounds_toArray, List.set_cons_succ, List.set_cons_zero, eq_self, decide_true, decide_false, Bool.not_true, Bool.not_false, Hf.out]) | ((with_reducible apply wq_pick); exact rfl; (focus (simp only [Act.eval, Array.getD_eq_getD_getElem?, List.getElem?_toArray, List.getElem?_cons_succ, List.getElem?_cons_zero, Option.getD_some, List.map_toArray, List.map_cons, List.map_nil] <;> exact rfl)); simp only [Act.put, List.setIfInBounds_toArray, List.set_cons_succ, List.set_cons_zero, eq_self, decide_true, decide_false, Bool.not_true, Bool.not_false, Hf.out]) | ((with_reducible apply wq_pick'); exact rfl; (focus (simp only [Act.eval, Array.getD_eq_getD_getElem?, List.getElem?_toArray, List.getElem?_cons_succ, List.getElem?_cons_zero, Option.getD_some, List.map_toArray, List.map_cons, List.map_nil] <;> exact rfl)); simp only [Act.put, List.setIfInBounds_toArray, List.set_cons_succ, List.set_cons_zero, eq_self, decide_true, decide_false, Bool.not_true, Bool.not_false, Hf.out]) | ((with_reducible apply wq_not); exact rfl; simp only [Act.put, List.setIfInBounds_toArray, List.set_cons_succ, List.set_cons_zero, eq_self, decide_true, decide_false, Bool.not_true, Bool.not_false, Hf.out]) | ((with_reducible refine wq_unguard ?_ ?_); (focus (go_simp; done))) | ((with_reducible refine wq_skip ?_ ?_); (focus (go_simp; done)); simp only [Act.put, List.setIfInBounds_toArray, List.set_cons_succ, List.set_cons_zero]) | ((with_reducible refine wq_skip_none ?_ ?_); (focus (first | (go_simp; done) | (go_simp; exact rfl))); simp only [Act.put, List.setIfInBounds_toArray, List.set_cons_succ, List.set_cons_zero])))
              ((refine wpQuiet_nil ?_); intro _ hF)
              go_wp2_with (first | fail)
              go_ret
              exact ⟨by rw [Hres.out, if_neg (by simp), if_neg (by simp [hf])]; rfl, hF.below⟩
            · have Hf := Lib.hid (show decide (t = pub.drop 24) = false from decide_eq_false hf)
              ((refine wp_region_fr (by kernel_rfl) (by kernel_rfl) hF ?_); clear hF)
              repeat (first | (first | ((with_reducible apply wq_move); (focus (simp only [Act.eval, Array.getD_eq_getD_getElem?, List.getElem?_toArray, List.getElem?_cons_succ, List.getElem?_cons_zero, Option.getD_some, List.map_toArray, List.map_cons, List.map_nil] <;> exact rfl)); simp only [Act.put, List.setIfInBounds_toArray, List.set_cons_succ, List.set_cons_zero, eq_self, decide_true, decide_false, Bool.not_true, Bool.not_false, Hf.out]) | ((with_reducible apply wq_assign); (focus (simp only [Act.eval, Array.getD_eq_getD_getElem?, List.getElem?_toArray, List.getElem?_cons_succ, List.getElem?_cons_zero, Option.getD_some, List.map_toArray, List.map_cons, List.map_nil] <;> exact rfl)); simp only [Act.put, List.setIfInBounds_toArray, List.set_cons_succ, List.set_cons_zero, eq_self, decide_true, decide_false, Bool.not_true, Bool.not_false, Hf.out]) | ((with_reducible apply wq_load (T := 24) (hu := Try.underlying24)); exact rfl; (first | exact ⟨0, rfl⟩ | exact ⟨1, rfl⟩ | exact ⟨2, rfl⟩ | exact ⟨3, rfl⟩ | exact ⟨4, rfl⟩ | exact ⟨5, rfl⟩ | exact ⟨6, rfl⟩ | exact ⟨7, rfl⟩ | exact ⟨8, rfl⟩ | exact ⟨9, rfl⟩ | exact ⟨10, rfl⟩ | exact ⟨11, rfl⟩); exact info_idl (by first | (with_reducible exact hash_length _) | (with_reducible exact zeros_length) | (with_reducible assumption) | exact Hxl.out); simp only [Act.put, List.setIfInBounds_toArray, List.set_cons_succ, List.set_cons_zero, eq_self, decide_true, decide_false, Bool.not_true, Bool.not_false, Hf.out]) | ((with_reducible apply wq_sliceA (T := 24) (hu := Try.underlying24) (he := info_u8_)); exact rfl; simp only [Act.put, List.setIfInBounds_toArray, List.set_cons_succ, List.set_cons_zero]) | ((with_reducible apply wq_toSt (t) (hS := Try.underlying28) (he := Try.underlying5) (hT := Try.underlying9)); exact rfl; exact Htl.out; exact (fun w' hF' => Sl.whole hF' ⟨2, rfl⟩); simp only [Act.put, List.setIfInBounds_toArray, List.set_cons_succ, List.set_cons_zero]) | ((with_reducible apply wq_toSt ((pub.drop 24)) (hS := Try.underlying28) (he := Try.underlying5) (hT := Try.underlying9)); exact rfl; exact Hpl.out; exact (fun w' hF' => Sp.out _ (S0.out.fr hF')); simp only [Act.put, List.setIfInBounds_toArray, List.set_cons_succ, List.set_cons_zero]) | ((with_reducible apply wq_cut_lo (hu := Try.underlying28) (he := info_u8_)); exact rfl; exact rfl; (focus omega); (focus omega); (focus omega); simp only [Act.put, List.setIfInBounds_toArray, List.set_cons_succ, List.set_cons_zero]) | ((with_reducible apply wq_neqSt); exact rfl; exact rfl; simp only [Act.put, List.setIfInBounds_toArray, List.set_cons_succ, List.set_cons_zero, Hf.out]) | ((with_reducible apply wq_eqbytes (T := 24)); exact rfl; exact rfl; exact Try.eqGuardType24; exact (fun w => run_eqId w _ _ (by first | (with_reducible exact hash_length _) | (with_reducible exact zeros_length) | (with_reducible assumption) | exact Hxl.out) (by first | (with_reducible exact hash_length _) | (with_reducible exact zeros_length) | (with_reducible assumption) | exact Hxl.out)); simp only [Act.put, List.setIfInBounds_toArray, List.set_cons_succ, List.set_cons_zero, eq_self, decide_true, decide_false, Bool.not_true, Bool.not_false, Hf.out]) | ((with_reducible apply wq_neqbytes (T := 24)); exact rfl; exact rfl; exact Try.eqGuardType24; exact (fun w => run_eqId w _ _ (by first | (with_reducible exact hash_length _) | (with_reducible exact zeros_length) | (with_reducible assumption) | exact Hxl.out) (by first | (with_reducible exact hash_length _) | (with_reducible exact zeros_length) | (with_reducible assumption) | exact Hxl.out)); simp only [Act.put, List.setIfInBounds_toArray, List.set_cons_succ, List.set_cons_zero, eq_self, decide_true, decide_false, Bool.not_true, Bool.not_false, Hf.out]) | ((with_reducible apply wq_eqSt); exact rfl; exact rfl; simp only [Act.put, List.setIfInBounds_toArray, List.set_cons_succ, List.set_cons_zero, eq_self, decide_true, decide_false, Bool.not_true, Bool.not_false, Hf.out]) | ((with_reducible apply wq_pick); exact rfl; (focus (simp only [Act.eval, Array.getD_eq_getD_getElem?, List.getElem?_toArray, List.getElem?_cons_succ, List.getElem?_cons_zero, Option.getD_some, List.map_toArray, List.map_cons, List.map_nil] <;> exact rfl)); simp only [Act.put, List.setIfInBounds_toArray, List.set_cons_succ, List.set_cons_zero, eq_self, decide_true, decide_false, Bool.not_true, Bool.not_false, Hf.out]) | ((with_reducible apply wq_pick'); exact rfl; (focus (simp only [Act.eval, Array.getD_eq_getD_getElem?, List.getElem?_toArray, List.getElem?_cons_succ, List.getElem?_cons_zero, Option.getD_some, List.map_toArray, List.map_cons, List.map_nil] <;> exact rfl)); simp only [Act.put, List.setIfInBounds_toArray, List.set_cons_succ, List.set_cons_zero, eq_self, decide_true, decide_false, Bool.not_true, Bool.not_false, Hf.out]) | ((with_reducible apply wq_not); exact rfl; simp only [Act.put, List.setIfInBounds_toArray, List.set_cons_succ, List.set_cons_zero, eq_self, decide_true, decide_false, Bool.not_true, Bool.not_false, Hf.out]) | ((with_reducible refine wq_unguard ?_ ?_); (focus (go_simp; done))) | ((with_reducible refine wq_skip ?_ ?_); (focus (go_simp; done)); simp only [Act.put, List.setIfInBounds_toArray, List.set_cons_succ, List.set_cons_zero]) | ((with_reducible refine wq_skip_none ?_ ?_); (focus (first | (go_simp; done) | (go_simp; exact rfl))); simp only [Act.put, List.setIfInBounds_toArray, List.set_cons_succ, List.set_cons_zero])))
              ((refine wpQuiet_nil ?_); intro _ hF)
              go_wp2_with (first | fail)
              go_ret
              exact ⟨by rw [Hres.out, if_neg (by simp), if_pos hf]; rfl, hF.below⟩
      · have f3 : (e != 0) = true := bne_iff_ne.2 he0
        go_wp2_with (first | fail)
        go_ret
        exact ⟨by rw [Hres.out, if_pos he0]; rfl, hF.below⟩
end Go.Proofs.Ytbnjgldilckhpaa
