/-
  THE WALKS of latticeref5.digit, digits.
-/
import Derived.Test.YtbnjgldilckhpaaDig2
import Derived.Test.YtbnjgldilckhpaaRef5b
namespace Go.Proofs.Ytbnjgldilckhpaa
set_option linter.unusedSimpArgs false
set_option linter.unusedVariables false
open Go.RowKit
attribute [local irreducible] wpQuiet Calls wpLine
set_option maxRecDepth 4000

section
variable {P : Program} {ops : Array Oper} {rest : List Oper} {Q : Exit → Act → World → Prop} {a : Act} {w : World}
theorem wpl_andI3 {dst : Option Tmp} {x y : Operand} {T ty T' : TypeId} {pos : String} {after : Array Edge} {p : UInt8} (hx : a.eval x = .int .i64 (p.toNat : Int)) (hy : a.eval y = .int .i64 3)
    (h : wpList P ops Q rest (a.put dst (.int .i64 ((low2 p).toNat : Int))) w) :
    wpList P ops Q (⟨dst, .binOp .and T x y T', ty, pos, after, none⟩ :: rest) a w :=
  wpl_pure (fun w => by
    have e : binOp .and T (.int .i64 (p.toNat : Int)) (.int .i64 3) = pure (.int .i64 ((low2 p).toNat : Int)) := by
      simp only [binOp, Op.intBits, ne_eq, not_true_eq_false, if_false, IntKind.bits]
      have hp := p.toNat_lt
      have e1 : (BitVec.ofInt 64 (p.toNat : Int) &&& BitVec.ofInt 64 3).toNat = p.toNat % 4 := by
        rw [BitVec.toNat_and, BitVec.ofInt_natCast]
        show (p.toNat % 2 ^ 64) &&& 3 = _
        rw [Nat.mod_eq_of_lt (by omega)]
        exact Nat.and_two_pow_sub_one_eq_mod p.toNat 2
      show pure (Value.int .i64 (IntKind.i64.wrap (((BitVec.ofInt 64 (p.toNat : Int) &&& BitVec.ofInt 64 3 : BitVec 64)).toNat : Int))) = _
      rw [e1, low2_toNat]
      congr 2
      exact IntWalk.i64_in _ (by omega)
    simp only [execOp, hx, hy, Sem.run_bind, Sem.run_pure, Result.andThen_ok, e, show eqGuard .and T x y (.int .i64 (p.toNat : Int)) (.int .i64 3) = pure () from rfl]) h
end

set_option maxHeartbeats 4000000 in
theorem digit5 (b : List UInt8) (p : Option Addr) (n c i : Nat) (hb : b.length = n) (hi : i / 4 < n) (hlim : i ≤ 1000000) {w : World} (hs : Sl w p (bs b)) :
    Calls Try.prog 55 #[.slice p n c, .int .i64 (i : Int)] w fun e w' => e = .returned (.int .i64 (dig b i : Int)) ∧ Below w.heap.size w w' := by
  have hF := Fr.start w
  have i0 : (0 : Int) ≤ (i : Int) := by omega
  have g2 : (0 : Int) ≤ (i : Int) / 4 := by omega
  have g3 : (i : Int) / 4 < (n : Int) := by omega
  have g4 : ((i : Int) / 4).toNat = i / 4 := by omega
  have g6 : (0 : Int) ≤ (i : Int) % 4 := by omega
  have g7 : (i : Int) % 4 < 4 := by omega
  obtain ⟨y, rfl⟩ := hs.addr (by rw [bs_length]; omega)
  have hcell : w.cell? (y.add (i / 4)) = some (B (gb b (i / 4))) := hs.cell (bs_get (by omega))
  have hd := dig_low2 b i
  obtain ⟨x, hx⟩ : ∃ x, gb b (i / 4) = x := ⟨_, rfl⟩
  rw [hx] at hcell hd
  have Hd := Lib.hid hd
  have Hcell := Lib.hid hcell
  clear hx hcell hb hd
  go_enter Try.func55, Try.ntmps55
  have g5 : (6 - 2 * ((i : Int) % 4)).toNat = 6 - 2 * (i % 4) := by omega
  go_wp2_with (first | ((with_reducible apply wpl_idxS' (hu := Try.underlying28) (he := info_u8_)); exact rfl; exact rfl; (focus omega); (focus omega); rw [g4]) | ((with_reducible apply wpl_loadC (T := 5) (hu := Try.underlying5)); exact rfl; (focus (exact Hcell.out))) | ((with_reducible apply wpl_shrB); exact rfl; exact rfl; (focus omega); (focus omega); rw [g5]) | ((with_reducible apply wpl_andI3); exact rfl; exact rfl; rw [Hd.out]))
  go_ret
  exact ⟨rfl, hF.below⟩

set_option maxHeartbeats 4000000 in
theorem digits5 (nm : List UInt8) (hnm : nm.length = 16) (q : Int) (h0 : -9223372036854775808 ≤ q) (h1 : q ≤ 9223372036854775807) (c : List UInt8) (hc : c.length = 32) (pc : Option Addr) (cc : Nat) (msg : List UInt8) (pm : Option Addr) (lm cm : Nat) (hm : msg.length = lm) (hlim : lm ≤ 1000000) {w : World} (hsc : Sl w pc (bs c)) (hsm : Sl w pm (bs msg)) :
    Calls Try.prog 39 #[agg nm, .int .i64 q, .slice pc 32 cc, .slice pm lm cm] w fun e w' => e = .returned (.agg (ii (digOf nm q c msg) 133).toArray) ∧ Below w.heap.size w w' := by
  have hF := Fr.start w
  have Hnm := Lib.hid hnm
  have Hq := Lib.hid (And.intro h0 h1)
  have Hc := Lib.hid hc
  have Hm := Lib.hid hm
  have Hsm := Lib.hid hsm
  have Hsc := Lib.hid hsc
  have Hcl := Lib.hid (show (bs c).length = 32 by rw [bs_length]; exact hc)
  have Hml := Lib.hid (show (bs msg).length = lm by rw [bs_length]; exact hm)
  obtain ⟨hh, hhh⟩ : ∃ hh, hash (headOf nm q ++ two 33153 ++ c ++ msg) = hh := ⟨_, rfl⟩
  have Hhh := Lib.hid hhh
  have Hhl := Lib.hid (show hh.length = 32 by rw [← hhh]; exact hash_length _)
  obtain ⟨f, hf⟩ : ∃ f, digOf nm q c msg = f := ⟨_, rfl⟩
  have Hf := Lib.hid (show ∀ i, dig (withSum hh) i = f i by intro i; rw [← hf, ← hhh]; rfl)
  rw [hf]
  clear hf hhh hnm h0 h1 hc hm hsm hsc
  go_enter Try.func39, Try.ntmps39
  go_wp2_with (first | ((with_reducible apply wpl_box (x := Operand.tmp 0) hF); exact rfl; clear hF; intro bn _ hF) | ((with_reducible refine wpl_alloc (dst := some 8) hF (List.replicate 133 (.int .i64 0)) (T := 64) (hz := zero133) ?_ ?_); exact rfl; clear hF; intro bo _ hF) | ((with_reducible apply wpl_load hF (T := 22) (hu := Try.underlying22)); exact rfl; (first | exact ⟨0, rfl⟩ | exact ⟨1, rfl⟩ | exact ⟨2, rfl⟩ | exact ⟨3, rfl⟩ | exact ⟨4, rfl⟩ | exact ⟨5, rfl⟩ | exact ⟨6, rfl⟩ | exact ⟨7, rfl⟩ | exact ⟨8, rfl⟩ | exact ⟨9, rfl⟩ | exact ⟨10, rfl⟩ | exact ⟨11, rfl⟩); exact info_nm Hnm.out) | (go_at_call 33; refine (head5 nm Hnm.out q Hq.out.1 Hq.out.2 _).mono ?_; rintro _ _ ⟨b1, c1, t1, rfl, hc1, hm⟩; replace hF := hF.took hm; clear hm; have H1 := Lib.hid hc1; clear hc1) | ((with_reducible apply wpl_push hF 2 (bs (headOf nm q)) (t1) (bs (two 33153)) (ht := Try.underlying28) (he := byteElem)); (focus (intro _; exact rfl)); (focus exact rfl); (focus (intro _; exact rfl)); (focus (rw [bs_length, headOf_length Hnm.out])); (focus (exact H1.out)); (focus (first | exact rfl | kernel_rfl)); exact rfl; (focus omega); exact bs_oneCell _; (focus omega); (focus (unfold maxLen; omega)); clear hF; intro b2 c2 t2 _ w2 hc2 hF; have H2 := Lib.hid hc2; clear hc2) | ((with_reducible apply wpl_append (dst := some 21) hF 2 (bs (headOf nm q) ++ bs (two 33153)) (t2) (bs c) (ht := Try.underlying28) (he := byteElem)); exact rfl; (focus exact rfl); (focus (simp [bs_length, headOf_length Hnm.out, two_length])); (focus (exact H2.out)); exact rfl; (focus (exact Hcl.out)); (focus (exact Hsc.out.fr hF)); exact bs_oneCell _; (focus omega); (focus (unfold maxLen; omega)); clear hF; intro b3 c3 t3 w3 hc3 hF; have H3 := Lib.hid hc3; clear hc3) | ((with_reducible apply wpl_append (dst := some 23) hF 2 (bs (headOf nm q) ++ bs (two 33153) ++ bs c) (t3) (bs msg) (ht := Try.underlying28) (he := byteElem)); exact rfl; (focus exact rfl); (focus (simp [bs_length, headOf_length Hnm.out, two_length, Hcl.out])); (focus (exact H3.out)); exact rfl; (focus (exact Hml.out)); (focus (exact Hsm.out.fr hF)); exact bs_oneCell _; (focus omega); (focus (unfold maxLen; omega)); clear hF; intro b4 c4 t4 w4 hc4 hF; have H4 := Lib.hid hc4; clear hc4) | (simp only [← bs_append] at hF; (go_at_call 36; refine (refSum (headOf nm q ++ two 33153 ++ c ++ msg) _ _ _ (by simp [headOf_length Hnm.out, two_length, ← bs_length c, ← bs_length msg, Hcl.out, Hml.out]; omega) _ (Sl.pre hF ⟨2, rfl⟩) (by omega)).mono ?_; rintro _ _ ⟨rfl, hb⟩; replace hF := hF.call hb; clear hb; rw [Hhh.out])) | ((with_reducible refine wpl_alloc (dst := some 9) hF (bs zeros) (T := 24) (hz := Try.zeroValue24) ?_ ?_); exact rfl; clear hF; intro bh _ hF) | ((with_reducible apply wpl_store hF 3 (T := 24)); exact rfl; exact rfl; exact rfl; exact info_idl Hhl.out; (focus (simp only [bs_length, zeros_length, Hhl.out, Hhl.out])); exact bs_oneCell _; clear hF; intro _ hF) | ((with_reducible apply wpl_buildSlice hF (ht := Try.underlying28) (he := byteElem) ([])); (focus omega); (focus (first | exact rfl | kernel_rfl)); clear hF; intro g _ hF) | ((with_reducible apply wpl_sliceA (T := 24) (hu := Try.underlying24) (he := info_u8_)); exact rfl) | ((with_reducible apply wpl_append (dst := some 27) hF 4 ([]) ([]) (bs hh) (ht := Try.underlying28) (he := byteElem)); exact rfl; (focus exact rfl); (focus (exact rfl)); (focus (exact rfl)); exact rfl; (focus (rw [bs_length]; exact Hhl.out)); (focus (exact Sl.whole hF ⟨3, rfl⟩)); exact bs_oneCell _; (focus omega); (focus (unfold maxLen; omega)); clear hF; intro b5 c5 t5 w5 hc5 hF; have H5 := Lib.hid hc5; clear hc5))
  have hF1 : Fr w w5 [⟨bo, List.replicate 133 (.int .i64 0), 64⟩, ⟨b5, bs hh ++ t5, 5⟩] := hF.sub (List.Sublist.cons _ (List.Sublist.cons_cons _ (List.Sublist.cons _ (List.Sublist.cons _ (List.Sublist.refl _)))))
  clear hF
  go_loopw [11, 12] (fun u v wr => ∃ k : Nat, k ≤ 128 ∧ v = .int .i64 (k : Int) ∧ u = .int .i64 ((sumTo hh k : Nat) : Int) ∧ Fr w wr [⟨bo, List.replicate 133 (.int .i64 0), 64⟩, ⟨b5, bs hh ++ t5, 5⟩]) (fun _ v _ => (128 - intOf v).toNat)
  case atStart => exact ⟨0, by omega, rfl, rfl, hF1⟩
  case round =>
    clear hF1
    obtain ⟨k, hk, rfl, rfl, hF⟩ := hrel
    obtain ⟨sm, hsm⟩ : ∃ sm, sumTo hh k = sm := ⟨_, rfl⟩
    have hsle : sm ≤ 3 * k := by rw [← hsm]; exact sumTo_le _ _
    have Hsum := Lib.hid hsm
    rw [hsm]
    clear hsm
    by_cases hlt : k < 128
    · have d1 : (k : Int) < 128 := by omega
      obtain ⟨d, hd⟩ : ∃ d, dig hh k = d := ⟨_, rfl⟩
      have d3 : d < 4 := by rw [← hd]; exact dig_lt _ _
      have Hd := Lib.hid hd
      have Hnext := Lib.hid (show sumTo hh (k + 1) = sm + (3 - d) by rw [sumTo, Hsum.out, hd])
      clear hd
      go_wp2_with (first | (go_at_call 55; refine (digit5 hh _ 32 _ k Hhl.out (by omega) (by omega) (Sl.pre hF ⟨1, rfl⟩)).mono ?_; rintro _ _ ⟨rfl, hb⟩; replace hF := hF.call hb; clear hb; rw [Hd.out]))
      go_roundw
      case rel => exact ⟨k + 1, by omega, by go_num, by rw [Hnext.out]; congr 1; omega, hF⟩
      case measure => simp [intOf]; omega
    · obtain rfl : k = 128 := by omega
      have Hchk := Lib.hid (show two (64 * (sm : Int)) = two (chk hh) by rw [← Hsum.out, chk])
      have Hbl := Lib.hid (show (bs hh).length = 32 by rw [bs_length]; exact Hhl.out)
      go_wp2_with (first | (go_at_call 38; refine (two5 (64 * (sm : Int)) (by omega) (by omega) hF 1 (xs := bs hh) (tail := t5) rfl Hbl.out (by have := H5.out; omega) (by omega)).mono ?_; clear hF; rintro _ w6 ⟨b6, c6, t6, rfl, hc6, hF⟩; have H6 := Lib.hid hc6; clear hc6) | ((with_reducible refine wpl_alloc (dst := some 13) hF (List.replicate 133 (.int .i64 0)) (T := 64) (hz := zero133) ?_ ?_); exact rfl; clear hF; intro ba _ hF))
      simp only [Hchk.out, ← bs_append, List.set_cons_succ, List.set_cons_zero, List.cons_append, List.nil_append] at hF
      rw [← laidI_zero f] at hF
      have hF1 := hF
      clear hF
      have Hws := Lib.hid (withSum_length Hhl.out)
      obtain ⟨ws', hws⟩ : ∃ x, withSum hh = x := ⟨_, rfl⟩
      have Hw2 := Lib.hid (show hh ++ two (chk hh) = ws' from hws)
      rw [hws] at Hf Hws
      clear hws
      rw [Hw2.out] at hF1
      obtain ⟨wo, hwo⟩ : ∃ wo : World, wo = wr := ⟨_, rfl⟩
      clear hwo
      go_loopw [14] (fun v wr => ∃ i : Nat, i ≤ 133 ∧ v = .int .i64 (i : Int) ∧ Fr w wr [⟨bo, laidI f 0 133, 64⟩, ⟨b6, bs ws' ++ t6, 5⟩, ⟨ba, laidI f i 133, 64⟩]) (fun v _ => (133 - intOf v).toNat)
      case atStart => exact ⟨0, by omega, rfl, hF1⟩
      case round =>
        clear hF1
        obtain ⟨i, hi, rfl, hF⟩ := hrel
        have i0 : (0 : Int) ≤ (i : Int) := by omega
        by_cases hlt2 : i < 133
        · have g1 : (i : Int) < 133 := by omega
          obtain ⟨d, hd⟩ : ∃ d, dig ws' i = d := ⟨_, rfl⟩
          have Hdd := Lib.hid hd
          have Hd := Lib.hid (show d = f i by rw [← hd]; exact Hf.out i)
          clear hd
          have Hget := Lib.hid (laidI_get f hlt2)
          go_wp2_with (first | (go_at_call 55; refine (digit5 ws' _ 34 _ i Hws.out (by omega) (by omega) (Sl.pre hF ⟨1, rfl⟩)).mono ?_; rintro _ _ ⟨rfl, hb⟩; replace hF := hF.call hb; clear hb; rw [Hdd.out]) | ((with_reducible apply wpl_idxA (T := 64) (hu := Try.underlying64) (he := info_int_)); exact rfl; exact rfl; (focus omega); (focus omega); rw [Int.toNat_natCast]) | ((with_reducible apply wpl_storeV hF 2 (T := 3)); exact rfl; exact rfl; exact rfl; exact info_int_; exact Hget.out; exact rfl; clear hF; intro w7 hF))
          have hF2 : Fr w w7 [⟨bo, laidI f 0 133, 64⟩, ⟨b6, bs ws' ++ t6, 5⟩, ⟨ba, laidI f (i + 1) 133, 64⟩] := by
            rw [← laidI_set f hlt2, ← Hd.out]
            exact hF
          go_roundw
          case rel => exact ⟨i + 1, by omega, by go_num, hF2⟩
          case measure => simp [intOf]; omega
        · obtain rfl : i = 133 := by omega
          rw [laidI_all] at hF
          go_wp2_with (first | ((with_reducible apply wpl_load hF (T := 64) (hu := Try.underlying64)); exact rfl; (first | exact ⟨0, rfl⟩ | exact ⟨1, rfl⟩ | exact ⟨2, rfl⟩ | exact ⟨3, rfl⟩ | exact ⟨4, rfl⟩ | exact ⟨5, rfl⟩ | exact ⟨6, rfl⟩ | exact ⟨7, rfl⟩ | exact ⟨8, rfl⟩ | exact ⟨9, rfl⟩ | exact ⟨10, rfl⟩ | exact ⟨11, rfl⟩); exact info_133 (ii_length f 133)) | ((with_reducible apply wpl_store hF 0 (T := 64)); exact rfl; exact rfl; exact rfl; exact info_133 (ii_length f 133); (focus (rw [laidI_length f (by omega), ii_length])); exact ii_one f 133; clear hF; intro _ hF))
          exact post_row hF rfl rfl rfl ⟨0, rfl⟩ Try.underlying64 (info_133 (ii_length f 133)) ⟨rfl, hF.below⟩
end Go.Proofs.Ytbnjgldilckhpaa
