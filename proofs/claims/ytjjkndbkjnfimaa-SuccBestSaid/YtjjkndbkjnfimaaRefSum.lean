/-
  THE WALK of latticeref1.Sum: it comes to the plain hash.
-/
import Derived.Test.YtjjkndbkjnfimaaPair
import Derived.Test.YtjjkndbkjnfimaaStores
namespace Go.Proofs.Ytjjkndbkjnfimaa
set_option linter.unusedSimpArgs false
set_option linter.unusedVariables false
open Go.RowKit
attribute [local irreducible] wpQuiet Calls
set_option maxRecDepth 4000

/-- A slice's length. -/
def slen : Value → Nat
  | .slice _ n _ => n
  | _ => 0

theorem len8_length (n : Nat) : (len8 n).length = 8 := by simp [len8]
theorem len8_succ (n i : Nat) (h : i < 8) : (len8 n).take (i + 1) = (len8 n).take i ++ [b8 ((n / 2 ^ (8 * (7 - i)) : Nat) : Int)] := by
  rw [List.take_succ_eq_append_getElem (by rw [len8_length]; exact h)]
  simp [len8]

theorem bs_get_app {D : List UInt8} {tt : List Value} {i : Nat} (h : i < D.length) : (bs D ++ tt)[i]? = some (B (gb D i)) := by
  rw [List.getElem?_append_left (by rw [bs_length]; exact h), bs_get h]
theorem padn_mod (la j : Nat) (h : j < padn la) : ¬ ((la + 1 + j) % 64 = 56) := by unfold padn at h; omega
theorem padn_mod' (la : Nat) : (la + 1 + padn la) % 64 = 56 := by unfold padn; omega
theorem padn_lt (la : Nat) : padn la < 64 := by unfold padn; omega
theorem push_zero (M : List UInt8) (j : Nat) : bs (M ++ [128] ++ List.replicate j 0) ++ bs [0] = bs (M ++ [128] ++ List.replicate (j + 1) 0) := by
  rw [← bs_append, List.append_assoc (M ++ [128]), List.replicate_succ']
theorem push_len (P : List UInt8) (la i : Nat) (h : i < 8) : bs (P ++ (len8 (8 * la)).take i) ++ bs [b8 ((la : Int) * 8 / 2 ^ (8 * (7 - i)))] = bs (P ++ (len8 (8 * la)).take (i + 1)) := by
  rw [← bs_append, List.append_assoc, len8_succ _ _ h]
  congr 4
  rw [Nat.mul_comm 8 la]
  simp

theorem sr_zero (x : UInt32) : sr x 0 = x := by simp [sr]

def stepP (s : List UInt32) (k x : UInt32) : UInt32 := gw s 7 + bsig1 (gw s 4) + (gw s 4 &&& gw s 5 ^^^ ~~~gw s 4 &&& gw s 6) + k + x
def stepQ (s : List UInt32) : UInt32 := bsig0 (gw s 0) + (gw s 0 &&& gw s 1 ^^^ gw s 0 &&& gw s 2 ^^^ gw s 1 &&& gw s 2)
theorem step_eq (s : List UInt32) (k x : UInt32) : [stepP s k x + stepQ s, gw s 0, gw s 1, gw s 2, gw s 3 + stepP s k x, gw s 4, gw s 5, gw s 6] = step s k x := rfl

/-- The sums of two states, as far as they are made. -/
def addn (s v : List UInt32) (i : Nat) : List UInt32 := (List.range i).map (fun j => gw s j + gw v j) ++ s.drop i
theorem addn_length (s v : List UInt32) (hs : s.length = 8) (i : Nat) (h : i ≤ 8) : (addn s v i).length = 8 := by simp [addn, hs]; omega
theorem addn_zero (s v : List UInt32) : addn s v 0 = s := by simp [addn]
theorem addn_all (s v : List UInt32) (hs : s.length = 8) : addn s v 8 = addw s v := by simp [addn, addw, List.drop_eq_nil_of_le, hs]
theorem gw_addn (s v : List UInt32) (hs : s.length = 8) (i : Nat) (h : i < 8) : gw (addn s v i) i = gw s i := by
  simp only [gw, addn, List.getD]
  rw [List.getElem?_append_right (by simp)]
  simp
theorem addn_succ (s v : List UInt32) (hs : s.length = 8) (i : Nat) (h : i < 8) : (addn s v i).set i (gw s i + gw v i) = addn s v (i + 1) := by
  unfold addn
  rw [fill_set (by simp) (by omega), List.range_succ, List.map_append]
  rfl

set_option maxHeartbeats 8000000 in
theorem refSum (M : List UInt8) (pa : Option Addr) (la ca : Nat) (hM : M.length = la) (w : World) (hsM : Sl w pa (bs M)) (hlim : la ≤ 1099511627776) :
    Calls Try.prog 26 #[.slice pa la ca] w fun e w' => e = .returned (agg (hash M)) ∧ Below w.heap.size w w' := by
  have hF := Fr.start w
  have hM1 : M.length ≤ la := by omega
  have hM2 : la ≤ M.length := by omega
  have hM' := Lib.hid hM
  clear hM
  go_enter Try.func26, Try.ntmps26
  go_wp2_with (first | (go_at_call 35; refine (refWords _).mono ?_; rintro _ _ ⟨rfl, hb⟩; replace hF := hF.call hb; clear hb) | ((with_reducible refine wpl_alloc (dst := some 2) hF (bs zeros) (T := 30) (hz := Try.zeroValue30) ?_ ?_); exact rfl; clear hF; intro bo _ hF) | ((with_reducible refine wpl_alloc (dst := some 3) hF (ws (wzeros 64)) (T := 50) (hz := Try.zeroValue50) ?_ ?_); exact rfl; clear hF; intro bk _ hF) | ((with_reducible refine wpl_alloc (dst := some 4) hF (ws (wzeros 8)) (T := 52) (hz := Try.zeroValue52) ?_ ?_); exact rfl; clear hF; intro b4 _ hF) | ((with_reducible apply wpl_store hF 1 (T := 50) (cs' := ws kconsts)); exact rfl; (focus (first | exact rfl | kernel_rfl)); exact rfl; exact info_w64' kconsts_length; (focus (simp only [ws_length, List.length_set, wzeros_length, kconsts_length, hinit_length, addw_length, blocks_length, mixf_length] <;> omega)); exact ws_oneCell _; clear hF; intro _ hF) | ((with_reducible apply wpl_store hF 2 (T := 52) (cs' := ws hinit)); exact rfl; (focus (first | exact rfl | kernel_rfl)); exact rfl; exact info_w8' hinit_length; (focus (simp only [ws_length, List.length_set, wzeros_length, kconsts_length, hinit_length, addw_length, blocks_length, mixf_length] <;> omega)); exact ws_oneCell _; clear hF; intro _ hF) | ((with_reducible refine wpl_build (aggw hinit) ?_ ?_); (focus (intro w; kernel_rfl))) | ((with_reducible apply wpl_push hF 3 ([] ++ bs M) (tt) (bs [128]) (ht := Try.underlying43) (he := byteElem)); (focus (intro _; exact rfl)); (focus (first | exact rfl | kernel_rfl)); (focus (intro _; exact rfl)); (focus (first | exact rfl | (rw [bs_length]; exact Hl1.out) | (simp only [bs_length, List.length_append, List.length_replicate, List.length_nil, List.length_cons] <;> omega))); (focus (first | omega | exact rfl | (rw [bs_length]; exact Hl1.out) | (simp only [bs_length, List.length_append, List.length_replicate, List.length_nil, List.length_cons] <;> omega))); (focus (first | exact rfl | kernel_rfl)); exact rfl; (focus omega); exact bs_oneCell _; (focus omega); (focus (unfold maxLen; omega)); clear hF; intro bt ct tt _ _ hct hF; have hct1 := Nat.le_of_eq hct; have hct2 := Nat.le_of_eq hct.symm; clear hct) | ((with_reducible apply wpl_buildSlice hF (ht := Try.underlying43) (he := byteElem) ([])); (focus omega); (focus (first | exact rfl | kernel_rfl)); clear hF; intro bt _ hF) | ((with_reducible apply wpl_append hF 3 ([]) ([]) (bs M) (ht := Try.underlying43) (he := byteElem)); exact rfl; (focus (first | exact rfl | kernel_rfl)); (focus (first | exact rfl | (rw [bs_length]; exact Hl1.out) | (simp only [bs_length, List.length_append, List.length_replicate, List.length_nil, List.length_cons] <;> omega))); (focus (first | exact rfl | omega | (rw [bs_length]; exact Hl1.out) | (simp only [bs_length, List.length_append, List.length_replicate, List.length_nil, List.length_cons] <;> omega))); exact rfl; (focus (first | omega | (rw [bs_length]; exact Hl1.out) | (simp only [bs_length, List.length_append, List.length_replicate, List.length_nil, List.length_cons] <;> omega))); (focus (exact hsM.fr hF)); exact bs_oneCell _; (focus omega); (focus (unfold maxLen; omega)); clear hF; intro bt ct tt _ hct hF; have hct1 := Nat.le_of_eq hct; have hct2 := Nat.le_of_eq hct.symm; clear hct))
  have e0 : [] ++ bs M ++ bs [128] = bs (M ++ [128] ++ List.replicate 0 0) := by simp [bs]
  rw [e0] at hF
  clear e0
  go_loopw [5] (fun t wr => ∃ (j b c N : Nat) (tt : List Value), j ≤ padn la ∧ Hid (N = la + 1 + j) ∧ t = .slice (some ⟨b, 0, none⟩) N c ∧ c ≤ N + tt.length ∧ N + tt.length ≤ c ∧ Fr w wr [⟨bo, bs zeros, 30⟩, ⟨bk, ws kconsts, 50⟩, ⟨b4, ws hinit, 52⟩, ⟨b, bs (M ++ [128] ++ List.replicate j 0) ++ tt, 5⟩]) (fun t _ => la + 1 + padn la - slen t)
  case atStart => exact ⟨0, bt, ct, _, tt, by omega, Lib.hid rfl, rfl, by omega, by omega, hF⟩
  case round =>
    clear hF
    obtain ⟨j, b, c, N, tt, hj, hN, rfl, hc1, hc2, hF⟩ := hrel
    have hp64 := padn_lt la
    by_cases hlt : j < padn la
    · have hne := padn_mod la j hlt
      rw [← hN.out] at hne
      have n1 : N ≤ la + 1 + j := by have := hN.out; omega
      have n2 : la + 1 + j ≤ N := by have := hN.out; omega
      have t1 : (((N : Int) % 64) != 56) = true := by rw [bne_iff_ne]; omega
      have t2 : (((N : Int) % 64) == 56) = false := by rw [beq_eq_false_iff_ne]; omega
      have t3 : decide ((N : Int) % 64 = 56) = false := by rw [decide_eq_false_iff_not]; omega
      go_wp2_with (first | ((with_reducible apply wpl_push hF 3 (bs (M ++ [128] ++ List.replicate j 0)) (tt) (bs [0]) (ht := Try.underlying43) (he := byteElem)); (focus (intro _; exact rfl)); (focus (first | exact rfl | kernel_rfl)); (focus (intro _; exact rfl)); (focus (first | exact rfl | (rw [bs_length]; exact Hl1.out) | (simp only [bs_length, List.length_append, List.length_replicate, List.length_nil, List.length_cons] <;> omega))); (focus (first | omega | exact rfl | (rw [bs_length]; exact Hl1.out) | (simp only [bs_length, List.length_append, List.length_replicate, List.length_nil, List.length_cons] <;> omega))); (focus (first | exact rfl | kernel_rfl)); exact rfl; (focus omega); exact bs_oneCell _; (focus omega); (focus (unfold maxLen; omega)); clear hF; intro bt ct tt _ _ hct hF; have hct1 := Nat.le_of_eq hct; have hct2 := Nat.le_of_eq hct.symm; clear hct))
      rw [push_zero] at hF
      go_roundw
      case rel => exact ⟨j + 1, bt, ct, _, tt, by omega, Lib.hid (by omega), rfl, by omega, by omega, hF⟩
      case measure => simp [slen]; omega
    · obtain rfl : j = padn la := by omega
      have n1 : N ≤ la + 1 + padn la := by have := hN.out; omega
      have n2 : la + 1 + padn la ≤ N := by have := hN.out; omega
      have hne := padn_mod' la
      rw [← hN.out] at hne
      have t1 : (((N : Int) % 64) != 56) = false := by rw [bne_eq_false_iff_eq]; omega
      have t2 : (((N : Int) % 64) == 56) = true := by rw [beq_iff_eq]; omega
      have t3 : decide ((N : Int) % 64 = 56) = true := by rw [decide_eq_true_iff]; omega
      obtain ⟨P, hP⟩ : ∃ P, P = M ++ [128] ++ List.replicate (padn la) 0 := ⟨_, rfl⟩
      have hPl : P.length = N := by rw [hP, hN.out]; simp; omega
      rw [← hP] at hF
      have HP := Lib.hid hP
      have HPl := Lib.hid hPl
      clear hP hPl hlt hne
      go_wp2_with (first | fail)
      have eP : bs P = bs (P ++ (len8 (8 * la)).take 0) := by simp
      rw [eP] at hF
      clear eP
      go_loopw [5, 7] (fun t v wr => ∃ (i b c N' : Nat) (tt : List Value), i ≤ 8 ∧ Hid (N' = N + i) ∧ v = .int .i64 (7 - (i : Int)) ∧ t = .slice (some ⟨b, 0, none⟩) N' c ∧ c ≤ N' + tt.length ∧ N' + tt.length ≤ c ∧ Fr w wr [⟨bo, bs zeros, 30⟩, ⟨bk, ws kconsts, 50⟩, ⟨b4, ws hinit, 52⟩, ⟨b, bs (P ++ (len8 (8 * la)).take i) ++ tt, 5⟩]) (fun _ v _ => (intOf v + 1).toNat)
      case atStart => exact ⟨0, b, c, _, tt, by omega, Lib.hid rfl, rfl, rfl, by omega, by omega, hF⟩
      case round =>
        clear hF
        obtain ⟨i, b, c, N', tt, hi, hN', rfl, rfl, hc1, hc2, hF⟩ := hrel
        by_cases hlt : i < 8
        · have n3 : N' ≤ N + i := by have := hN'.out; omega
          have n4 : N + i ≤ N' := by have := hN'.out; omega
          have c1 : (0 : Int) ≤ 7 - (i : Int) := by omega
          have c2 : (0 : Int) ≤ 8 * (7 - (i : Int)) := by omega
          have e1 : (8 * (7 - (i : Int))).toNat = 8 * (7 - i) := by omega
          have hl1 : (P ++ (len8 (8 * la)).take i).length = N' := by rw [List.length_append, HPl.out, List.length_take, len8_length, hN'.out]; omega
          have Hl1 := Lib.hid hl1
          clear hl1
          go_wp2_with (first | ((with_reducible apply wpl_shr64); exact rfl; exact rfl; (focus omega); (focus omega); (focus omega)) | ((with_reducible apply wpl_push hF 3 (bs (P ++ (len8 (8 * la)).take i)) (tt) (bs [b8 ((la : Int) * 8 / 2 ^ (8 * (7 - i)))]) (ht := Try.underlying43) (he := byteElem)); (focus (intro _; exact rfl)); (focus (first | exact rfl | kernel_rfl)); (focus (intro _; exact rfl)); (focus (first | exact rfl | (rw [bs_length]; exact Hl1.out) | (simp only [bs_length, List.length_append, List.length_replicate, List.length_nil, List.length_cons] <;> omega))); (focus (first | omega | exact rfl | (rw [bs_length]; exact Hl1.out) | (simp only [bs_length, List.length_append, List.length_replicate, List.length_nil, List.length_cons] <;> omega))); (focus (first | exact rfl | kernel_rfl)); exact rfl; (focus omega); exact bs_oneCell _; (focus omega); (focus (unfold maxLen; omega)); clear hF; intro bt ct tt _ _ hct hF; have hct1 := Nat.le_of_eq hct; have hct2 := Nat.le_of_eq hct.symm; clear hct))
          rw [push_len _ _ _ hlt] at hF
          go_roundw
          case rel => exact ⟨i + 1, bt, ct, _, tt, by omega, Lib.hid (by omega), by go_num, rfl, by omega, by omega, hF⟩
          case measure => simp [intOf]; omega
        · obtain rfl : i = 8 := by omega
          have c1 : ¬ ((0 : Int) ≤ 7 - ((8 : Nat) : Int)) := by omega
          have hl8 : P ++ (len8 (8 * la)).take 8 = pad M := by
            rw [List.take_of_length_le (by rw [len8_length]; omega), HP.out, pad, hM'.out, Nat.mod_eq_of_lt (by omega)]
          rw [hl8] at hF
          obtain ⟨D, hD⟩ : ∃ D, D = pad M := ⟨_, rfl⟩
          obtain ⟨nb, hnb⟩ : ∃ nb, nb = (la + 8) / 64 + 1 := ⟨_, rfl⟩
          have hDl : D.length = 64 * nb := by rw [hD, pad_length, hM'.out, hnb]
          have hS : N' = 64 * nb := by rw [hN'.out, hN.out, hnb]; unfold padn; omega
          have hSb : N' ≤ 1099511628000 := by omega
          rw [← hD] at hF
          have hfin : outf (blocks D nb) = hash M := by rw [hD, hnb, hash, hM'.out]
          have Hfin := Lib.hid hfin
          have HS := Lib.hid hS
          have HDl := Lib.hid hDl
          clear hl8 hD hnb hDl hS hfin hlt t1 t2 t3 n1 n2 hi
          go_wp2_with (first | ((with_reducible refine wpl_alloc (dst := some 8) hF (ws (wzeros 64)) (T := 50) (hz := Try.zeroValue50) ?_ ?_); exact rfl; clear hF; intro bw _ hF))
          go_loopw [9] (fun t wr => ∃ (m : Nat) (V : List UInt32), m ≤ nb ∧ t = .int .i64 (64 * (m : Int)) ∧ Hid (V.length = 64) ∧ Fr w wr [⟨bo, bs zeros, 30⟩, ⟨bk, ws kconsts, 50⟩, ⟨b4, ws (blocks D m), 52⟩, ⟨b, bs D ++ tt, 5⟩, ⟨bw, ws V, 50⟩]) (fun t _ => N' - (intOf t).toNat)
          case atStart => exact ⟨0, wzeros 64, by omega, rfl, Lib.hid (wzeros_length _), hF⟩
          case round =>
            clear hF
            obtain ⟨m, V, hm, rfl, hV, hF⟩ := hrel
            by_cases hlt : m < nb
            · have c1 : 64 * (m : Int) < (N' : Int) := by have := HS.out; omega
              have c2 : (0 : Int) ≤ 64 * (m : Int) := by omega
              have c3 : 64 * m + 64 ≤ N' := by have := HS.out; omega
              have hsl := Lib.hid (blocks_length D m)
              obtain ⟨s, hs⟩ : ∃ s, s = blocks D m := ⟨_, rfl⟩
              rw [← hs] at hF hsl
              have Hs := Lib.hid hs
              have hDg : ∀ i, i < N' → (bs D ++ tt)[i]? = some (B (gb D i)) := fun i h => bs_get_app (by rw [HDl.out, ← HS.out]; exact h)
              have HD := Lib.hid hDg
              clear hs hDg
              go_wp2_with (first | fail)
              obtain ⟨wo, hwo⟩ : ∃ wo : World, wo = wr := ⟨_, rfl⟩
              clear hwo
              go_loopw [10] (fun t wr => ∃ (i : Nat), i ≤ 16 ∧ t = .int .i64 i ∧ Fr w wr [⟨bo, bs zeros, 30⟩, ⟨bk, ws kconsts, 50⟩, ⟨b4, ws s, 52⟩, ⟨b, bs D ++ tt, 5⟩, ⟨bw, ws (firsts D (64 * m) i ++ V.drop i), 50⟩]) (fun t _ => (16 - intOf t).toNat)
              case atStart => exact ⟨0, by omega, rfl, hF⟩
              case round =>
                clear hF
                obtain ⟨i, hi, rfl, hF⟩ := hrel
                by_cases hlt2 : i < 16
                · have d1 : (0 : Int) ≤ (i : Int) := by omega
                  have d2 : (i : Int) < 64 := by omega
                  have d3 : (i : Int) < 16 := by omega
                  have d4 : 64 * (m : Int) + 4 * (i : Int) + 4 ≤ (N' : Int) := by omega
                  have e0 : (64 * (m : Int) + 4 * (i : Int)).toNat = 64 * m + 4 * i := by omega
                  have e1 : (64 * (m : Int) + 4 * (i : Int) + 1).toNat = 64 * m + 4 * i + 1 := by omega
                  have e2 : (64 * (m : Int) + 4 * (i : Int) + 2).toNat = 64 * m + 4 * i + 2 := by omega
                  have e3 : (64 * (m : Int) + 4 * (i : Int) + 3).toNat = 64 * m + 4 * i + 3 := by omega
                  have hl : (firsts D (64 * m) i ++ V.drop i).length = 64 := by rw [List.length_append, firsts_length, List.length_drop, hV.out]; omega
                  have Hl := Lib.hid hl
                  clear hl
                  go_wp2_with (first | fail)
                  ((refine wp_region_fr_tail 31 (by kernel_rfl) (by kernel_rfl) hF ?_); clear hF; simp only [List.take_succ_cons, List.take_zero, List.drop_succ_cons, List.drop_zero])
                  repeat (first | ((with_reducible apply wq_move); (focus (simp only [Act.eval, Array.getD_eq_getD_getElem?, List.getElem?_toArray, List.getElem?_cons_succ, List.getElem?_cons_zero, Option.getD_some, List.map_toArray, List.map_cons, List.map_nil] <;> exact rfl)); simp only [Act.put, List.setIfInBounds_toArray, List.set_cons_succ, List.set_cons_zero, e0, e1, e2, e3, Nat.zero_add, Int.toNat_natCast]) | ((with_reducible apply wq_assign); (focus (simp only [Act.eval, Array.getD_eq_getD_getElem?, List.getElem?_toArray, List.getElem?_cons_succ, List.getElem?_cons_zero, Option.getD_some, List.map_toArray, List.map_cons, List.map_nil] <;> exact rfl)); simp only [Act.put, List.setIfInBounds_toArray, List.set_cons_succ, List.set_cons_zero, e0, e1, e2, e3, Nat.zero_add, Int.toNat_natCast]) | ((with_reducible apply wq_idxA (T := 50) (hu := Try.underlying50) (he := info_u32)); exact rfl; exact rfl; (focus omega); (focus omega); simp only [Act.put, List.setIfInBounds_toArray, List.set_cons_succ, List.set_cons_zero, e0, e1, e2, e3, Nat.zero_add, Int.toNat_natCast]) | ((with_reducible apply wq_idxS (T := 43) (hu := Try.underlying43) (he := info_u8_)); exact rfl; exact rfl; (focus omega); (focus omega); simp only [Act.put, List.setIfInBounds_toArray, List.set_cons_succ, List.set_cons_zero, e0, e1, e2, e3, Nat.zero_add, Int.toNat_natCast]) | ((with_reducible apply wq_loadV (T := 5) (hu := Try.underlying5)); exact rfl; (first | exact ⟨0, rfl⟩ | exact ⟨1, rfl⟩ | exact ⟨2, rfl⟩ | exact ⟨3, rfl⟩ | exact ⟨4, rfl⟩ | exact ⟨5, rfl⟩ | exact ⟨6, rfl⟩ | exact ⟨7, rfl⟩ | exact ⟨8, rfl⟩ | exact ⟨9, rfl⟩ | exact ⟨10, rfl⟩ | exact ⟨11, rfl⟩); exact HD.out _ (by omega); simp only [Act.put, List.setIfInBounds_toArray, List.set_cons_succ, List.set_cons_zero, e0, e1, e2, e3, Nat.zero_add, Int.toNat_natCast]) | ((with_reducible apply wq_addW); exact rfl; exact rfl; simp only [Act.put, List.setIfInBounds_toArray, List.set_cons_succ, List.set_cons_zero, e0, e1, e2, e3, Nat.zero_add, Int.toNat_natCast]) | ((with_reducible apply wq_xorW); exact rfl; exact rfl; simp only [Act.put, List.setIfInBounds_toArray, List.set_cons_succ, List.set_cons_zero, e0, e1, e2, e3, Nat.zero_add, Int.toNat_natCast]) | ((with_reducible apply wq_orW); exact rfl; exact rfl; simp only [Act.put, List.setIfInBounds_toArray, List.set_cons_succ, List.set_cons_zero, e0, e1, e2, e3, Nat.zero_add, Int.toNat_natCast]) | ((with_reducible apply wq_andW); exact rfl; exact rfl; simp only [Act.put, List.setIfInBounds_toArray, List.set_cons_succ, List.set_cons_zero, e0, e1, e2, e3, Nat.zero_add, Int.toNat_natCast]) | ((with_reducible apply wq_shrW); exact rfl; exact rfl; (focus omega); simp only [Act.put, List.setIfInBounds_toArray, List.set_cons_succ, List.set_cons_zero, e0, e1, e2, e3, Nat.zero_add, Int.toNat_natCast]) | ((with_reducible apply wq_shlW); exact rfl; exact rfl; (focus omega); simp only [Act.put, List.setIfInBounds_toArray, List.set_cons_succ, List.set_cons_zero, e0, e1, e2, e3, Nat.zero_add, Int.toNat_natCast]) | ((with_reducible apply wq_notW); exact rfl; simp only [Act.put, List.setIfInBounds_toArray, List.set_cons_succ, List.set_cons_zero, e0, e1, e2, e3, Nat.zero_add, Int.toNat_natCast]) | ((with_reducible apply wq_cvBW); exact rfl; exact (by rw [Try.underlying5]; rfl); exact Try.underlying49; simp only [Act.put, List.setIfInBounds_toArray, List.set_cons_succ, List.set_cons_zero, e0, e1, e2, e3, Nat.zero_add, Int.toNat_natCast]) | ((with_reducible apply wq_cvWB); exact rfl; exact (by rw [Try.underlying49]; rfl); exact Try.underlying5; simp only [Act.put, List.setIfInBounds_toArray, List.set_cons_succ, List.set_cons_zero, e0, e1, e2, e3, Nat.zero_add, Int.toNat_natCast]) | ((with_reducible apply wq_addI); exact rfl; exact rfl; (focus omega); simp only [Act.put, List.setIfInBounds_toArray, List.set_cons_succ, List.set_cons_zero, e0, e1, e2, e3, Nat.zero_add, Int.toNat_natCast]) | ((with_reducible apply wq_subI); exact rfl; exact rfl; (focus omega); simp only [Act.put, List.setIfInBounds_toArray, List.set_cons_succ, List.set_cons_zero, e0, e1, e2, e3, Nat.zero_add, Int.toNat_natCast]) | ((with_reducible apply wq_mulI); exact rfl; exact rfl; (focus omega); simp only [Act.put, List.setIfInBounds_toArray, List.set_cons_succ, List.set_cons_zero, e0, e1, e2, e3, Nat.zero_add, Int.toNat_natCast]) | ((with_reducible refine wq_unguard ?_ ?_); (focus (go_simp; done))) | ((with_reducible refine wq_skip ?_ ?_); (focus (go_simp; done)); simp only [Act.put, List.setIfInBounds_toArray, List.set_cons_succ, List.set_cons_zero]) | ((with_reducible refine wq_skip_none ?_ ?_); (focus (first | (go_simp; done) | (go_simp; exact rfl))); simp only [Act.put, List.setIfInBounds_toArray, List.set_cons_succ, List.set_cons_zero]))
                  ((refine wpQuiet_nil ?_); intro _ hF)
                  ((with_reducible apply wpl_storeW hF 4 (T := 49)); exact rfl; exact rfl; exact rfl; exact info_u32; (focus (first | omega | (rw [Hl.out]; omega))); clear hF; intro _ hF)
                  have hbe : be D (64 * m + 4 * i) = sl (up (gb D (64 * m + 4 * i))) (Int.toNat 24) ||| sl (up (gb D (64 * m + 4 * i + 1))) (Int.toNat 16) ||| sl (up (gb D (64 * m + 4 * i + 2))) (Int.toNat 8) ||| up (gb D (64 * m + 4 * i + 3)) := rfl
                  rw [← hbe, fill_set (firsts_length _ _ _) (by rw [hV.out]; omega), ← firsts_succ] at hF
                  clear hbe e0 e1 e2 e3
                  go_wp2_with (first | fail)
                  go_roundw
                  case rel => exact ⟨i + 1, by omega, by go_num, hF⟩
                  case measure => simp [intOf]; omega
                · obtain rfl : i = 16 := by omega
                  clear hlt2
                  go_wp2_with (first | fail)
                  obtain ⟨wo, hwo⟩ : ∃ wo : World, wo = wr := ⟨_, rfl⟩
                  clear hwo
                  go_loopw [12] (fun t wr => ∃ (i : Nat), i ≤ 48 ∧ t = .int .i64 ((i : Int) + 16) ∧ Fr w wr [⟨bo, bs zeros, 30⟩, ⟨bk, ws kconsts, 50⟩, ⟨b4, ws s, 52⟩, ⟨b, bs D ++ tt, 5⟩, ⟨bw, ws (more (firsts D (64 * m) 16) i ++ V.drop (16 + i)), 50⟩]) (fun t _ => (64 - intOf t).toNat)
                  case atStart => exact ⟨0, by omega, rfl, hF⟩
                  case round =>
                    clear hF
                    obtain ⟨i, hi, rfl, hF⟩ := hrel
                    by_cases hlt2 : i < 48
                    · have d1 : (0 : Int) ≤ (i : Int) + 16 := by omega
                      have d2 : (i : Int) + 16 < 64 := by omega
                      have e1 : ((i : Int) + 16 - 15).toNat = 1 + i := by omega
                      have e2 : ((i : Int) + 16 - 2).toNat = 14 + i := by omega
                      have e7 : ((i : Int) + 16 - 7).toNat = 9 + i := by omega
                      have e6 : ((i : Int) + 16 - 16).toNat = i := by omega
                      have e4 : ((i : Int) + 16).toNat = 16 + i := by omega
                      have hml : (more (firsts D (64 * m) 16) i).length = 16 + i := by rw [more_length, firsts_length]
                      obtain ⟨X, hX⟩ : ∃ X, X = more (firsts D (64 * m) 16) i ++ V.drop (16 + i) := ⟨_, rfl⟩
                      have hXl : X.length = 64 := by rw [hX, List.length_append, hml, List.length_drop, hV.out]; omega
                      rw [← hX] at hF
                      have Hml := Lib.hid hml
                      have HX := Lib.hid hX
                      have HXl := Lib.hid hXl
                      clear hml hX hXl
                      go_wp2_with (first | fail)
                      ((refine wp_region_fr (by kernel_rfl) (by kernel_rfl) hF ?_); clear hF)
                      repeat (first | ((with_reducible apply wq_move); (focus (simp only [Act.eval, Array.getD_eq_getD_getElem?, List.getElem?_toArray, List.getElem?_cons_succ, List.getElem?_cons_zero, Option.getD_some, List.map_toArray, List.map_cons, List.map_nil] <;> exact rfl)); simp only [Act.put, List.setIfInBounds_toArray, List.set_cons_succ, List.set_cons_zero, e1, e2, e7, e4, e6, Int.toNat_natCast]) | ((with_reducible apply wq_assign); (focus (simp only [Act.eval, Array.getD_eq_getD_getElem?, List.getElem?_toArray, List.getElem?_cons_succ, List.getElem?_cons_zero, Option.getD_some, List.map_toArray, List.map_cons, List.map_nil] <;> exact rfl)); simp only [Act.put, List.setIfInBounds_toArray, List.set_cons_succ, List.set_cons_zero, e1, e2, e7, e4, e6, Int.toNat_natCast]) | ((with_reducible apply wq_idxA (T := 50) (hu := Try.underlying50) (he := info_u32)); exact rfl; exact rfl; (focus omega); (focus omega); simp only [Act.put, List.setIfInBounds_toArray, List.set_cons_succ, List.set_cons_zero, e1, e2, e7, e4, e6, Int.toNat_natCast]) | ((with_reducible apply wq_loadV (T := 49) (hu := Try.underlying49)); exact rfl; (first | exact ⟨0, rfl⟩ | exact ⟨1, rfl⟩ | exact ⟨2, rfl⟩ | exact ⟨3, rfl⟩ | exact ⟨4, rfl⟩ | exact ⟨5, rfl⟩ | exact ⟨6, rfl⟩ | exact ⟨7, rfl⟩ | exact ⟨8, rfl⟩ | exact ⟨9, rfl⟩ | exact ⟨10, rfl⟩ | exact ⟨11, rfl⟩); exact (ws_get (by rw [HXl.out]; omega)); simp only [Act.put, List.setIfInBounds_toArray, List.set_cons_succ, List.set_cons_zero, e1, e2, e7, e4, e6, Int.toNat_natCast]) | ((with_reducible apply wq_addI); exact rfl; exact rfl; (focus omega); simp only [Act.put, List.setIfInBounds_toArray, List.set_cons_succ, List.set_cons_zero, e1, e2, e7, e4, e6, Int.toNat_natCast]) | ((with_reducible apply wq_subI); exact rfl; exact rfl; (focus omega); simp only [Act.put, List.setIfInBounds_toArray, List.set_cons_succ, List.set_cons_zero, e1, e2, e7, e4, e6, Int.toNat_natCast]) | ((with_reducible apply wq_mulI); exact rfl; exact rfl; (focus omega); simp only [Act.put, List.setIfInBounds_toArray, List.set_cons_succ, List.set_cons_zero, e1, e2, e7, e4, e6, Int.toNat_natCast]) | ((with_reducible refine wq_unguard ?_ ?_); (focus (go_simp; done))) | ((with_reducible refine wq_skip ?_ ?_); (focus (go_simp; done)); simp only [Act.put, List.setIfInBounds_toArray, List.set_cons_succ, List.set_cons_zero]) | ((with_reducible refine wq_skip_none ?_ ?_); (focus (first | (go_simp; done) | (go_simp; exact rfl))); simp only [Act.put, List.setIfInBounds_toArray, List.set_cons_succ, List.set_cons_zero]))
                      ((refine wpQuiet_nil ?_); intro _ hF)
                      go_wp2_with (first | fail)
                      ((refine wp_region_fr_tail 29 (by kernel_rfl) (by kernel_rfl) hF ?_); clear hF; simp only [List.take_succ_cons, List.take_zero, List.drop_succ_cons, List.drop_zero])
                      repeat (first | ((with_reducible apply wq_move); (focus (simp only [Act.eval, Array.getD_eq_getD_getElem?, List.getElem?_toArray, List.getElem?_cons_succ, List.getElem?_cons_zero, Option.getD_some, List.map_toArray, List.map_cons, List.map_nil] <;> exact rfl)); simp only [Act.put, List.setIfInBounds_toArray, List.set_cons_succ, List.set_cons_zero, e1, e2, e7, e4, e6, Int.toNat_natCast]) | ((with_reducible apply wq_assign); (focus (simp only [Act.eval, Array.getD_eq_getD_getElem?, List.getElem?_toArray, List.getElem?_cons_succ, List.getElem?_cons_zero, Option.getD_some, List.map_toArray, List.map_cons, List.map_nil] <;> exact rfl)); simp only [Act.put, List.setIfInBounds_toArray, List.set_cons_succ, List.set_cons_zero, e1, e2, e7, e4, e6, Int.toNat_natCast]) | ((with_reducible apply wq_idxA (T := 50) (hu := Try.underlying50) (he := info_u32)); exact rfl; exact rfl; (focus omega); (focus omega); simp only [Act.put, List.setIfInBounds_toArray, List.set_cons_succ, List.set_cons_zero, e1, e2, e7, e4, e6, Int.toNat_natCast]) | ((with_reducible apply wq_loadV (T := 49) (hu := Try.underlying49)); exact rfl; (first | exact ⟨0, rfl⟩ | exact ⟨1, rfl⟩ | exact ⟨2, rfl⟩ | exact ⟨3, rfl⟩ | exact ⟨4, rfl⟩ | exact ⟨5, rfl⟩ | exact ⟨6, rfl⟩ | exact ⟨7, rfl⟩ | exact ⟨8, rfl⟩ | exact ⟨9, rfl⟩ | exact ⟨10, rfl⟩ | exact ⟨11, rfl⟩); exact (ws_get (by rw [HXl.out]; omega)); simp only [Act.put, List.setIfInBounds_toArray, List.set_cons_succ, List.set_cons_zero, e1, e2, e7, e4, e6, Int.toNat_natCast]) | ((with_reducible apply wq_call (f := 36) (hc := Try.call36)); (focus (simp only [Act.eval, Array.getD_eq_getD_getElem?, List.getElem?_toArray, List.getElem?_cons_succ, List.getElem?_cons_zero, Option.getD_some, List.map_toArray, List.map_cons, List.map_nil] <;> exact rfl)); exact (fun w _ => (refRot _ _ (by omega) (by omega) _).mono (fun _ _ ⟨h1, h2⟩ => ⟨h1, h2 ▸ Below.refl _ _⟩)); simp only [Act.put, List.setIfInBounds_toArray, List.set_cons_succ, List.set_cons_zero, e1]) | ((with_reducible apply wq_addW); exact rfl; exact rfl; simp only [Act.put, List.setIfInBounds_toArray, List.set_cons_succ, List.set_cons_zero, e1, e2, e7, e4, e6, Int.toNat_natCast]) | ((with_reducible apply wq_xorW); exact rfl; exact rfl; simp only [Act.put, List.setIfInBounds_toArray, List.set_cons_succ, List.set_cons_zero, e1, e2, e7, e4, e6, Int.toNat_natCast]) | ((with_reducible apply wq_orW); exact rfl; exact rfl; simp only [Act.put, List.setIfInBounds_toArray, List.set_cons_succ, List.set_cons_zero, e1, e2, e7, e4, e6, Int.toNat_natCast]) | ((with_reducible apply wq_andW); exact rfl; exact rfl; simp only [Act.put, List.setIfInBounds_toArray, List.set_cons_succ, List.set_cons_zero, e1, e2, e7, e4, e6, Int.toNat_natCast]) | ((with_reducible apply wq_shrW); exact rfl; exact rfl; (focus omega); simp only [Act.put, List.setIfInBounds_toArray, List.set_cons_succ, List.set_cons_zero, e1, e2, e7, e4, e6, Int.toNat_natCast]) | ((with_reducible apply wq_shlW); exact rfl; exact rfl; (focus omega); simp only [Act.put, List.setIfInBounds_toArray, List.set_cons_succ, List.set_cons_zero, e1, e2, e7, e4, e6, Int.toNat_natCast]) | ((with_reducible apply wq_notW); exact rfl; simp only [Act.put, List.setIfInBounds_toArray, List.set_cons_succ, List.set_cons_zero, e1, e2, e7, e4, e6, Int.toNat_natCast]) | ((with_reducible apply wq_cvBW); exact rfl; exact (by rw [Try.underlying5]; rfl); exact Try.underlying49; simp only [Act.put, List.setIfInBounds_toArray, List.set_cons_succ, List.set_cons_zero, e1, e2, e7, e4, e6, Int.toNat_natCast]) | ((with_reducible apply wq_cvWB); exact rfl; exact (by rw [Try.underlying49]; rfl); exact Try.underlying5; simp only [Act.put, List.setIfInBounds_toArray, List.set_cons_succ, List.set_cons_zero, e1, e2, e7, e4, e6, Int.toNat_natCast]) | ((with_reducible apply wq_addI); exact rfl; exact rfl; (focus omega); simp only [Act.put, List.setIfInBounds_toArray, List.set_cons_succ, List.set_cons_zero, e1, e2, e7, e4, e6, Int.toNat_natCast]) | ((with_reducible apply wq_subI); exact rfl; exact rfl; (focus omega); simp only [Act.put, List.setIfInBounds_toArray, List.set_cons_succ, List.set_cons_zero, e1, e2, e7, e4, e6, Int.toNat_natCast]) | ((with_reducible apply wq_mulI); exact rfl; exact rfl; (focus omega); simp only [Act.put, List.setIfInBounds_toArray, List.set_cons_succ, List.set_cons_zero, e1, e2, e7, e4, e6, Int.toNat_natCast]) | ((with_reducible refine wq_unguard ?_ ?_); (focus (go_simp; done))) | ((with_reducible refine wq_skip ?_ ?_); (focus (go_simp; done)); simp only [Act.put, List.setIfInBounds_toArray, List.set_cons_succ, List.set_cons_zero]) | ((with_reducible refine wq_skip_none ?_ ?_); (focus (first | (go_simp; done) | (go_simp; exact rfl))); simp only [Act.put, List.setIfInBounds_toArray, List.set_cons_succ, List.set_cons_zero]))
                      ((refine wpQuiet_nil ?_); intro _ hF)
                      ((with_reducible apply wpl_storeW hF 4 (T := 49)); exact rfl; exact rfl; exact rfl; exact info_u32; (focus (first | omega | (rw [HXl.out]; omega))); clear hF; intro _ hF)
                      have hF2 : Fr w _ [⟨bo, bs zeros, 30⟩, ⟨bk, ws kconsts, 50⟩, ⟨b4, ws s, 52⟩, ⟨b, bs D ++ tt, 5⟩, ⟨bw, ws (X.set (16 + i) (ssig1 (gw X (14 + i)) + gw X (9 + i) + ssig0 (gw X (1 + i)) + gw X i)), 50⟩] := hF
                      clear hF
                      have g0 : ∀ k, k < 16 + i → gw X k = gw (more (firsts D (64 * m) 16) i) k := fun k hk => by rw [HX.out]; exact gw_front (by rw [Hml.out]; exact hk)
                      rw [g0 _ (by omega), g0 _ (by omega), g0 _ (by omega), g0 _ (by omega), HX.out, fill_set Hml.out (by rw [hV.out]; omega)] at hF2
                      clear g0 e1 e2 e7 e6 e4
                      go_wp2_with (first | fail)
                      go_roundw
                      case rel => exact ⟨i + 1, by omega, by go_num, hF2⟩
                      case measure => simp [intOf]; omega
                    · obtain rfl : i = 48 := by omega
                      clear hlt2
                      have hsch : more (firsts D (64 * m) 16) 48 ++ V.drop (16 + 48) = sched D (64 * m) := by
                        rw [List.drop_eq_nil_of_le (by rw [hV.out]; omega), List.append_nil]
                        rfl
                      rw [hsch] at hF
                      have hscl := sched_length D (64 * m)
                      obtain ⟨sc, hsc⟩ : ∃ sc, sc = sched D (64 * m) := ⟨_, rfl⟩
                      rw [← hsc] at hF hscl
                      have Hsc := Lib.hid hsc
                      have Hscl := Lib.hid hscl
                      clear hsch hsc hscl
                      go_wp2_with (first | ((with_reducible apply wpl_load hF (T := 52) (hu := Try.underlying52)); exact rfl; (first | exact ⟨0, rfl⟩ | exact ⟨1, rfl⟩ | exact ⟨2, rfl⟩ | exact ⟨3, rfl⟩ | exact ⟨4, rfl⟩ | exact ⟨5, rfl⟩ | exact ⟨6, rfl⟩ | exact ⟨7, rfl⟩ | exact ⟨8, rfl⟩ | exact ⟨9, rfl⟩ | exact ⟨10, rfl⟩ | exact ⟨11, rfl⟩); exact info_w8' hsl.out) | ((with_reducible refine wpl_alloc (dst := some 15) hF (ws (wzeros 8)) (T := 52) (hz := Try.zeroValue52) ?_ ?_); exact rfl; clear hF; intro ba _ hF) | ((with_reducible apply wpl_store hF 5 (T := 52) (cs' := ws s)); exact rfl; (focus (first | exact rfl | kernel_rfl)); exact rfl; exact info_w8' hsl.out; (focus (simp only [ws_length, List.length_set, wzeros_length, step_length] <;> (first | omega | (rw [hsl.out]; done) | (rw [hvl.out]; done) | (rw [hsl.out]; rfl) | (rw [hvl.out]; rfl) | rfl))); exact ws_oneCell _; clear hF; intro _ hF))
                      obtain ⟨wo, hwo⟩ : ∃ wo : World, wo = wr := ⟨_, rfl⟩
                      clear hwo
                      go_loopw [16] (fun t wr => ∃ (i : Nat) (v : List UInt32), i ≤ 64 ∧ t = .int .i64 i ∧ Hid (v.length = 8) ∧ Hid (v = rounds sc s i) ∧ Fr w wr [⟨bo, bs zeros, 30⟩, ⟨bk, ws kconsts, 50⟩, ⟨b4, ws s, 52⟩, ⟨b, bs D ++ tt, 5⟩, ⟨bw, ws sc, 50⟩, ⟨ba, ws v, 52⟩]) (fun t _ => (64 - intOf t).toNat)
                      case atStart => exact ⟨0, s, by omega, rfl, hsl, Lib.hid rfl, hF⟩
                      case round =>
                        clear hF
                        obtain ⟨i, v, hi, rfl, hvl, hve, hF⟩ := hrel
                        by_cases hlt2 : i < 64
                        · have d1 : (0 : Int) ≤ (i : Int) := by omega
                          have d2 : (i : Int) < 64 := by omega
                          go_wp2_with (first | ((with_reducible apply wpl_idxA (T := 52) (hu := Try.underlying52) (he := info_u32)); exact rfl; exact rfl; (focus omega); (focus omega)) | ((with_reducible apply wpl_loadV hF (T := 49) (hu := Try.underlying49)); exact rfl; (first | exact ⟨0, rfl⟩ | exact ⟨1, rfl⟩ | exact ⟨2, rfl⟩ | exact ⟨3, rfl⟩ | exact ⟨4, rfl⟩ | exact ⟨5, rfl⟩ | exact ⟨6, rfl⟩ | exact ⟨7, rfl⟩ | exact ⟨8, rfl⟩ | exact ⟨9, rfl⟩ | exact ⟨10, rfl⟩ | exact ⟨11, rfl⟩); exact (ws_get (by rw [hvl.out]; decide))))
                          ((refine wp_region_fr (by kernel_rfl) (by kernel_rfl) hF ?_); clear hF)
                          repeat (first | ((with_reducible apply wq_assign (dst := some 18) (v := W (stepP v (gw kconsts i) (gw sc i)))); (focus (exact rfl)); simp only [Act.put, List.setIfInBounds_toArray, List.set_cons_succ, List.set_cons_zero, Int.toNat_natCast]) | (first | ((with_reducible apply wq_move); (focus (simp only [Act.eval, Array.getD_eq_getD_getElem?, List.getElem?_toArray, List.getElem?_cons_succ, List.getElem?_cons_zero, Option.getD_some, List.map_toArray, List.map_cons, List.map_nil] <;> exact rfl)); simp only [Act.put, List.setIfInBounds_toArray, List.set_cons_succ, List.set_cons_zero, Int.toNat_natCast]) | ((with_reducible apply wq_assign); (focus (simp only [Act.eval, Array.getD_eq_getD_getElem?, List.getElem?_toArray, List.getElem?_cons_succ, List.getElem?_cons_zero, Option.getD_some, List.map_toArray, List.map_cons, List.map_nil] <;> exact rfl)); simp only [Act.put, List.setIfInBounds_toArray, List.set_cons_succ, List.set_cons_zero, Int.toNat_natCast]) | ((with_reducible apply wq_idxA (T := 52) (hu := Try.underlying52) (he := info_u32)); exact rfl; exact rfl; (focus omega); (focus omega); simp only [Act.put, List.setIfInBounds_toArray, List.set_cons_succ, List.set_cons_zero, Int.toNat_natCast]) | ((with_reducible apply wq_idxA (T := 50) (hu := Try.underlying50) (he := info_u32)); exact rfl; exact rfl; (focus omega); (focus omega); simp only [Act.put, List.setIfInBounds_toArray, List.set_cons_succ, List.set_cons_zero, Int.toNat_natCast]) | ((with_reducible apply wq_loadV (T := 49) (hu := Try.underlying49)); exact rfl; (first | exact ⟨0, rfl⟩ | exact ⟨1, rfl⟩ | exact ⟨2, rfl⟩ | exact ⟨3, rfl⟩ | exact ⟨4, rfl⟩ | exact ⟨5, rfl⟩ | exact ⟨6, rfl⟩ | exact ⟨7, rfl⟩ | exact ⟨8, rfl⟩ | exact ⟨9, rfl⟩ | exact ⟨10, rfl⟩ | exact ⟨11, rfl⟩); exact (ws_get (by rw [hvl.out]; decide)); simp only [Act.put, List.setIfInBounds_toArray, List.set_cons_succ, List.set_cons_zero, Int.toNat_natCast]) | ((with_reducible apply wq_loadV (T := 49) (hu := Try.underlying49)); exact rfl; (first | exact ⟨0, rfl⟩ | exact ⟨1, rfl⟩ | exact ⟨2, rfl⟩ | exact ⟨3, rfl⟩ | exact ⟨4, rfl⟩ | exact ⟨5, rfl⟩ | exact ⟨6, rfl⟩ | exact ⟨7, rfl⟩ | exact ⟨8, rfl⟩ | exact ⟨9, rfl⟩ | exact ⟨10, rfl⟩ | exact ⟨11, rfl⟩); exact (ws_get (by rw [kconsts_length]; omega)); simp only [Act.put, List.setIfInBounds_toArray, List.set_cons_succ, List.set_cons_zero, Int.toNat_natCast]) | ((with_reducible apply wq_loadV (T := 49) (hu := Try.underlying49)); exact rfl; (first | exact ⟨0, rfl⟩ | exact ⟨1, rfl⟩ | exact ⟨2, rfl⟩ | exact ⟨3, rfl⟩ | exact ⟨4, rfl⟩ | exact ⟨5, rfl⟩ | exact ⟨6, rfl⟩ | exact ⟨7, rfl⟩ | exact ⟨8, rfl⟩ | exact ⟨9, rfl⟩ | exact ⟨10, rfl⟩ | exact ⟨11, rfl⟩); exact (ws_get (by rw [Hscl.out]; omega)); simp only [Act.put, List.setIfInBounds_toArray, List.set_cons_succ, List.set_cons_zero, Int.toNat_natCast]) | ((with_reducible apply wq_call (f := 36) (hc := Try.call36)); (focus (simp only [Act.eval, Array.getD_eq_getD_getElem?, List.getElem?_toArray, List.getElem?_cons_succ, List.getElem?_cons_zero, Option.getD_some, List.map_toArray, List.map_cons, List.map_nil] <;> exact rfl)); exact (fun w _ => (refRot _ _ (by omega) (by omega) _).mono (fun _ _ ⟨h1, h2⟩ => ⟨h1, h2 ▸ Below.refl _ _⟩)); simp only [Act.put, List.setIfInBounds_toArray, List.set_cons_succ, List.set_cons_zero, Int.toNat_natCast]) | ((with_reducible apply wq_addW); exact rfl; exact rfl; simp only [Act.put, List.setIfInBounds_toArray, List.set_cons_succ, List.set_cons_zero, Int.toNat_natCast]) | ((with_reducible apply wq_xorW); exact rfl; exact rfl; simp only [Act.put, List.setIfInBounds_toArray, List.set_cons_succ, List.set_cons_zero, Int.toNat_natCast]) | ((with_reducible apply wq_orW); exact rfl; exact rfl; simp only [Act.put, List.setIfInBounds_toArray, List.set_cons_succ, List.set_cons_zero, Int.toNat_natCast]) | ((with_reducible apply wq_andW); exact rfl; exact rfl; simp only [Act.put, List.setIfInBounds_toArray, List.set_cons_succ, List.set_cons_zero, Int.toNat_natCast]) | ((with_reducible apply wq_shrW); exact rfl; exact rfl; (focus omega); simp only [Act.put, List.setIfInBounds_toArray, List.set_cons_succ, List.set_cons_zero, Int.toNat_natCast]) | ((with_reducible apply wq_shlW); exact rfl; exact rfl; (focus omega); simp only [Act.put, List.setIfInBounds_toArray, List.set_cons_succ, List.set_cons_zero, Int.toNat_natCast]) | ((with_reducible apply wq_notW); exact rfl; simp only [Act.put, List.setIfInBounds_toArray, List.set_cons_succ, List.set_cons_zero, Int.toNat_natCast]) | ((with_reducible apply wq_cvBW); exact rfl; exact (by rw [Try.underlying5]; rfl); exact Try.underlying49; simp only [Act.put, List.setIfInBounds_toArray, List.set_cons_succ, List.set_cons_zero, Int.toNat_natCast]) | ((with_reducible apply wq_cvWB); exact rfl; exact (by rw [Try.underlying49]; rfl); exact Try.underlying5; simp only [Act.put, List.setIfInBounds_toArray, List.set_cons_succ, List.set_cons_zero, Int.toNat_natCast]) | ((with_reducible apply wq_addI); exact rfl; exact rfl; (focus omega); simp only [Act.put, List.setIfInBounds_toArray, List.set_cons_succ, List.set_cons_zero, Int.toNat_natCast]) | ((with_reducible apply wq_subI); exact rfl; exact rfl; (focus omega); simp only [Act.put, List.setIfInBounds_toArray, List.set_cons_succ, List.set_cons_zero, Int.toNat_natCast]) | ((with_reducible apply wq_mulI); exact rfl; exact rfl; (focus omega); simp only [Act.put, List.setIfInBounds_toArray, List.set_cons_succ, List.set_cons_zero, Int.toNat_natCast]) | ((with_reducible refine wq_unguard ?_ ?_); (focus (go_simp; done))) | ((with_reducible refine wq_skip ?_ ?_); (focus (go_simp; done)); simp only [Act.put, List.setIfInBounds_toArray, List.set_cons_succ, List.set_cons_zero]) | ((with_reducible refine wq_skip_none ?_ ?_); (focus (first | (go_simp; done) | (go_simp; exact rfl))); simp only [Act.put, List.setIfInBounds_toArray, List.set_cons_succ, List.set_cons_zero])))
                          ((refine wq_end [148, 149, 150, 151, 152, 153, 154, 155, 156, 157, 158, 159, 160, 161, 162, 163, 164, 165, 166, 167, 168, 169, 170, 171, 172, 173, 174, 175, 176, 177] ?_); intro f; simp only [forgetAct, List.foldl_cons, List.foldl_nil, Act.put, List.setIfInBounds_toArray, List.set_cons_succ, List.set_cons_zero]; intro _ hF)
                          go_wp2_with (first | fail)
                          ((refine wp_region_fr (by kernel_rfl) (by kernel_rfl) hF ?_); clear hF)
                          repeat (first | ((with_reducible apply wq_assign (dst := some 19) (v := W (stepQ v))); (focus (exact rfl)); simp only [Act.put, List.setIfInBounds_toArray, List.set_cons_succ, List.set_cons_zero, Int.toNat_natCast]) | (first | ((with_reducible apply wq_move); (focus (simp only [Act.eval, Array.getD_eq_getD_getElem?, List.getElem?_toArray, List.getElem?_cons_succ, List.getElem?_cons_zero, Option.getD_some, List.map_toArray, List.map_cons, List.map_nil] <;> exact rfl)); simp only [Act.put, List.setIfInBounds_toArray, List.set_cons_succ, List.set_cons_zero, Int.toNat_natCast]) | ((with_reducible apply wq_assign); (focus (simp only [Act.eval, Array.getD_eq_getD_getElem?, List.getElem?_toArray, List.getElem?_cons_succ, List.getElem?_cons_zero, Option.getD_some, List.map_toArray, List.map_cons, List.map_nil] <;> exact rfl)); simp only [Act.put, List.setIfInBounds_toArray, List.set_cons_succ, List.set_cons_zero, Int.toNat_natCast]) | ((with_reducible apply wq_idxA (T := 52) (hu := Try.underlying52) (he := info_u32)); exact rfl; exact rfl; (focus omega); (focus omega); simp only [Act.put, List.setIfInBounds_toArray, List.set_cons_succ, List.set_cons_zero, Int.toNat_natCast]) | ((with_reducible apply wq_loadV (T := 49) (hu := Try.underlying49)); exact rfl; (first | exact ⟨0, rfl⟩ | exact ⟨1, rfl⟩ | exact ⟨2, rfl⟩ | exact ⟨3, rfl⟩ | exact ⟨4, rfl⟩ | exact ⟨5, rfl⟩ | exact ⟨6, rfl⟩ | exact ⟨7, rfl⟩ | exact ⟨8, rfl⟩ | exact ⟨9, rfl⟩ | exact ⟨10, rfl⟩ | exact ⟨11, rfl⟩); exact (ws_get (by rw [hvl.out]; decide)); simp only [Act.put, List.setIfInBounds_toArray, List.set_cons_succ, List.set_cons_zero, Int.toNat_natCast]) | ((with_reducible apply wq_call (f := 36) (hc := Try.call36)); (focus (simp only [Act.eval, Array.getD_eq_getD_getElem?, List.getElem?_toArray, List.getElem?_cons_succ, List.getElem?_cons_zero, Option.getD_some, List.map_toArray, List.map_cons, List.map_nil] <;> exact rfl)); exact (fun w _ => (refRot _ _ (by omega) (by omega) _).mono (fun _ _ ⟨h1, h2⟩ => ⟨h1, h2 ▸ Below.refl _ _⟩)); simp only [Act.put, List.setIfInBounds_toArray, List.set_cons_succ, List.set_cons_zero, Int.toNat_natCast]) | ((with_reducible apply wq_addW); exact rfl; exact rfl; simp only [Act.put, List.setIfInBounds_toArray, List.set_cons_succ, List.set_cons_zero, Int.toNat_natCast]) | ((with_reducible apply wq_xorW); exact rfl; exact rfl; simp only [Act.put, List.setIfInBounds_toArray, List.set_cons_succ, List.set_cons_zero, Int.toNat_natCast]) | ((with_reducible apply wq_orW); exact rfl; exact rfl; simp only [Act.put, List.setIfInBounds_toArray, List.set_cons_succ, List.set_cons_zero, Int.toNat_natCast]) | ((with_reducible apply wq_andW); exact rfl; exact rfl; simp only [Act.put, List.setIfInBounds_toArray, List.set_cons_succ, List.set_cons_zero, Int.toNat_natCast]) | ((with_reducible apply wq_shrW); exact rfl; exact rfl; (focus omega); simp only [Act.put, List.setIfInBounds_toArray, List.set_cons_succ, List.set_cons_zero, Int.toNat_natCast]) | ((with_reducible apply wq_shlW); exact rfl; exact rfl; (focus omega); simp only [Act.put, List.setIfInBounds_toArray, List.set_cons_succ, List.set_cons_zero, Int.toNat_natCast]) | ((with_reducible apply wq_notW); exact rfl; simp only [Act.put, List.setIfInBounds_toArray, List.set_cons_succ, List.set_cons_zero, Int.toNat_natCast]) | ((with_reducible apply wq_cvBW); exact rfl; exact (by rw [Try.underlying5]; rfl); exact Try.underlying49; simp only [Act.put, List.setIfInBounds_toArray, List.set_cons_succ, List.set_cons_zero, Int.toNat_natCast]) | ((with_reducible apply wq_cvWB); exact rfl; exact (by rw [Try.underlying49]; rfl); exact Try.underlying5; simp only [Act.put, List.setIfInBounds_toArray, List.set_cons_succ, List.set_cons_zero, Int.toNat_natCast]) | ((with_reducible apply wq_addI); exact rfl; exact rfl; (focus omega); simp only [Act.put, List.setIfInBounds_toArray, List.set_cons_succ, List.set_cons_zero, Int.toNat_natCast]) | ((with_reducible apply wq_subI); exact rfl; exact rfl; (focus omega); simp only [Act.put, List.setIfInBounds_toArray, List.set_cons_succ, List.set_cons_zero, Int.toNat_natCast]) | ((with_reducible apply wq_mulI); exact rfl; exact rfl; (focus omega); simp only [Act.put, List.setIfInBounds_toArray, List.set_cons_succ, List.set_cons_zero, Int.toNat_natCast]) | ((with_reducible refine wq_unguard ?_ ?_); (focus (go_simp; done))) | ((with_reducible refine wq_skip ?_ ?_); (focus (go_simp; done)); simp only [Act.put, List.setIfInBounds_toArray, List.set_cons_succ, List.set_cons_zero]) | ((with_reducible refine wq_skip_none ?_ ?_); (focus (first | (go_simp; done) | (go_simp; exact rfl))); simp only [Act.put, List.setIfInBounds_toArray, List.set_cons_succ, List.set_cons_zero])))
                          ((refine wq_end [178, 179, 180, 181, 182, 183, 184, 185, 186, 187, 188, 189, 190, 191, 192, 193, 194, 195, 196, 197, 198, 199, 200, 201, 202, 203, 204, 205, 206] ?_); intro f; simp only [forgetAct, List.foldl_cons, List.foldl_nil, Act.put, List.setIfInBounds_toArray, List.set_cons_succ, List.set_cons_zero]; intro _ hF)
                          go_wp2_with (first | (((with_reducible apply wpl_idxA (T := 52) (hu := Try.underlying52) (he := info_u32)); exact rfl; exact rfl; (focus omega); (focus omega)); simp only [Act.put, List.setIfInBounds_toArray, List.set_cons_succ, List.set_cons_zero]) | (((with_reducible apply wpl_loadV hF (T := 49) (hu := Try.underlying49)); exact rfl; (first | exact ⟨0, rfl⟩ | exact ⟨1, rfl⟩ | exact ⟨2, rfl⟩ | exact ⟨3, rfl⟩ | exact ⟨4, rfl⟩ | exact ⟨5, rfl⟩ | exact ⟨6, rfl⟩ | exact ⟨7, rfl⟩ | exact ⟨8, rfl⟩ | exact ⟨9, rfl⟩ | exact ⟨10, rfl⟩ | exact ⟨11, rfl⟩); exact (ws_get (by rw [hvl.out]; decide))); simp only [Act.put, List.setIfInBounds_toArray, List.set_cons_succ, List.set_cons_zero]) | (((with_reducible refine wpl_build (aggw [stepP v (gw kconsts i) (gw sc i) + stepQ v, gw v 0, gw v 1, gw v 2, gw v 3 + stepP v (gw kconsts i) (gw sc i), gw v 4, gw v 5, gw v 6]) ?_ ?_); (focus (intro w; kernel_rfl))); simp only [Act.put, List.setIfInBounds_toArray, List.set_cons_succ, List.set_cons_zero]) | ((with_reducible apply wpl_store hF 5 (T := 52) (cs' := ws [stepP v (gw kconsts i) (gw sc i) + stepQ v, gw v 0, gw v 1, gw v 2, gw v 3 + stepP v (gw kconsts i) (gw sc i), gw v 4, gw v 5, gw v 6])); exact rfl; (focus (first | exact rfl | kernel_rfl)); exact rfl; exact info_w8' rfl; (focus (simp only [ws_length, List.length_set, wzeros_length, step_length] <;> (first | omega | (rw [hsl.out]; done) | (rw [hvl.out]; done) | (rw [hsl.out]; rfl) | (rw [hvl.out]; rfl) | rfl))); exact ws_oneCell _; clear hF; intro _ hF))
                          rw [step_eq] at hF
                          go_roundw
                          case rel => exact ⟨i + 1, step v (gw kconsts i) (gw sc i), by omega, by go_num, Lib.hid (step_length _ _ _), Lib.hid (by rw [rounds, ← hve.out]), hF⟩
                          case measure => simp [intOf]; omega
                        · obtain rfl : i = 64 := by omega
                          clear hlt2
                          go_wp2_with (first | fail)
                          rw [← addn_zero s v] at hF
                          obtain ⟨wo, hwo⟩ : ∃ wo : World, wo = wr := ⟨_, rfl⟩
                          clear hwo
                          have hF1 : Fr w _ [⟨bo, bs zeros, 30⟩, ⟨bk, ws kconsts, 50⟩, ⟨b4, ws (addn s v 0), 52⟩, ⟨b, bs D ++ tt, 5⟩, ⟨bw, ws sc, 50⟩, ⟨ba, ws v, 52⟩] := hF
                          clear hF
                          go_loopw [20] (fun t wr => ∃ (i : Nat), i ≤ 8 ∧ t = .int .i64 i ∧ Fr w wr [⟨bo, bs zeros, 30⟩, ⟨bk, ws kconsts, 50⟩, ⟨b4, ws (addn s v i), 52⟩, ⟨b, bs D ++ tt, 5⟩, ⟨bw, ws sc, 50⟩, ⟨ba, ws v, 52⟩]) (fun t _ => (8 - intOf t).toNat)
                          case atStart => exact ⟨0, by omega, rfl, hF1⟩
                          case round =>
                            clear hF1
                            obtain ⟨i, hi, rfl, hF⟩ := hrel
                            by_cases hlt2 : i < 8
                            · have d1 : (0 : Int) ≤ (i : Int) := by omega
                              have d2 : (i : Int) < 8 := by omega
                              have Hal := Lib.hid (addn_length s v hsl.out i (by omega))
                              go_wp2_with (first | fail)
                              ((refine wp_region_fr_tail 8 (by kernel_rfl) (by kernel_rfl) hF ?_); clear hF; simp only [List.take_succ_cons, List.take_zero, List.drop_succ_cons, List.drop_zero])
                              repeat (first | ((with_reducible apply wq_move); (focus (simp only [Act.eval, Array.getD_eq_getD_getElem?, List.getElem?_toArray, List.getElem?_cons_succ, List.getElem?_cons_zero, Option.getD_some, List.map_toArray, List.map_cons, List.map_nil] <;> exact rfl)); simp only [Act.put, List.setIfInBounds_toArray, List.set_cons_succ, List.set_cons_zero, Int.toNat_natCast]) | ((with_reducible apply wq_assign); (focus (simp only [Act.eval, Array.getD_eq_getD_getElem?, List.getElem?_toArray, List.getElem?_cons_succ, List.getElem?_cons_zero, Option.getD_some, List.map_toArray, List.map_cons, List.map_nil] <;> exact rfl)); simp only [Act.put, List.setIfInBounds_toArray, List.set_cons_succ, List.set_cons_zero, Int.toNat_natCast]) | ((with_reducible apply wq_idxA (T := 52) (hu := Try.underlying52) (he := info_u32)); exact rfl; exact rfl; (focus omega); (focus omega); simp only [Act.put, List.setIfInBounds_toArray, List.set_cons_succ, List.set_cons_zero, Int.toNat_natCast]) | ((with_reducible apply wq_loadV (T := 49) (hu := Try.underlying49)); exact rfl; (first | exact ⟨0, rfl⟩ | exact ⟨1, rfl⟩ | exact ⟨2, rfl⟩ | exact ⟨3, rfl⟩ | exact ⟨4, rfl⟩ | exact ⟨5, rfl⟩ | exact ⟨6, rfl⟩ | exact ⟨7, rfl⟩ | exact ⟨8, rfl⟩ | exact ⟨9, rfl⟩ | exact ⟨10, rfl⟩ | exact ⟨11, rfl⟩); exact (ws_get (by rw [hvl.out]; omega)); simp only [Act.put, List.setIfInBounds_toArray, List.set_cons_succ, List.set_cons_zero, Int.toNat_natCast]) | ((with_reducible apply wq_loadV (T := 49) (hu := Try.underlying49)); exact rfl; (first | exact ⟨0, rfl⟩ | exact ⟨1, rfl⟩ | exact ⟨2, rfl⟩ | exact ⟨3, rfl⟩ | exact ⟨4, rfl⟩ | exact ⟨5, rfl⟩ | exact ⟨6, rfl⟩ | exact ⟨7, rfl⟩ | exact ⟨8, rfl⟩ | exact ⟨9, rfl⟩ | exact ⟨10, rfl⟩ | exact ⟨11, rfl⟩); exact (ws_get (by rw [Hal.out]; omega)); simp only [Act.put, List.setIfInBounds_toArray, List.set_cons_succ, List.set_cons_zero, Int.toNat_natCast]) | ((with_reducible apply wq_addW); exact rfl; exact rfl; simp only [Act.put, List.setIfInBounds_toArray, List.set_cons_succ, List.set_cons_zero, Int.toNat_natCast]) | ((with_reducible apply wq_xorW); exact rfl; exact rfl; simp only [Act.put, List.setIfInBounds_toArray, List.set_cons_succ, List.set_cons_zero, Int.toNat_natCast]) | ((with_reducible apply wq_orW); exact rfl; exact rfl; simp only [Act.put, List.setIfInBounds_toArray, List.set_cons_succ, List.set_cons_zero, Int.toNat_natCast]) | ((with_reducible apply wq_andW); exact rfl; exact rfl; simp only [Act.put, List.setIfInBounds_toArray, List.set_cons_succ, List.set_cons_zero, Int.toNat_natCast]) | ((with_reducible apply wq_shrW); exact rfl; exact rfl; (focus omega); simp only [Act.put, List.setIfInBounds_toArray, List.set_cons_succ, List.set_cons_zero, Int.toNat_natCast]) | ((with_reducible apply wq_shlW); exact rfl; exact rfl; (focus omega); simp only [Act.put, List.setIfInBounds_toArray, List.set_cons_succ, List.set_cons_zero, Int.toNat_natCast]) | ((with_reducible apply wq_notW); exact rfl; simp only [Act.put, List.setIfInBounds_toArray, List.set_cons_succ, List.set_cons_zero, Int.toNat_natCast]) | ((with_reducible apply wq_cvBW); exact rfl; exact (by rw [Try.underlying5]; rfl); exact Try.underlying49; simp only [Act.put, List.setIfInBounds_toArray, List.set_cons_succ, List.set_cons_zero, Int.toNat_natCast]) | ((with_reducible apply wq_cvWB); exact rfl; exact (by rw [Try.underlying49]; rfl); exact Try.underlying5; simp only [Act.put, List.setIfInBounds_toArray, List.set_cons_succ, List.set_cons_zero, Int.toNat_natCast]) | ((with_reducible apply wq_addI); exact rfl; exact rfl; (focus omega); simp only [Act.put, List.setIfInBounds_toArray, List.set_cons_succ, List.set_cons_zero, Int.toNat_natCast]) | ((with_reducible apply wq_subI); exact rfl; exact rfl; (focus omega); simp only [Act.put, List.setIfInBounds_toArray, List.set_cons_succ, List.set_cons_zero, Int.toNat_natCast]) | ((with_reducible apply wq_mulI); exact rfl; exact rfl; (focus omega); simp only [Act.put, List.setIfInBounds_toArray, List.set_cons_succ, List.set_cons_zero, Int.toNat_natCast]) | ((with_reducible refine wq_unguard ?_ ?_); (focus (go_simp; done))) | ((with_reducible refine wq_skip ?_ ?_); (focus (go_simp; done)); simp only [Act.put, List.setIfInBounds_toArray, List.set_cons_succ, List.set_cons_zero]) | ((with_reducible refine wq_skip_none ?_ ?_); (focus (first | (go_simp; done) | (go_simp; exact rfl))); simp only [Act.put, List.setIfInBounds_toArray, List.set_cons_succ, List.set_cons_zero]))
                              ((refine wpQuiet_nil ?_); intro _ hF)
                              ((with_reducible apply wpl_storeW hF 2 (T := 49)); exact rfl; exact rfl; exact rfl; exact info_u32; (focus (first | omega | (rw [Hal.out]; omega))); clear hF; intro _ hF)
                              rw [gw_addn s v hsl.out i hlt2, addn_succ s v hsl.out i hlt2] at hF
                              go_wp2_with (first | fail)
                              go_roundw
                              case rel => exact ⟨i + 1, by omega, by go_num, hF⟩
                              case measure => simp [intOf]; omega
                            · obtain rfl : i = 8 := by omega
                              clear hlt2
                              have hnext : addn s v 8 = blocks D (m + 1) := by
                                rw [addn_all s v hsl.out, hve.out, Hsc.out, Hs.out]
                                rfl
                              rw [hnext] at hF
                              clear hnext
                              replace hF := hF.sub (L' := [⟨bo, bs zeros, 30⟩, ⟨bk, ws kconsts, 50⟩, ⟨b4, ws (blocks D (m + 1)), 52⟩, ⟨b, bs D ++ tt, 5⟩, ⟨bw, ws sc, 50⟩]) (List.sublist_append_left [_, _, _, _, _] [_])
                              go_wp2_with (first | fail)
                              go_roundw
                              case rel => exact ⟨m + 1, sc, by omega, by go_num, Hscl, hF⟩
                              case measure => simp [intOf]; omega
            · obtain rfl : m = nb := by omega
              have c1 : ¬ (64 * (m : Int) < (N' : Int)) := by have := HS.out; omega
              clear hlt
              have hbl := blocks_length D m
              obtain ⟨sf, hsf⟩ : ∃ sf, sf = blocks D m := ⟨_, rfl⟩
              rw [← hsf] at hF hbl
              have hfin := Hfin.out
              rw [← hsf] at hfin
              have Hf2 := Lib.hid hfin
              have Hbl := Lib.hid hbl
              clear hsf hfin hbl
              go_wp2_with (first | ((with_reducible refine wpl_alloc (dst := some 21) hF (bs zeros) (T := 30) (hz := Try.zeroValue30) ?_ ?_); exact rfl; clear hF; intro bx _ hF))
              have hF' : Fr w _ [⟨bo, bs zeros, 30⟩, ⟨bk, ws kconsts, 50⟩, ⟨b4, ws sf, 52⟩, ⟨b, bs D ++ tt, 5⟩, ⟨bw, ws V, 50⟩, ⟨bx, bs (outs sf (4 * 0)), 30⟩] := hF
              clear hF
              go_loopw [22] (fun t wr => ∃ i : Nat, i ≤ 8 ∧ t = .int .i64 i ∧ Fr w wr [⟨bo, bs zeros, 30⟩, ⟨bk, ws kconsts, 50⟩, ⟨b4, ws sf, 52⟩, ⟨b, bs D ++ tt, 5⟩, ⟨bw, ws V, 50⟩, ⟨bx, bs (outs sf (4 * i)), 30⟩]) (fun t _ => (8 - intOf t).toNat)
              case atStart => exact ⟨0, by omega, rfl, hF'⟩
              case round =>
                clear hF'
                obtain ⟨i, hi, rfl, hF⟩ := hrel
                by_cases hlt : i < 8
                · have d1 : (0 : Int) ≤ (i : Int) := by omega
                  have d2 : (i : Int) < 8 := by omega
                  have e0 : (4 * (i : Int)).toNat = 4 * i := by omega
                  have e1 : (4 * (i : Int) + 1).toNat = 4 * i + 1 := by omega
                  have e2 : (4 * (i : Int) + 2).toNat = 4 * i + 2 := by omega
                  have e3 : (4 * (i : Int) + 3).toNat = 4 * i + 3 := by omega
                  have ol := outs_length sf (4 * i) (by omega)
                  have os0 := outs_succ sf (4 * i + 0) (by omega)
                  have os1 := outs_succ sf (4 * i + 1) (by omega)
                  have os2 := outs_succ sf (4 * i + 2) (by omega)
                  have os3 := outs_succ sf (4 * i + 3) (by omega)
                  rw [outb_at sf i 0 (by omega)] at os0
                  rw [outb_at sf i 1 (by omega)] at os1
                  rw [outb_at sf i 2 (by omega)] at os2
                  rw [outb_at sf i 3 (by omega), show 24 - 8 * 3 = 0 from rfl, sr_zero] at os3
                  have Hos := Lib.hid (And.intro os0 (And.intro os1 (And.intro os2 os3)))
                  clear os0 os1 os2 os3
                  go_wp2_with (first | fail)
                  have hFd := hF.drew
                  have hFs := hFd.sub (L' := [⟨bo, bs zeros, 30⟩, ⟨bk, ws kconsts, 50⟩, ⟨b4, ws sf, 52⟩, ⟨b, bs D ++ tt, 5⟩, ⟨bw, ws V, 50⟩]) (List.sublist_append_left [_, _, _, _, _] [_])
                  refine wp_region_stores (fun w' => Fr w w' [⟨bo, bs zeros, 30⟩, ⟨bk, ws kconsts, 50⟩, ⟨b4, ws sf, 52⟩, ⟨b, bs D ++ tt, 5⟩, ⟨bw, ws V, 50⟩]) [0, 1, 2, 3, 4, 5, 6, 7, 8, 9, 10, 11, 12, 13, 14, 15, 16, 17, 18, 19, 20, 21, 22, 23, 24, 25, 26, 27, 28, 29, 30] [31, 32, 33, 34, 35, 36, 37] (by kernel_rfl) (by kernel_rfl) hFs ?_
                  clear hF hFs
                  simp only [List.filterMap_cons, List.filterMap_nil, List.getElem?_toArray, List.getElem?_cons_succ, List.getElem?_cons_zero]
                  repeat (first | ((with_reducible apply wq_move); (focus (simp only [Act.eval, Array.getD_eq_getD_getElem?, List.getElem?_toArray, List.getElem?_cons_succ, List.getElem?_cons_zero, Option.getD_some, List.map_toArray, List.map_cons, List.map_nil] <;> exact rfl)); simp only [Act.put, List.setIfInBounds_toArray, List.set_cons_succ, List.set_cons_zero, e0, e1, e2, e3, Int.toNat_natCast]) | ((with_reducible apply wq_assign); (focus (simp only [Act.eval, Array.getD_eq_getD_getElem?, List.getElem?_toArray, List.getElem?_cons_succ, List.getElem?_cons_zero, Option.getD_some, List.map_toArray, List.map_cons, List.map_nil] <;> exact rfl)); simp only [Act.put, List.setIfInBounds_toArray, List.set_cons_succ, List.set_cons_zero, e0, e1, e2, e3, Int.toNat_natCast]) | ((with_reducible apply wq_idxA (T := 52) (hu := Try.underlying52) (he := info_u32)); exact rfl; exact rfl; (focus omega); (focus omega); simp only [Act.put, List.setIfInBounds_toArray, List.set_cons_succ, List.set_cons_zero, e0, e1, e2, e3, Int.toNat_natCast]) | ((with_reducible apply wq_idxA (T := 30) (hu := Try.underlying30) (he := info_u8_)); exact rfl; exact rfl; (focus omega); (focus omega); simp only [Act.put, List.setIfInBounds_toArray, List.set_cons_succ, List.set_cons_zero, e0, e1, e2, e3, Int.toNat_natCast]) | ((with_reducible apply wq_loadV (T := 49) (hu := Try.underlying49)); exact rfl; (first | exact ⟨0, rfl⟩ | exact ⟨1, rfl⟩ | exact ⟨2, rfl⟩ | exact ⟨3, rfl⟩ | exact ⟨4, rfl⟩ | exact ⟨5, rfl⟩ | exact ⟨6, rfl⟩ | exact ⟨7, rfl⟩ | exact ⟨8, rfl⟩ | exact ⟨9, rfl⟩ | exact ⟨10, rfl⟩ | exact ⟨11, rfl⟩); exact (ws_get (by rw [Hbl.out]; omega)); simp only [Act.put, List.setIfInBounds_toArray, List.set_cons_succ, List.set_cons_zero, e0, e1, e2, e3, Int.toNat_natCast]) | ((with_reducible apply wq_addW); exact rfl; exact rfl; simp only [Act.put, List.setIfInBounds_toArray, List.set_cons_succ, List.set_cons_zero, e0, e1, e2, e3, Int.toNat_natCast]) | ((with_reducible apply wq_xorW); exact rfl; exact rfl; simp only [Act.put, List.setIfInBounds_toArray, List.set_cons_succ, List.set_cons_zero, e0, e1, e2, e3, Int.toNat_natCast]) | ((with_reducible apply wq_orW); exact rfl; exact rfl; simp only [Act.put, List.setIfInBounds_toArray, List.set_cons_succ, List.set_cons_zero, e0, e1, e2, e3, Int.toNat_natCast]) | ((with_reducible apply wq_andW); exact rfl; exact rfl; simp only [Act.put, List.setIfInBounds_toArray, List.set_cons_succ, List.set_cons_zero, e0, e1, e2, e3, Int.toNat_natCast]) | ((with_reducible apply wq_shrW); exact rfl; exact rfl; (focus omega); simp only [Act.put, List.setIfInBounds_toArray, List.set_cons_succ, List.set_cons_zero, e0, e1, e2, e3, Int.toNat_natCast]) | ((with_reducible apply wq_shlW); exact rfl; exact rfl; (focus omega); simp only [Act.put, List.setIfInBounds_toArray, List.set_cons_succ, List.set_cons_zero, e0, e1, e2, e3, Int.toNat_natCast]) | ((with_reducible apply wq_notW); exact rfl; simp only [Act.put, List.setIfInBounds_toArray, List.set_cons_succ, List.set_cons_zero, e0, e1, e2, e3, Int.toNat_natCast]) | ((with_reducible apply wq_cvBW); exact rfl; exact (by rw [Try.underlying5]; rfl); exact Try.underlying49; simp only [Act.put, List.setIfInBounds_toArray, List.set_cons_succ, List.set_cons_zero, e0, e1, e2, e3, Int.toNat_natCast]) | ((with_reducible apply wq_cvWB); exact rfl; exact (by rw [Try.underlying49]; rfl); exact Try.underlying5; simp only [Act.put, List.setIfInBounds_toArray, List.set_cons_succ, List.set_cons_zero, e0, e1, e2, e3, Int.toNat_natCast]) | ((with_reducible apply wq_addI); exact rfl; exact rfl; (focus omega); simp only [Act.put, List.setIfInBounds_toArray, List.set_cons_succ, List.set_cons_zero, e0, e1, e2, e3, Int.toNat_natCast]) | ((with_reducible apply wq_subI); exact rfl; exact rfl; (focus omega); simp only [Act.put, List.setIfInBounds_toArray, List.set_cons_succ, List.set_cons_zero, e0, e1, e2, e3, Int.toNat_natCast]) | ((with_reducible apply wq_mulI); exact rfl; exact rfl; (focus omega); simp only [Act.put, List.setIfInBounds_toArray, List.set_cons_succ, List.set_cons_zero, e0, e1, e2, e3, Int.toNat_natCast]) | ((with_reducible refine wq_unguard ?_ ?_); (focus (go_simp; done))) | ((with_reducible refine wq_skip ?_ ?_); (focus (go_simp; done)); simp only [Act.put, List.setIfInBounds_toArray, List.set_cons_succ, List.set_cons_zero]) | ((with_reducible refine wq_skip_none ?_ ?_); (focus (first | (go_simp; done) | (go_simp; exact rfl))); simp only [Act.put, List.setIfInBounds_toArray, List.set_cons_succ, List.set_cons_zero]))
                  (refine wpQuiet_nil ?_)
                  have hF := hFd
                  clear hFd
                  ((with_reducible apply wps_storeB hF 5 (T := 5)); exact rfl; exact rfl; exact rfl; exact info_u8_; (focus (first | omega | (simp only [List.length_set] <;> omega))); (focus (intro _ hS; exact hS.sub (List.sublist_append_left [_, _, _, _, _] [_]))); clear hF; intro _ hF)
                  ((with_reducible apply wps_idxA (hF.sub (List.sublist_append_left [_, _, _, _, _] [_])) (T := 30) (hu := Try.underlying30) (he := info_u8_)); exact rfl; exact rfl; (focus omega); (focus omega); simp only [Act.put, List.setIfInBounds_toArray, List.set_cons_succ, List.set_cons_zero, e0, e1, e2, e3, Int.toNat_natCast])
                  ((with_reducible apply wps_storeB hF 5 (T := 5)); exact rfl; exact rfl; exact rfl; exact info_u8_; (focus (first | omega | (simp only [List.length_set] <;> omega))); (focus (intro _ hS; exact hS.sub (List.sublist_append_left [_, _, _, _, _] [_]))); clear hF; intro _ hF)
                  ((with_reducible apply wps_idxA (hF.sub (List.sublist_append_left [_, _, _, _, _] [_])) (T := 30) (hu := Try.underlying30) (he := info_u8_)); exact rfl; exact rfl; (focus omega); (focus omega); simp only [Act.put, List.setIfInBounds_toArray, List.set_cons_succ, List.set_cons_zero, e0, e1, e2, e3, Int.toNat_natCast])
                  ((with_reducible apply wps_storeB hF 5 (T := 5)); exact rfl; exact rfl; exact rfl; exact info_u8_; (focus (first | omega | (simp only [List.length_set] <;> omega))); (focus (intro _ hS; exact hS.sub (List.sublist_append_left [_, _, _, _, _] [_]))); clear hF; intro _ hF)
                  ((with_reducible apply wps_idxA (hF.sub (List.sublist_append_left [_, _, _, _, _] [_])) (T := 30) (hu := Try.underlying30) (he := info_u8_)); exact rfl; exact rfl; (focus omega); (focus omega); simp only [Act.put, List.setIfInBounds_toArray, List.set_cons_succ, List.set_cons_zero, e0, e1, e2, e3, Int.toNat_natCast])
                  ((with_reducible apply wps_storeB hF 5 (T := 5)); exact rfl; exact rfl; exact rfl; exact info_u8_; (focus (first | omega | (simp only [List.length_set] <;> omega))); (focus (intro _ hS; exact hS.sub (List.sublist_append_left [_, _, _, _, _] [_]))); clear hF; intro _ hF)
                  unfold wpStores
                  obtain ⟨os0, os1, os2, os3⟩ := Hos.out
                  have hF2 : Fr w _ [⟨bo, bs zeros, 30⟩, ⟨bk, ws kconsts, 50⟩, ⟨b4, ws sf, 52⟩, ⟨b, bs D ++ tt, 5⟩, ⟨bw, ws V, 50⟩, ⟨bx, bs (((((outs sf (4 * i)).set (4 * i + 0) (down (sr (gw sf i) (24 - 8 * 0)))).set (4 * i + 1) (down (sr (gw sf i) (24 - 8 * 1)))).set (4 * i + 2) (down (sr (gw sf i) (24 - 8 * 2)))).set (4 * i + 3) (down (gw sf i))), 30⟩] := hF
                  clear hF
                  have hout : ((((outs sf (4 * i)).set (4 * i + 0) (down (sr (gw sf i) (24 - 8 * 0)))).set (4 * i + 1) (down (sr (gw sf i) (24 - 8 * 1)))).set (4 * i + 2) (down (sr (gw sf i) (24 - 8 * 2)))).set (4 * i + 3) (down (gw sf i)) = outs sf (4 * (i + 1)) := by
                    have a0 : outs sf (4 * i) = outs sf (4 * i + 0) := rfl
                    rw [a0, os0, os1, os2, os3]
                    congr 1
                  rw [hout] at hF2
                  clear hout os0 os1 os2 os3
                  go_wp2_with (first | fail)
                  go_roundw
                  case rel => exact ⟨i + 1, by omega, by go_num, hF2⟩
                  case measure => simp [intOf]; omega
                · obtain rfl : i = 8 := by omega
                  clear hlt
                  have hol := outs_length sf (4 * 8) (by omega)
                  have hof := outs_all sf
                  rw [Hf2.out] at hof
                  rw [show 4 * 8 = 32 from rfl, hof] at hF hol
                  clear hof
                  have Hol := Lib.hid hol
                  clear hol
                  go_wp2_with (first | ((with_reducible apply wpl_load hF (T := 30) (hu := Try.underlying30)); exact rfl; (first | exact ⟨0, rfl⟩ | exact ⟨1, rfl⟩ | exact ⟨2, rfl⟩ | exact ⟨3, rfl⟩ | exact ⟨4, rfl⟩ | exact ⟨5, rfl⟩ | exact ⟨6, rfl⟩ | exact ⟨7, rfl⟩ | exact ⟨8, rfl⟩ | exact ⟨9, rfl⟩ | exact ⟨10, rfl⟩ | exact ⟨11, rfl⟩); exact info_idl Hol.out) | ((with_reducible apply wpl_store hF 0 (T := 30)); exact rfl; exact rfl; exact rfl; exact info_idl Hol.out; (focus (first | (with_reducible rfl) | (rw [bs_length, bs_length, Hol.out]; rfl))); exact bs_oneCell _; clear hF; intro _ hF))
                  exact post_row hF rfl rfl rfl ⟨0, rfl⟩ Try.underlying30 (info_idl Hol.out) ⟨rfl, hF.below⟩
end Go.Proofs.Ytjjkndbkjnfimaa
