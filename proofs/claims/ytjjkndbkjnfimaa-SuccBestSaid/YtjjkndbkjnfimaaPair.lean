/-
  THE WALKS of sha.Pair and sha.Sum: what they come to is the plain hash.
-/
import Derived.Test.YtjjkndbkjnfimaaMix
import Derived.Test.YtjjkndbkjnfimaaPad
import Derived.Test.YtjjkndbkjnfimaaCut
namespace Go.Proofs.Ytjjkndbkjnfimaa
set_option linter.unusedSimpArgs false
set_option linter.unusedVariables false
open Go.RowKit
attribute [local irreducible] wpQuiet Calls
set_option maxRecDepth 4000

theorem byteElem : Elem Try.prog 5 (.int .u8 0) 1 := Elem.of (by kernel_rfl) rfl
theorem info_id_ : (Try.prog.info? 30).map (·.size) = some 32 := by kernel_rfl
theorem info_idl {l : List UInt8} (h : l.length = 32) : (Try.prog.info? 30).map (·.size) = some (bs l).length := by rw [bs_length, h]; exact info_id_
theorem bs_replicate (n : Nat) : List.replicate n ((Value.int .u8 0).cells[0]!) = bs (List.replicate n 0) := by
  simp [bs, B, Value.cells]

theorem zero128 : ∀ w, (zeroValue 58).run Try.prog w = .ok (.agg (bs (List.replicate 128 0)).toArray) w := (zero_of_info (n := 128) (by kernel_rfl)).1

theorem mix_row (s : List UInt32) (hs : s.length = 8) (d : List UInt8) {w0 w : World} {L : List Blk} (hF : Fr w0 w L) {g c : Nat} {X : List UInt8} {T : TypeId} (hk : ∃ k : Nat, L[k]? = some ⟨g, bs X, T⟩) (i nb : Nat) (hi : i < nb) (hX : 64 * nb ≤ X.length) (hd : ∀ j, j < 64 * nb → gb X j = gb d j) :
    Calls Try.prog 41 #[aggw s, .slice (some ⟨g, 64 * i, none⟩) 64 c] w fun e w' => e = .returned (aggw (mixf s d (64 * i))) ∧ Below w.heap.size w w' := by
  obtain ⟨k, hk⟩ := hk
  refine mix_ s hs d (64 * i) g (64 * i) c w fun j hj => ?_
  rw [hF.cell hk, bs_get (by omega), hd _ (by omega)]

set_option maxHeartbeats 4000000 in
theorem pair_short (A Bb : List UInt8) (pa pb : Option Addr) (la lb ca cb n S : Nat) (hA : A.length = la) (hB : Bb.length = lb) (w : World) (hsA : Sl w pa (bs A)) (hsB : Sl w pb (bs Bb)) (hn : la + lb = n) (hS : room n = S) (hlim : n ≤ 1099511627776) (hs : S ≤ 128) :
    Calls Try.prog 37 #[.slice pa la ca, .slice pb lb cb] w fun e w' => e = .returned (agg (hash (A ++ Bb))) ∧ Below w.heap.size w w' := by
  have hF := Fr.start w
  have en : (la : Int) + (lb : Int) = (n : Int) := by omega
  have eS : ((n : Int) + 8) / 64 * 64 + 64 = (S : Int) := by unfold room at hS; omega
  have hn9 : n + 9 ≤ S := by unfold room at hS; omega
  have ne1 : ¬ (128 = la) := by omega
  have hsI : (S : Int) ≤ 128 := by omega
  have hlA : (bs A).length = la := by rw [bs_length, hA]
  have hlB : (bs Bb).length = lb := by rw [bs_length, hB]
  have hA1 : A.length ≤ la := by omega
  have hA2 : la ≤ A.length := by omega
  have hB1 : Bb.length ≤ lb := by omega
  have hB2 : lb ≤ Bb.length := by omega
  have hlS : la ≤ S := by omega
  have hlS' : (la : Int) ≤ (S : Int) := by omega
  have hA' := Lib.hid hA
  have hB' := Lib.hid hB
  have hn' := Lib.hid hn
  have hS' := Lib.hid hS
  clear hA hB hn hS
  go_enter Try.func37, Try.ntmps37
  go_wp2_with (first | ((with_reducible refine wpl_alloc (dst := some 4) hF (bs zeros) (T := 30) (hz := Try.zeroValue30) ?_ ?_); exact rfl; clear hF; intro bo _ hF) | ((with_reducible refine wpl_alloc (dst := some 6) hF (bs (List.replicate 128 0)) (T := 58) (hz := zero128) ?_ ?_); exact rfl; clear hF; intro g _ hF) | ((with_reducible apply wpl_copy (dst := some 39) hF 1 0 (bs A) (hu := Try.underlying43) (hsz := info_u8_)); exact rfl; exact rfl; exact rfl; (focus (first | omega | (simp only [bs_length, List.length_append, List.length_replicate] <;> omega))); (focus (first | exact rfl | (simp only [Nat.zero_add]; done))); (focus (exact hsA.fr hF)); (focus (simp only [bs_length, List.length_append, List.length_replicate, splice_len, List.length_set] <;> omega)); exact bs_oneCell _; clear hF; intro _ hF; rw [bs_splice] at hF) | ((with_reducible apply wpl_copy (dst := some 42) hF 1 la (bs Bb) (hu := Try.underlying43) (hsz := info_u8_)); exact rfl; exact rfl; exact rfl; (focus (first | omega | (simp only [bs_length, List.length_append, List.length_replicate] <;> omega))); (focus (first | exact rfl | (simp only [Nat.zero_add]; done))); (focus (exact hsB.fr hF)); (focus (simp only [bs_length, List.length_append, List.length_replicate, splice_len, List.length_set] <;> omega)); exact bs_oneCell _; clear hF; intro _ hF; rw [bs_splice] at hF) | ((with_reducible apply wpl_storeB hF 1 (T := 5) (u := 128)); exact rfl; exact rfl; exact rfl; exact info_u8_; (focus (first | omega | (simp only [List.length_set, splice_len, List.length_replicate, lenset_length, laid_length] <;> omega))); clear hF; intro _ hF))
  have hlaid : (splice (splice (List.replicate 128 0) 0 A) la Bb).set n 128 = laid 128 A Bb := by
    have e1 := splice_two 128 A Bb (by omega)
    rw [hA'.out] at e1
    rw [e1, laid, hA'.out, hB'.out, hn'.out]
  rw [hlaid] at hF
  have hll : (laid 128 A Bb).length = 128 := laid_length _ _ _ (by omega)
  clear hlaid
  go_loopw [9, 46] (fun _ t wr => ∃ m : Nat, m ≤ 8 ∧ t = .int .i64 m ∧ Fr w wr [⟨bo, bs zeros, 30⟩, ⟨g, bs (lenset (laid 128 A Bb) S n m), 58⟩]) (fun _ t _ => (8 - intOf t).toNat)
  case atStart => exact ⟨0, by omega, rfl, hF⟩
  case round =>
    clear hF
    obtain ⟨m, hm, rfl, hF⟩ := hrel
    by_cases hlt : m < 8
    · have e8 : (8 * (m : Int)).toNat = 8 * m := by omega
      have f1 : (0 : Int) ≤ (n : Int) * 8 := by omega
      have f3 : (0 : Int) ≤ 8 * (m : Int) := by omega
      have hl2 := lenset_length (laid 128 A Bb) S n m
      go_wp2_with (first | ((with_reducible apply wpl_shr64); exact rfl; exact rfl; (focus omega); (focus omega); (focus omega)) | ((with_reducible apply wpl_storeB hF 1 (T := 5)); exact rfl; exact rfl; exact rfl; exact info_u8_; (focus (first | omega | (simp only [List.length_set] <;> omega))); clear hF; intro _ hF))
      go_roundw
      case rel => exact ⟨m + 1, by omega, by go_num, hF⟩
      case measure => simp [intOf]; omega
    · obtain rfl : m = 8 := by omega
      clear hlt
      have hrow := pad_row 128 A Bb (by rw [hA'.out, hB'.out, hn'.out, hS'.out]; omega) (by omega)
      have hXl : (lenset (laid 128 A Bb) S n 8).length = 128 := by rw [lenset_length, hll]
      rw [hA'.out, hB'.out, hn'.out, hS'.out] at hrow
      have hSS : S = 64 * ((n + 8) / 64 + 1) := by have := hS'.out; unfold room at this; omega
      obtain ⟨nb, hnb⟩ : ∃ nb, nb = (n + 8) / 64 + 1 := ⟨_, rfl⟩
      rw [← hnb] at hSS
      obtain ⟨X, hX⟩ : ∃ X, X = lenset (laid 128 A Bb) S n 8 := ⟨_, rfl⟩
      rw [← hX] at hF hXl hrow
      have hrow' := Lib.hid hrow
      have hSS' := Lib.hid hSS
      have hnb' := Lib.hid hnb
      have hXl' := Lib.hid hXl
      have hSb : S ≤ 1099511628000 := by omega
      clear hX hrow hll eS hSS hnb hXl
      go_wp2_with (first | (go_at_call 40; refine (begin_ _).mono ?_; rintro _ _ ⟨rfl, hb⟩; replace hF := hF.call hb; clear hb) | ((with_reducible refine wpl_alloc (dst := some 10) hF (ws (wzeros 8)) (T := 52) (hz := Try.zeroValue52) ?_ ?_); exact rfl; clear hF; intro b2 _ hF) | ((with_reducible apply wpl_store hF 2 (T := 52) (cs' := ws hinit)); exact rfl; (focus (first | exact rfl | kernel_rfl)); exact rfl; exact info_w8' hinit_length; (focus (simp only [ws_length, List.length_set, wzeros_length, kconsts_length, hinit_length, addw_length, blocks_length, mixf_length] <;> omega)); exact ws_oneCell _; clear hF; intro _ hF))
      go_loopw [11] (fun t wr => ∃ m : Nat, m ≤ nb ∧ t = .int .i64 (64 * (m : Int)) ∧ Fr w wr [⟨bo, bs zeros, 30⟩, ⟨g, bs X, 58⟩, ⟨b2, ws (blocks (pad (A ++ Bb)) m), 52⟩]) (fun t _ => S - (intOf t).toNat)
      case atStart => exact ⟨0, by omega, rfl, hF⟩
      case round =>
        clear hF
        obtain ⟨m, hm2, rfl, hF⟩ := hrel
        have hSS := hSS'.out
        have hXl := hXl'.out
        by_cases hlt : m < nb
        · have c1 : 64 * (m : Int) < (S : Int) := by omega
          have c2 : (0 : Int) ≤ 64 * (m : Int) := by omega
          have e1 : (64 * (m : Int)).toNat = 64 * m := by omega
          have e2 : (64 * (m : Int) + 64 - 64 * (m : Int)).toNat = 64 := by omega
          have c3 : 64 * m + 64 ≤ S := by omega
          have hSS2 := Lib.hid hSS
          have hXl2 := Lib.hid hXl
          have hmx : ∀ w', Fr w w' [⟨bo, bs zeros, 30⟩, ⟨g, bs X, 58⟩, ⟨b2, ws (blocks (pad (A ++ Bb)) m), 52⟩] → Calls Try.prog 41 #[aggw (blocks (pad (A ++ Bb)) m), .slice (some ⟨g, 64 * m, none⟩) 64 (128 - 64 * m)] w' fun e w'' => e = .returned (aggw (mixf (blocks (pad (A ++ Bb)) m) (pad (A ++ Bb)) (64 * m))) ∧ Below w'.heap.size w' w'' :=
            fun w' hw => mix_row _ (blocks_length _ _) _ hw ⟨1, rfl⟩ m nb hlt (by omega) (fun j hj => hrow'.out j (by omega))
          have Hmx := Lib.hid hmx
          clear hSS hXl hmx
          go_wp2_with (first | fail)
          ((refine wp_region_fr_tail 7 (by kernel_rfl) (by kernel_rfl) hF ?_); clear hF; simp only [List.take_succ_cons, List.take_zero, List.drop_succ_cons, List.drop_zero])
          repeat (first | ((with_reducible apply wq_move); (focus (simp only [Act.eval, Array.getD_eq_getD_getElem?, List.getElem?_toArray, List.getElem?_cons_succ, List.getElem?_cons_zero, Option.getD_some, List.map_toArray, List.map_cons, List.map_nil] <;> exact rfl)); simp only [Act.put, List.setIfInBounds_toArray, List.set_cons_succ, List.set_cons_zero, e1, e2, Nat.zero_add]) | ((with_reducible apply wq_assign); (focus (simp only [Act.eval, Array.getD_eq_getD_getElem?, List.getElem?_toArray, List.getElem?_cons_succ, List.getElem?_cons_zero, Option.getD_some, List.map_toArray, List.map_cons, List.map_nil] <;> exact rfl)); simp only [Act.put, List.setIfInBounds_toArray, List.set_cons_succ, List.set_cons_zero, e1, e2, Nat.zero_add]) | ((with_reducible apply wq_load (T := 52) (hu := Try.underlying52)); exact rfl; (first | exact ⟨0, rfl⟩ | exact ⟨1, rfl⟩ | exact ⟨2, rfl⟩ | exact ⟨3, rfl⟩ | exact ⟨4, rfl⟩ | exact ⟨5, rfl⟩ | exact ⟨6, rfl⟩ | exact ⟨7, rfl⟩ | exact ⟨8, rfl⟩ | exact ⟨9, rfl⟩ | exact ⟨10, rfl⟩ | exact ⟨11, rfl⟩); exact info_w8' (blocks_length _ _); simp only [Act.put, List.setIfInBounds_toArray, List.set_cons_succ, List.set_cons_zero, e1, e2, Nat.zero_add]) | ((with_reducible apply wq_cut (hu := Try.underlying43) (he := info_u8_)); exact rfl; exact rfl; exact rfl; (focus omega); (focus omega); (focus omega); (focus omega); simp only [Act.put, List.setIfInBounds_toArray, List.set_cons_succ, List.set_cons_zero, e1, e2, Nat.zero_add]) | ((with_reducible apply wq_call (f := 41) (hc := Try.call41)); (focus (simp only [Act.eval, Array.getD_eq_getD_getElem?, List.getElem?_toArray, List.getElem?_cons_succ, List.getElem?_cons_zero, Option.getD_some, List.map_toArray, List.map_cons, List.map_nil] <;> exact rfl)); exact (fun w hw => Hmx.out w hw); simp only [Act.put, List.setIfInBounds_toArray, List.set_cons_succ, List.set_cons_zero, e1, e2, Nat.zero_add]) | ((with_reducible apply wq_addI); exact rfl; exact rfl; (focus omega); simp only [Act.put, List.setIfInBounds_toArray, List.set_cons_succ, List.set_cons_zero, e1, e2, Nat.zero_add]) | ((with_reducible apply wq_subI); exact rfl; exact rfl; (focus omega); simp only [Act.put, List.setIfInBounds_toArray, List.set_cons_succ, List.set_cons_zero, e1, e2, Nat.zero_add]) | ((with_reducible apply wq_mulI); exact rfl; exact rfl; (focus omega); simp only [Act.put, List.setIfInBounds_toArray, List.set_cons_succ, List.set_cons_zero, e1, e2, Nat.zero_add]) | ((with_reducible refine wq_unguard ?_ ?_); (focus (go_simp; done))) | ((with_reducible refine wq_skip ?_ ?_); (focus (go_simp; done)); simp only [Act.put, List.setIfInBounds_toArray, List.set_cons_succ, List.set_cons_zero]) | ((with_reducible refine wq_skip_none ?_ ?_); (focus (first | (go_simp; done) | (go_simp; exact rfl))); simp only [Act.put, List.setIfInBounds_toArray, List.set_cons_succ, List.set_cons_zero]))
          ((refine wpQuiet_nil ?_); intro _ hF)
          go_wp2_with (first | ((with_reducible apply wpl_store hF 2 (T := 52) (cs' := ws (mixf (blocks (pad (A ++ Bb)) m) (pad (A ++ Bb)) (64 * m)))); exact rfl; (focus (first | exact rfl | kernel_rfl)); exact rfl; exact info_w8' (mixf_length _ _ _); (focus (simp only [ws_length, List.length_set, wzeros_length, kconsts_length, hinit_length, addw_length, blocks_length, mixf_length] <;> omega)); exact ws_oneCell _; clear hF; intro _ hF))
          go_roundw
          case rel => exact ⟨m + 1, by omega, by go_num, hF⟩
          case measure => simp [intOf]; omega
        · obtain rfl : m = nb := by omega
          have c1 : ¬ (64 * (m : Int) < (S : Int)) := by omega
          clear hlt hXl hSS
          have hbl := blocks_length (pad (A ++ Bb)) m
          obtain ⟨sf, hsf⟩ : ∃ sf, sf = blocks (pad (A ++ Bb)) m := ⟨_, rfl⟩
          rw [← hsf] at hF hbl
          have hfin : outf sf = hash (A ++ Bb) := by
            rw [hsf, hnb'.out, hash, List.length_append, hA'.out, hB'.out, hn'.out]
          have Hfin := Lib.hid hfin
          have Hbl := Lib.hid hbl
          clear hsf hfin hbl
          go_wp2_with (first | ((with_reducible refine wpl_alloc (dst := some 12) hF (bs zeros) (T := 30) (hz := Try.zeroValue30) ?_ ?_); exact rfl; clear hF; intro bx _ hF) | ((with_reducible apply wpl_load hF (T := 52) (hu := Try.underlying52)); exact rfl; (first | exact ⟨0, rfl⟩ | exact ⟨1, rfl⟩ | exact ⟨2, rfl⟩ | exact ⟨3, rfl⟩ | exact ⟨4, rfl⟩ | exact ⟨5, rfl⟩ | exact ⟨6, rfl⟩ | exact ⟨7, rfl⟩ | exact ⟨8, rfl⟩ | exact ⟨9, rfl⟩ | exact ⟨10, rfl⟩ | exact ⟨11, rfl⟩); exact info_w8' Hbl.out))
          have hz : zeros = outs sf 0 := rfl
          have hF' : Fr w _ [⟨bo, bs zeros, 30⟩, ⟨g, bs X, 58⟩, ⟨b2, ws sf, 52⟩, ⟨bx, bs (outs sf 0), 30⟩] := hF
          clear hF hz
          go_loopw [79] (fun t wr => ∃ i : Nat, i ≤ 8 ∧ t = .int .i64 i ∧ Fr w wr [⟨bo, bs zeros, 30⟩, ⟨g, bs X, 58⟩, ⟨b2, ws sf, 52⟩, ⟨bx, bs (outs sf (4 * i)), 30⟩]) (fun t _ => (8 - intOf t).toNat)
          case atStart => exact ⟨0, by omega, rfl, hF'⟩
          case round =>
            clear hF'
            obtain ⟨i, hi, rfl, hF⟩ := hrel
            by_cases hlt : i < 8
            · have d1 : (0 : Int) ≤ (i : Int) := by omega
              have d2 : (i : Int) < 8 := by omega
              go_wp2_with (first | ((with_reducible apply wpl_indexV (T := 52) (hu := Try.underlying52) (hue := Try.underlying49) (he := info_u32)); exact rfl; exact rfl; (focus omega); (focus omega); exact ws_get (by rw [Hbl.out]; omega)))
              obtain ⟨wo, hwo⟩ : ∃ wo : World, wo = wr := ⟨_, rfl⟩
              clear hwo
              go_loopw [83] (fun t wr => ∃ j : Nat, j ≤ 4 ∧ t = .int .i64 j ∧ Fr w wr [⟨bo, bs zeros, 30⟩, ⟨g, bs X, 58⟩, ⟨b2, ws sf, 52⟩, ⟨bx, bs (outs sf (4 * i + j)), 30⟩]) (fun t _ => (4 - intOf t).toNat)
              case atStart => exact ⟨0, by omega, rfl, hF⟩
              case round =>
                clear hF
                obtain ⟨j, hj, rfl, hF⟩ := hrel
                by_cases hlt2 : j < 4
                · have d3 : (0 : Int) ≤ (j : Int) := by omega
                  have d4 : (j : Int) < 4 := by omega
                  have d5 : (0 : Int) ≤ 24 - 8 * (j : Int) := by omega
                  have e5 : (24 - 8 * (j : Int)).toNat = 24 - 8 * j := by omega
                  have ol := outs_length sf (4 * i + j) (by omega)
                  have os := outs_succ sf (4 * i + j) (by omega)
                  rw [outb_at sf i j hlt2] at os
                  have Hos := Lib.hid os
                  clear os
                  go_wp2_with (first | ((with_reducible apply wpl_shrW); exact rfl; exact rfl; (focus omega)) | ((with_reducible apply wpl_storeB hF 3 (T := 5)); exact rfl; exact rfl; exact rfl; exact info_u8_; (focus (first | omega | (simp only [List.length_set] <;> omega))); clear hF; intro _ hF))
                  rw [Hos.out] at hF
                  go_roundw
                  case rel => exact ⟨j + 1, by omega, by go_num, hF⟩
                  case measure => simp [intOf]; omega
                · obtain rfl : j = 4 := by omega
                  clear hlt2
                  go_wp2_with (first | fail)
                  go_roundw
                  case rel => exact ⟨i + 1, by omega, by go_num, hF⟩
                  case measure => simp [intOf]; omega
            · obtain rfl : i = 8 := by omega
              clear hlt
              have hol := outs_length sf (4 * 8) (by omega)
              have hof := outs_all sf
              rw [Hfin.out] at hof
              rw [show 4 * 8 = 32 from rfl, hof] at hF hol
              clear hof
              have Hol := Lib.hid hol
              clear hol
              go_wp2_with (first | ((with_reducible apply wpl_load hF (T := 30) (hu := Try.underlying30)); exact rfl; (first | exact ⟨0, rfl⟩ | exact ⟨1, rfl⟩ | exact ⟨2, rfl⟩ | exact ⟨3, rfl⟩ | exact ⟨4, rfl⟩ | exact ⟨5, rfl⟩ | exact ⟨6, rfl⟩ | exact ⟨7, rfl⟩ | exact ⟨8, rfl⟩ | exact ⟨9, rfl⟩ | exact ⟨10, rfl⟩ | exact ⟨11, rfl⟩); exact info_idl Hol.out) | ((with_reducible apply wpl_store hF 0 (T := 30)); exact rfl; exact rfl; exact rfl; exact info_idl Hol.out; (focus (first | (with_reducible rfl) | (rw [bs_length, bs_length, Hol.out]; rfl))); exact bs_oneCell _; clear hF; intro _ hF))
              exact post_row hF rfl rfl rfl ⟨0, rfl⟩ Try.underlying30 (info_idl Hol.out) ⟨rfl, hF.below⟩
set_option maxHeartbeats 4000000 in
theorem pair_long (A Bb : List UInt8) (pa pb : Option Addr) (la lb ca cb n S : Nat) (hA : A.length = la) (hB : Bb.length = lb) (w : World) (hsA : Sl w pa (bs A)) (hsB : Sl w pb (bs Bb)) (hn : la + lb = n) (hS : room n = S) (hlim : n ≤ 1099511627776) (hs : 128 < S) :
    Calls Try.prog 37 #[.slice pa la ca, .slice pb lb cb] w fun e w' => e = .returned (agg (hash (A ++ Bb))) ∧ Below w.heap.size w w' := by
  have hF := Fr.start w
  have en : (la : Int) + (lb : Int) = (n : Int) := by omega
  have eS : ((n : Int) + 8) / 64 * 64 + 64 = (S : Int) := by unfold room at hS; omega
  have hn9 : n + 9 ≤ S := by unfold room at hS; omega
  have ne1 : ¬ (S = la) := by omega
  have hsI : ¬ (S : Int) ≤ 128 := by omega
  have hlA : (bs A).length = la := by rw [bs_length, hA]
  have hlB : (bs Bb).length = lb := by rw [bs_length, hB]
  have hA1 : A.length ≤ la := by omega
  have hA2 : la ≤ A.length := by omega
  have hB1 : Bb.length ≤ lb := by omega
  have hB2 : lb ≤ Bb.length := by omega
  have hlS : la ≤ S := by omega
  have hlS' : (la : Int) ≤ (S : Int) := by omega
  have hA' := Lib.hid hA
  have hB' := Lib.hid hB
  have hn' := Lib.hid hn
  have hS' := Lib.hid hS
  clear hA hB hn hS
  go_enter Try.func37, Try.ntmps37
  go_wp2_with (first | ((with_reducible refine wpl_alloc (dst := some 4) hF (bs zeros) (T := 30) (hz := Try.zeroValue30) ?_ ?_); exact rfl; clear hF; intro bo _ hF) | ((with_reducible refine wpl_alloc (dst := some 6) hF (bs (List.replicate 128 0)) (T := 58) (hz := zero128) ?_ ?_); exact rfl; clear hF; intro g _ hF) | ((with_reducible apply wpl_make hF (ht := Try.underlying43) (he := byteElem)); exact rfl; exact rfl; (focus omega); (focus omega); (focus omega); (focus omega); clear hF; intro g _ hF; rw [Int.toNat_natCast, bs_replicate] at hF; replace hF := hF.sub (L' := [⟨bo, bs zeros, 30⟩, ⟨g, bs (List.replicate S 0), 5⟩]) (List.Sublist.cons_cons _ (List.Sublist.cons _ (List.Sublist.refl _))); rw [Int.toNat_natCast]) | ((with_reducible apply wpl_copy (dst := some 39) hF 1 0 (bs A) (hu := Try.underlying43) (hsz := info_u8_)); exact rfl; exact rfl; exact rfl; (focus (first | omega | (simp only [bs_length, List.length_append, List.length_replicate] <;> omega))); (focus (first | exact rfl | (simp only [Nat.zero_add]; done))); (focus (exact hsA.fr hF)); (focus (simp only [bs_length, List.length_append, List.length_replicate, splice_len, List.length_set] <;> omega)); exact bs_oneCell _; clear hF; intro _ hF; rw [bs_splice] at hF) | ((with_reducible apply wpl_copy (dst := some 42) hF 1 la (bs Bb) (hu := Try.underlying43) (hsz := info_u8_)); exact rfl; exact rfl; exact rfl; (focus (first | omega | (simp only [bs_length, List.length_append, List.length_replicate] <;> omega))); (focus (first | exact rfl | (simp only [Nat.zero_add]; done))); (focus (exact hsB.fr hF)); (focus (simp only [bs_length, List.length_append, List.length_replicate, splice_len, List.length_set] <;> omega)); exact bs_oneCell _; clear hF; intro _ hF; rw [bs_splice] at hF) | ((with_reducible apply wpl_storeB hF 1 (T := 5) (u := 128)); exact rfl; exact rfl; exact rfl; exact info_u8_; (focus (first | omega | (simp only [List.length_set, splice_len, List.length_replicate, lenset_length, laid_length] <;> omega))); clear hF; intro _ hF))
  have hlaid : (splice (splice (List.replicate S 0) 0 A) la Bb).set n 128 = laid S A Bb := by
    have e1 := splice_two S A Bb (by omega)
    rw [hA'.out] at e1
    rw [e1, laid, hA'.out, hB'.out, hn'.out]
  rw [hlaid] at hF
  have hll : (laid S A Bb).length = S := laid_length _ _ _ (by omega)
  clear hlaid
  go_loopw [9, 46] (fun _ t wr => ∃ m : Nat, m ≤ 8 ∧ t = .int .i64 m ∧ Fr w wr [⟨bo, bs zeros, 30⟩, ⟨g, bs (lenset (laid S A Bb) S n m), 5⟩]) (fun _ t _ => (8 - intOf t).toNat)
  case atStart => exact ⟨0, by omega, rfl, hF⟩
  case round =>
    clear hF
    obtain ⟨m, hm, rfl, hF⟩ := hrel
    by_cases hlt : m < 8
    · have e8 : (8 * (m : Int)).toNat = 8 * m := by omega
      have f1 : (0 : Int) ≤ (n : Int) * 8 := by omega
      have f3 : (0 : Int) ≤ 8 * (m : Int) := by omega
      have hl2 := lenset_length (laid S A Bb) S n m
      go_wp2_with (first | ((with_reducible apply wpl_shr64); exact rfl; exact rfl; (focus omega); (focus omega); (focus omega)) | ((with_reducible apply wpl_storeB hF 1 (T := 5)); exact rfl; exact rfl; exact rfl; exact info_u8_; (focus (first | omega | (simp only [List.length_set] <;> omega))); clear hF; intro _ hF))
      go_roundw
      case rel => exact ⟨m + 1, by omega, by go_num, hF⟩
      case measure => simp [intOf]; omega
    · obtain rfl : m = 8 := by omega
      clear hlt
      have hrow := pad_row S A Bb (by rw [hA'.out, hB'.out, hn'.out, hS'.out]; omega) (by omega)
      have hXl : (lenset (laid S A Bb) S n 8).length = S := by rw [lenset_length, hll]
      rw [hA'.out, hB'.out, hn'.out, hS'.out] at hrow
      have hSS : S = 64 * ((n + 8) / 64 + 1) := by have := hS'.out; unfold room at this; omega
      obtain ⟨nb, hnb⟩ : ∃ nb, nb = (n + 8) / 64 + 1 := ⟨_, rfl⟩
      rw [← hnb] at hSS
      obtain ⟨X, hX⟩ : ∃ X, X = lenset (laid S A Bb) S n 8 := ⟨_, rfl⟩
      rw [← hX] at hF hXl hrow
      have hrow' := Lib.hid hrow
      have hSS' := Lib.hid hSS
      have hnb' := Lib.hid hnb
      have hXl' := Lib.hid hXl
      have hSb : S ≤ 1099511628000 := by omega
      clear hX hrow hll eS hSS hnb hXl
      go_wp2_with (first | (go_at_call 40; refine (begin_ _).mono ?_; rintro _ _ ⟨rfl, hb⟩; replace hF := hF.call hb; clear hb) | ((with_reducible refine wpl_alloc (dst := some 10) hF (ws (wzeros 8)) (T := 52) (hz := Try.zeroValue52) ?_ ?_); exact rfl; clear hF; intro b2 _ hF) | ((with_reducible apply wpl_store hF 2 (T := 52) (cs' := ws hinit)); exact rfl; (focus (first | exact rfl | kernel_rfl)); exact rfl; exact info_w8' hinit_length; (focus (simp only [ws_length, List.length_set, wzeros_length, kconsts_length, hinit_length, addw_length, blocks_length, mixf_length] <;> omega)); exact ws_oneCell _; clear hF; intro _ hF))
      go_loopw [11] (fun t wr => ∃ m : Nat, m ≤ nb ∧ t = .int .i64 (64 * (m : Int)) ∧ Fr w wr [⟨bo, bs zeros, 30⟩, ⟨g, bs X, 5⟩, ⟨b2, ws (blocks (pad (A ++ Bb)) m), 52⟩]) (fun t _ => S - (intOf t).toNat)
      case atStart => exact ⟨0, by omega, rfl, hF⟩
      case round =>
        clear hF
        obtain ⟨m, hm2, rfl, hF⟩ := hrel
        have hSS := hSS'.out
        have hXl := hXl'.out
        by_cases hlt : m < nb
        · have c1 : 64 * (m : Int) < (S : Int) := by omega
          have c2 : (0 : Int) ≤ 64 * (m : Int) := by omega
          have e1 : (64 * (m : Int)).toNat = 64 * m := by omega
          have e2 : (64 * (m : Int) + 64 - 64 * (m : Int)).toNat = 64 := by omega
          have c3 : 64 * m + 64 ≤ S := by omega
          have hSS2 := Lib.hid hSS
          have hXl2 := Lib.hid hXl
          have hmx : ∀ w', Fr w w' [⟨bo, bs zeros, 30⟩, ⟨g, bs X, 5⟩, ⟨b2, ws (blocks (pad (A ++ Bb)) m), 52⟩] → Calls Try.prog 41 #[aggw (blocks (pad (A ++ Bb)) m), .slice (some ⟨g, 64 * m, none⟩) 64 (S - 64 * m)] w' fun e w'' => e = .returned (aggw (mixf (blocks (pad (A ++ Bb)) m) (pad (A ++ Bb)) (64 * m))) ∧ Below w'.heap.size w' w'' :=
            fun w' hw => mix_row _ (blocks_length _ _) _ hw ⟨1, rfl⟩ m nb hlt (by omega) (fun j hj => hrow'.out j (by omega))
          have Hmx := Lib.hid hmx
          clear hSS hXl hmx
          go_wp2_with (first | fail)
          ((refine wp_region_fr_tail 7 (by kernel_rfl) (by kernel_rfl) hF ?_); clear hF; simp only [List.take_succ_cons, List.take_zero, List.drop_succ_cons, List.drop_zero])
          repeat (first | ((with_reducible apply wq_move); (focus (simp only [Act.eval, Array.getD_eq_getD_getElem?, List.getElem?_toArray, List.getElem?_cons_succ, List.getElem?_cons_zero, Option.getD_some, List.map_toArray, List.map_cons, List.map_nil] <;> exact rfl)); simp only [Act.put, List.setIfInBounds_toArray, List.set_cons_succ, List.set_cons_zero, e1, e2, Nat.zero_add]) | ((with_reducible apply wq_assign); (focus (simp only [Act.eval, Array.getD_eq_getD_getElem?, List.getElem?_toArray, List.getElem?_cons_succ, List.getElem?_cons_zero, Option.getD_some, List.map_toArray, List.map_cons, List.map_nil] <;> exact rfl)); simp only [Act.put, List.setIfInBounds_toArray, List.set_cons_succ, List.set_cons_zero, e1, e2, Nat.zero_add]) | ((with_reducible apply wq_load (T := 52) (hu := Try.underlying52)); exact rfl; (first | exact ⟨0, rfl⟩ | exact ⟨1, rfl⟩ | exact ⟨2, rfl⟩ | exact ⟨3, rfl⟩ | exact ⟨4, rfl⟩ | exact ⟨5, rfl⟩ | exact ⟨6, rfl⟩ | exact ⟨7, rfl⟩ | exact ⟨8, rfl⟩ | exact ⟨9, rfl⟩ | exact ⟨10, rfl⟩ | exact ⟨11, rfl⟩); exact info_w8' (blocks_length _ _); simp only [Act.put, List.setIfInBounds_toArray, List.set_cons_succ, List.set_cons_zero, e1, e2, Nat.zero_add]) | ((with_reducible apply wq_cut (hu := Try.underlying43) (he := info_u8_)); exact rfl; exact rfl; exact rfl; (focus omega); (focus omega); (focus omega); (focus omega); simp only [Act.put, List.setIfInBounds_toArray, List.set_cons_succ, List.set_cons_zero, e1, e2, Nat.zero_add]) | ((with_reducible apply wq_call (f := 41) (hc := Try.call41)); (focus (simp only [Act.eval, Array.getD_eq_getD_getElem?, List.getElem?_toArray, List.getElem?_cons_succ, List.getElem?_cons_zero, Option.getD_some, List.map_toArray, List.map_cons, List.map_nil] <;> exact rfl)); exact (fun w hw => Hmx.out w hw); simp only [Act.put, List.setIfInBounds_toArray, List.set_cons_succ, List.set_cons_zero, e1, e2, Nat.zero_add]) | ((with_reducible apply wq_addI); exact rfl; exact rfl; (focus omega); simp only [Act.put, List.setIfInBounds_toArray, List.set_cons_succ, List.set_cons_zero, e1, e2, Nat.zero_add]) | ((with_reducible apply wq_subI); exact rfl; exact rfl; (focus omega); simp only [Act.put, List.setIfInBounds_toArray, List.set_cons_succ, List.set_cons_zero, e1, e2, Nat.zero_add]) | ((with_reducible apply wq_mulI); exact rfl; exact rfl; (focus omega); simp only [Act.put, List.setIfInBounds_toArray, List.set_cons_succ, List.set_cons_zero, e1, e2, Nat.zero_add]) | ((with_reducible refine wq_unguard ?_ ?_); (focus (go_simp; done))) | ((with_reducible refine wq_skip ?_ ?_); (focus (go_simp; done)); simp only [Act.put, List.setIfInBounds_toArray, List.set_cons_succ, List.set_cons_zero]) | ((with_reducible refine wq_skip_none ?_ ?_); (focus (first | (go_simp; done) | (go_simp; exact rfl))); simp only [Act.put, List.setIfInBounds_toArray, List.set_cons_succ, List.set_cons_zero]))
          ((refine wpQuiet_nil ?_); intro _ hF)
          go_wp2_with (first | ((with_reducible apply wpl_store hF 2 (T := 52) (cs' := ws (mixf (blocks (pad (A ++ Bb)) m) (pad (A ++ Bb)) (64 * m)))); exact rfl; (focus (first | exact rfl | kernel_rfl)); exact rfl; exact info_w8' (mixf_length _ _ _); (focus (simp only [ws_length, List.length_set, wzeros_length, kconsts_length, hinit_length, addw_length, blocks_length, mixf_length] <;> omega)); exact ws_oneCell _; clear hF; intro _ hF))
          go_roundw
          case rel => exact ⟨m + 1, by omega, by go_num, hF⟩
          case measure => simp [intOf]; omega
        · obtain rfl : m = nb := by omega
          have c1 : ¬ (64 * (m : Int) < (S : Int)) := by omega
          clear hlt hXl hSS
          have hbl := blocks_length (pad (A ++ Bb)) m
          obtain ⟨sf, hsf⟩ : ∃ sf, sf = blocks (pad (A ++ Bb)) m := ⟨_, rfl⟩
          rw [← hsf] at hF hbl
          have hfin : outf sf = hash (A ++ Bb) := by
            rw [hsf, hnb'.out, hash, List.length_append, hA'.out, hB'.out, hn'.out]
          have Hfin := Lib.hid hfin
          have Hbl := Lib.hid hbl
          clear hsf hfin hbl
          go_wp2_with (first | ((with_reducible refine wpl_alloc (dst := some 12) hF (bs zeros) (T := 30) (hz := Try.zeroValue30) ?_ ?_); exact rfl; clear hF; intro bx _ hF) | ((with_reducible apply wpl_load hF (T := 52) (hu := Try.underlying52)); exact rfl; (first | exact ⟨0, rfl⟩ | exact ⟨1, rfl⟩ | exact ⟨2, rfl⟩ | exact ⟨3, rfl⟩ | exact ⟨4, rfl⟩ | exact ⟨5, rfl⟩ | exact ⟨6, rfl⟩ | exact ⟨7, rfl⟩ | exact ⟨8, rfl⟩ | exact ⟨9, rfl⟩ | exact ⟨10, rfl⟩ | exact ⟨11, rfl⟩); exact info_w8' Hbl.out))
          have hz : zeros = outs sf 0 := rfl
          have hF' : Fr w _ [⟨bo, bs zeros, 30⟩, ⟨g, bs X, 5⟩, ⟨b2, ws sf, 52⟩, ⟨bx, bs (outs sf 0), 30⟩] := hF
          clear hF hz
          go_loopw [79] (fun t wr => ∃ i : Nat, i ≤ 8 ∧ t = .int .i64 i ∧ Fr w wr [⟨bo, bs zeros, 30⟩, ⟨g, bs X, 5⟩, ⟨b2, ws sf, 52⟩, ⟨bx, bs (outs sf (4 * i)), 30⟩]) (fun t _ => (8 - intOf t).toNat)
          case atStart => exact ⟨0, by omega, rfl, hF'⟩
          case round =>
            clear hF'
            obtain ⟨i, hi, rfl, hF⟩ := hrel
            by_cases hlt : i < 8
            · have d1 : (0 : Int) ≤ (i : Int) := by omega
              have d2 : (i : Int) < 8 := by omega
              go_wp2_with (first | ((with_reducible apply wpl_indexV (T := 52) (hu := Try.underlying52) (hue := Try.underlying49) (he := info_u32)); exact rfl; exact rfl; (focus omega); (focus omega); exact ws_get (by rw [Hbl.out]; omega)))
              obtain ⟨wo, hwo⟩ : ∃ wo : World, wo = wr := ⟨_, rfl⟩
              clear hwo
              go_loopw [83] (fun t wr => ∃ j : Nat, j ≤ 4 ∧ t = .int .i64 j ∧ Fr w wr [⟨bo, bs zeros, 30⟩, ⟨g, bs X, 5⟩, ⟨b2, ws sf, 52⟩, ⟨bx, bs (outs sf (4 * i + j)), 30⟩]) (fun t _ => (4 - intOf t).toNat)
              case atStart => exact ⟨0, by omega, rfl, hF⟩
              case round =>
                clear hF
                obtain ⟨j, hj, rfl, hF⟩ := hrel
                by_cases hlt2 : j < 4
                · have d3 : (0 : Int) ≤ (j : Int) := by omega
                  have d4 : (j : Int) < 4 := by omega
                  have d5 : (0 : Int) ≤ 24 - 8 * (j : Int) := by omega
                  have e5 : (24 - 8 * (j : Int)).toNat = 24 - 8 * j := by omega
                  have ol := outs_length sf (4 * i + j) (by omega)
                  have os := outs_succ sf (4 * i + j) (by omega)
                  rw [outb_at sf i j hlt2] at os
                  have Hos := Lib.hid os
                  clear os
                  go_wp2_with (first | ((with_reducible apply wpl_shrW); exact rfl; exact rfl; (focus omega)) | ((with_reducible apply wpl_storeB hF 3 (T := 5)); exact rfl; exact rfl; exact rfl; exact info_u8_; (focus (first | omega | (simp only [List.length_set] <;> omega))); clear hF; intro _ hF))
                  rw [Hos.out] at hF
                  go_roundw
                  case rel => exact ⟨j + 1, by omega, by go_num, hF⟩
                  case measure => simp [intOf]; omega
                · obtain rfl : j = 4 := by omega
                  clear hlt2
                  go_wp2_with (first | fail)
                  go_roundw
                  case rel => exact ⟨i + 1, by omega, by go_num, hF⟩
                  case measure => simp [intOf]; omega
            · obtain rfl : i = 8 := by omega
              clear hlt
              have hol := outs_length sf (4 * 8) (by omega)
              have hof := outs_all sf
              rw [Hfin.out] at hof
              rw [show 4 * 8 = 32 from rfl, hof] at hF hol
              clear hof
              have Hol := Lib.hid hol
              clear hol
              go_wp2_with (first | ((with_reducible apply wpl_load hF (T := 30) (hu := Try.underlying30)); exact rfl; (first | exact ⟨0, rfl⟩ | exact ⟨1, rfl⟩ | exact ⟨2, rfl⟩ | exact ⟨3, rfl⟩ | exact ⟨4, rfl⟩ | exact ⟨5, rfl⟩ | exact ⟨6, rfl⟩ | exact ⟨7, rfl⟩ | exact ⟨8, rfl⟩ | exact ⟨9, rfl⟩ | exact ⟨10, rfl⟩ | exact ⟨11, rfl⟩); exact info_idl Hol.out) | ((with_reducible apply wpl_store hF 0 (T := 30)); exact rfl; exact rfl; exact rfl; exact info_idl Hol.out; (focus (first | (with_reducible rfl) | (rw [bs_length, bs_length, Hol.out]; rfl))); exact bs_oneCell _; clear hF; intro _ hF))
              exact post_row hF rfl rfl rfl ⟨0, rfl⟩ Try.underlying30 (info_idl Hol.out) ⟨rfl, hF.below⟩

theorem pair_ (A Bb : List UInt8) (pa pb : Option Addr) (la lb ca cb : Nat) (hA : A.length = la) (hB : Bb.length = lb) (w : World) (hsA : Sl w pa (bs A)) (hsB : Sl w pb (bs Bb)) (hlim : la + lb ≤ 1099511627776) :
    Calls Try.prog 37 #[.slice pa la ca, .slice pb lb cb] w fun e w' => e = .returned (agg (hash (A ++ Bb))) ∧ Below w.heap.size w w' := by
  by_cases h : room (la + lb) ≤ 128
  · exact pair_short A Bb pa pb la lb ca cb _ _ hA hB w hsA hsB rfl rfl hlim h
  · exact pair_long A Bb pa pb la lb ca cb _ _ hA hB w hsA hsB rfl rfl hlim (by omega)

theorem shaSum (A : List UInt8) (pa : Option Addr) (la ca : Nat) (hA : A.length = la) (w : World) (hsA : Sl w pa (bs A)) (hlim : la ≤ 1099511627776) :
    Calls Try.prog 30 #[.slice pa la ca] w fun e w' => e = .returned (agg (hash A)) ∧ Below w.heap.size w w' := by
  have hF := Fr.start w
  have hp : ∀ w1, Fr w w1 ([] ++ []) → True := fun _ _ => trivial
  have hh := Lib.hid (hash_length A)
  have hA' := Lib.hid hA
  clear hA hp
  go_enter Try.func30, Try.ntmps30
  go_wp2_with (first | ((with_reducible refine wpl_alloc (dst := some 2) hF (bs zeros) (T := 30) (hz := Try.zeroValue30) ?_ ?_); exact rfl; clear hF; intro bo _ hF) | (go_at_call 37; refine (pair_ A [] pa none la 0 ca 0 hA'.out rfl _ (hsA.fr hF) (Sl.nil _ _) (by omega)).mono ?_; rintro _ _ ⟨rfl, hb⟩; rw [List.append_nil]; replace hF := hF.call hb; clear hb) | ((with_reducible apply wpl_store hF 0 (T := 30)); exact rfl; exact rfl; exact rfl; exact info_idl hh.out; (focus (first | (with_reducible rfl) | (rw [bs_length, bs_length, hh.out]; rfl))); exact bs_oneCell _; clear hF; intro _ hF))
  exact post_row hF rfl rfl rfl ⟨0, rfl⟩ Try.underlying30 (info_idl hh.out) ⟨rfl, hF.below⟩
end Go.Proofs.Ytjjkndbkjnfimaa
