/-
  THE WALKS of latticelaw15's within and nodes, and of succ.Lead.
-/
import Derived.Test.YtjjkndbkjnfimaaProg
import Derived.Test.YtjjkndbkjnfimaaInts
namespace Go.Proofs.Ytjjkndbkjnfimaa
set_option linter.unusedSimpArgs false
set_option linter.unusedVariables false
open Go.RowKit
attribute [local irreducible] wpQuiet Calls
set_option maxRecDepth 4000

theorem intElem : Elem Try.prog 3 (.int .i64 0) 8 := Elem.of (by kernel_rfl) rfl
theorem info_int : (Try.prog.info? 3).map (·.size) = some 1 := by kernel_rfl

theorem within15 (x n : Int) (h1 : 0 < n) (h2 : n ≤ 1000) (x1 : -9223372036854775808 ≤ x) (x2 : x ≤ 9223372036854775807) (w : World) :
    Calls Try.prog 7 #[.int .i64 x, .int .i64 n] w fun e w' => e = .returned (.int .i64 (x % n)) ∧ w' = w := by
  have hn1 : 1 ≤ n := by omega
  by_cases h0 : 0 ≤ x
  · have m0 : 0 ≤ x % n := Int.emod_nonneg x (by omega)
    have m1 : ¬ x % n < 0 := by omega
    go_enter Try.func7, Try.ntmps7
    go_wp2_with (first | fail)
    go_ret
    exact ⟨rfl, rfl⟩
  · have hb : -n < x.tmod n ∧ x.tmod n ≤ 0 := by
      have h3 := Int.tmod_nonneg (a := -x) n (by omega)
      have h4 := Int.tmod_lt_of_pos (-x) (by omega : 0 < n)
      rw [Int.neg_tmod] at h3 h4
      omega
    have he : x % n = if x.tmod n < 0 then x.tmod n + n else x.tmod n := by
      rw [Int.emod_eq_tmod]
      have hd : n ∣ x ↔ x.tmod n = 0 := Int.dvd_iff_tmod_eq_zero
      by_cases hz : x.tmod n = 0
      · rw [if_pos (Or.inr (hd.2 hz)), if_neg (by omega), hz]; rfl
      · rw [if_neg (fun h => h.elim (fun h => h0 h) (fun h => hz (hd.1 h))), if_pos (by omega)]
        congr 1
        omega
    obtain ⟨r, hr⟩ : ∃ r, r = x.tmod n := ⟨_, rfl⟩
    rw [← hr] at hb he
    have Hr := Lib.hid hr.symm
    have He := Lib.hid he
    obtain ⟨hb1, hb2⟩ := hb
    clear he
    have hr' : x.tmod n = r := hr.symm
    clear hr
    by_cases hlt : r < 0
    · go_enter Try.func7, Try.ntmps7
      go_wp2_with (first | fail)
      go_ret
      exact ⟨by rw [He.out, if_pos (by omega)]; rfl, rfl⟩
    · go_enter Try.func7, Try.ntmps7
      go_wp2_with (first | fail)
      go_ret
      exact ⟨by rw [He.out, if_neg (by omega)]; rfl, rfl⟩

/-- A node is laid ahead of a list. -/
theorem succLead (s : Int) (l : List Int) (p : Option Addr) (n c : Nat) (hl : l.length = n) (hn : n ≤ 1099511627776) {w : World} (hs : Sl w p (is l)) :
    Calls Try.prog 16 #[.int .i64 s, .slice p n c] w fun e w' => ∃ b, e = .returned (.slice (some ⟨b, 0, none⟩) (min (n + 1) 3) (min (n + 1) 3)) ∧ Adds w w' ⟨b, is ((s :: l).take 3), 3⟩ := by
  have hF := Fr.start w
  match l, hl with
  | [], hl =>
    subst hl
    go_enter Try.func16, Try.ntmps16
    go_wp2_with (first | ((with_reducible apply wpl_make hF (ht := Try.underlying24) (he := intElem)); exact rfl; exact rfl; (focus omega); (focus omega); (focus omega); (focus omega); clear hF; intro g _ hF; rw [is_replicate] at hF; replace hF : Fr _ _ [⟨g, is (List.replicate 1 0), 3⟩] := hF) | ((with_reducible apply wpl_storeV hF 0 (T := 3)); exact rfl; exact rfl; exact rfl; exact info_int; exact rfl; exact rfl; clear hF; intro _ hF) | ((with_reducible apply wpl_copy (dst := some 17) hF 0 0 ([]) (hu := Try.underlying24) (hsz := info_int)); exact rfl; exact rfl; exact rfl; (focus (first | omega | (simp [is] <;> omega))); (focus (first | exact rfl | (simp only [Nat.zero_add]; done))); (focus (exact Sl.nil _ _)); (focus (first | exact Nat.le_refl _ | (simp [is] <;> omega))); (focus (first | exact is_oneCell _ | (intro _ h; cases h))); clear hF; intro _ hF))
    go_ret
    exact ⟨g, rfl, hF.adds (by exact List.mem_singleton.2 rfl)⟩
  | [x], hl =>
    subst hl
    go_enter Try.func16, Try.ntmps16
    go_wp2_with (first | ((with_reducible apply wpl_make hF (ht := Try.underlying24) (he := intElem)); exact rfl; exact rfl; (focus omega); (focus omega); (focus omega); (focus omega); clear hF; intro g _ hF; rw [is_replicate] at hF; replace hF : Fr _ _ [⟨g, is (List.replicate 2 0), 3⟩] := hF) | ((with_reducible apply wpl_storeV hF 0 (T := 3)); exact rfl; exact rfl; exact rfl; exact info_int; exact rfl; exact rfl; clear hF; intro _ hF) | ((with_reducible apply wpl_copy (dst := some 17) hF 0 1 (is [x]) (hu := Try.underlying24) (hsz := info_int)); exact rfl; exact rfl; exact rfl; (focus (first | omega | (simp [is] <;> omega))); (focus (first | exact rfl | (simp only [Nat.zero_add]; done))); (focus (exact hs.fr hF)); (focus (first | exact Nat.le_refl _ | (simp [is] <;> omega))); (focus (first | exact is_oneCell _ | (intro _ h; cases h))); clear hF; intro _ hF))
    go_ret
    exact ⟨g, rfl, hF.adds (by exact List.mem_singleton.2 rfl)⟩
  | x :: y :: rest, hl =>
    have h2 : 2 ≤ n := by simp at hl; omega
    have h3 : (3 : Int) ≤ 1 + (n : Int) := by omega
    have h4 : (3 : Int) < 1 + (n : Int) ∨ n = 2 := by omega
    have hm : min (n + 1) 3 = 3 := by omega
    have Hm := Lib.hid hm
    have Hl := Lib.hid hl
    have hs2 : Sl w p (is [x, y]) := hs.take 2
    clear hl hm
    rcases h4 with h4 | h4
    · go_enter Try.func16, Try.ntmps16
      go_wp2_with (first | ((with_reducible apply wpl_make hF (ht := Try.underlying24) (he := intElem)); exact rfl; exact rfl; (focus omega); (focus omega); (focus omega); (focus omega); clear hF; intro g _ hF; rw [is_replicate] at hF; replace hF : Fr _ _ [⟨g, is (List.replicate 3 0), 3⟩] := hF) | ((with_reducible apply wpl_storeV hF 0 (T := 3)); exact rfl; exact rfl; exact rfl; exact info_int; exact rfl; exact rfl; clear hF; intro _ hF) | ((with_reducible apply wpl_copy (dst := some 17) hF 0 1 (is [x, y]) (hu := Try.underlying24) (hsz := info_int)); exact rfl; exact rfl; exact rfl; (focus (first | omega | (simp [is] <;> omega))); (focus (first | exact rfl | (simp only [Nat.zero_add]; done))); (focus (exact hs2.fr hF)); (focus (first | exact Nat.le_refl _ | (simp [is] <;> omega))); (focus (first | exact is_oneCell _ | (intro _ h; cases h))); clear hF; intro _ hF))
      go_ret
      exact ⟨g, by rw [Hm.out]; rfl, hF.adds (by exact List.mem_singleton.2 rfl)⟩
    · subst h4
      go_enter Try.func16, Try.ntmps16
      go_wp2_with (first | ((with_reducible apply wpl_make hF (ht := Try.underlying24) (he := intElem)); exact rfl; exact rfl; (focus omega); (focus omega); (focus omega); (focus omega); clear hF; intro g _ hF; rw [is_replicate] at hF; replace hF : Fr _ _ [⟨g, is (List.replicate 3 0), 3⟩] := hF) | ((with_reducible apply wpl_storeV hF 0 (T := 3)); exact rfl; exact rfl; exact rfl; exact info_int; exact rfl; exact rfl; clear hF; intro _ hF) | ((with_reducible apply wpl_copy (dst := some 17) hF 0 1 (is [x, y]) (hu := Try.underlying24) (hsz := info_int)); exact rfl; exact rfl; exact rfl; (focus (first | omega | (simp [is] <;> omega))); (focus (first | exact rfl | (simp only [Nat.zero_add]; done))); (focus (exact hs2.fr hF)); (focus (first | exact Nat.le_refl _ | (simp [is] <;> omega))); (focus (first | exact is_oneCell _ | (intro _ h; cases h))); clear hF; intro _ hF))
      go_ret
      exact ⟨g, rfl, hF.adds (by exact List.mem_singleton.2 rfl)⟩

/-- The nodes of a list. -/
def nodesOf (l : List Int) : List Int := (l.take 12).map (· % 12)
theorem nodesOf_length (l : List Int) : (nodesOf l).length = min 12 l.length := by simp [nodesOf]
theorem nodes_snoc (l : List Int) (i : Nat) (h : i < l.length) : (l.take (i + 1)).map (· % 12) = (l.take i).map (· % 12) ++ [l.getD i 0 % 12] := by
  rw [List.take_succ_eq_append_getElem h, List.map_append]
  simp [List.getD, h]

set_option maxHeartbeats 1000000 in
theorem nodesNil (c : Nat) (p : Option Addr) (w : World) :
    Calls Try.prog 11 #[.slice p 0 c] w fun e w' => e = .returned (.slice none 0 0) ∧ Below w.heap.size w w' := by
  go_enter Try.func11, Try.ntmps11
  go_wp2_with (first | fail)
  refine wp_loop_rounds 1 ?_
  rw [rounds_succ]
  go_wp2_with (first | fail)
  go_ret
  exact ⟨rfl, Below.refl _ _⟩

def NodesPost (l : List Int) (n : Nat) (w : World) (e : Ending) (w' : World) : Prop := ∃ b cap tt, e = .returned (.slice (some ⟨b, 0, none⟩) (min 12 n) cap) ∧ cap = min 12 n + tt.length ∧ Adds w w' ⟨b, is (nodesOf l) ++ tt, 3⟩

set_option maxHeartbeats 2000000 in
theorem nodesCons (l : List Int) (x : Addr) (n c : Nat) (hl : l.length = n) (h0 : 0 < n) (hn : n ≤ 35184372088832) (hw : ∀ z ∈ l, -9223372036854775808 ≤ z ∧ z ≤ 9223372036854775807) {w : World} (hs : Sl w (some x) (is l)) :
    Calls Try.prog 11 #[.slice (some x) n c] w (NodesPost l n w) := by
  have hF := Fr.start w
  have Hl := Lib.hid hl
  have Hw := Lib.hid hw
  clear hl hw
  go_enter Try.func11, Try.ntmps11
  go_wp2_with (first | fail)
  go_loopw [3, 4] (fun v t wr => ∃ (i : Nat), i ≤ n ∧ i ≤ 12 ∧ t = .int .i64 i ∧ ((i = 0 ∧ v = .slice none 0 0 ∧ Fr w wr []) ∨ (0 < i ∧ ∃ (b c' : Nat) (tt : List Value), v = .slice (some ⟨b, 0, none⟩) i c' ∧ c' ≤ i + tt.length ∧ i + tt.length ≤ c' ∧ Fr w wr [⟨b, is ((l.take i).map (· % 12)) ++ tt, 3⟩]))) (fun _ t _ => (12 - intOf t).toNat)
  case atStart => exact ⟨0, by omega, by omega, rfl, .inl ⟨rfl, rfl, hF⟩⟩
  case round =>
    clear hF
    obtain ⟨i, hi, hi12, rfl, hF⟩ := hrel
    have d1 : (0 : Int) ≤ (i : Int) := by omega
    by_cases hlt : i < n
    · have d2 : (i : Int) < (n : Int) := by omega
      by_cases hlt2 : i < 12
      · have d3 : (i : Int) < 12 := by omega
        have hwi : -9223372036854775808 ≤ l.getD i 0 ∧ l.getD i 0 ≤ 9223372036854775807 := by
          have hil : i < l.length := by rw [Hl.out]; exact hlt
          have : l.getD i 0 = l[i] := by simp [List.getD, hil]
          rw [this]
          exact Hw.out _ (List.getElem_mem hil)
        have Hwi := Lib.hid hwi
        have hsn := nodes_snoc l i (by rw [Hl.out]; exact hlt)
        have Hsn := Lib.hid hsn
        clear hwi hsn
        rcases hF with ⟨h00, rfl, hF⟩ | ⟨h00, b, c', tt, rfl, hc1, hc2, hF⟩
        · subst h00
          have hcell : wr.cell? (x.add 0) = some (.int .i64 (l.getD 0 0)) := (hs.fr hF).cell (is_get (by rw [Hl.out]; exact h0))
          go_wp2_with (first | ((with_reducible apply wpl_idxS' (hu := Try.underlying24) (he := info_int)); exact rfl; exact rfl; (focus omega); (focus omega)) | ((with_reducible apply wpl_loadC (T := 3) (hu := Try.underlying3)); exact rfl; exact hcell) | (go_at_call 7; refine (within15 _ _ (by omega) (by omega) Hwi.out.1 Hwi.out.2 _).mono ?_; rintro _ _ ⟨rfl, hww⟩; subst hww) | ((with_reducible apply wpl_push_nil hF (is [l.getD 0 0 % 12]) (ht := Try.underlying24) (he := intElem)); (focus (intro _; exact rfl)); (focus (intro _; exact rfl)); (focus (first | exact rfl | kernel_rfl)); exact rfl; (focus omega); (focus omega); exact is_oneCell _; (focus omega); clear hF; intro bt ct tt _ _ hct hF; have hct1 := Nat.le_of_eq hct; have hct2 := Nat.le_of_eq hct.symm; clear hct))
          go_roundw
          case rel => exact ⟨1, by omega, by omega, by go_num, .inr ⟨by omega, bt, ct, tt, rfl, by omega, by omega, by rw [Hsn.out]; exact hF⟩⟩
          case measure => simp [intOf]
        · have hcell : wr.cell? (x.add i) = some (.int .i64 (l.getD i 0)) := (hs.fr hF).cell (is_get (by rw [Hl.out]; exact hlt))
          have Hl1 : Hid ((is ((l.take i).map (· % 12))).length = i) := Lib.hid (by rw [is_length, List.length_map, List.length_take, Hl.out]; omega)
          go_wp2_with (first | ((with_reducible apply wpl_idxS' (hu := Try.underlying24) (he := info_int)); exact rfl; exact rfl; (focus omega); (focus omega)) | ((with_reducible apply wpl_loadC (T := 3) (hu := Try.underlying3)); exact rfl; (focus (rw [Int.toNat_natCast]; exact hcell))) | (go_at_call 7; refine (within15 _ _ (by omega) (by omega) Hwi.out.1 Hwi.out.2 _).mono ?_; rintro _ _ ⟨rfl, hww⟩; subst hww) | ((with_reducible apply wpl_push hF 0 (is ((l.take i).map (· % 12))) tt (is [l.getD i 0 % 12]) (ht := Try.underlying24) (he := intElem)); (focus (intro _; exact rfl)); (focus (first | exact rfl | kernel_rfl)); (focus (intro _; exact rfl)); exact Hl1.out; (focus omega); (focus (first | exact rfl | kernel_rfl)); exact rfl; (focus omega); exact is_oneCell _; (focus omega); (focus (unfold maxLen; omega)); clear hF; intro bt ct tt _ _ hct hF; have hct1 := Nat.le_of_eq hct; have hct2 := Nat.le_of_eq hct.symm; clear hct))
          rw [← is_append, ← Hsn.out] at hF
          go_roundw
          case rel => exact ⟨i + 1, by omega, by omega, by go_num, .inr ⟨by omega, bt, ct, tt, rfl, by omega, by omega, hF⟩⟩
          case measure => simp [intOf]; omega
      · obtain rfl : i = 12 := by omega
        rcases hF with ⟨h00, _⟩ | ⟨_, b, c', tt, rfl, hc1, hc2, hF⟩
        · omega
        · have hm : min 12 n = 12 := by omega
          have Hm := Lib.hid hm
          clear hm
          go_wp2_with (first | fail)
          go_ret
          unfold NodesPost
          exact ⟨b, c', tt, by rw [Hm.out]; rfl, by rw [Hm.out]; omega, hF.adds (by exact List.mem_singleton.2 rfl)⟩
    · obtain rfl : i = n := by omega
      have d2 : ¬ (i : Int) < (i : Int) := by omega
      rcases hF with ⟨h00, _⟩ | ⟨_, b, c', tt, rfl, hc1, hc2, hF⟩
      · omega
      · have hm : min 12 i = i := by omega
        have Hm := Lib.hid hm
        have htk : l.take i = l.take 12 := by rw [List.take_of_length_le (by rw [Hl.out]; omega), List.take_of_length_le (by rw [Hl.out]; omega)]
        have Htk := Lib.hid htk
        clear hm htk
        go_wp2_with (first | fail)
        go_ret
        have hF' : Fr w wr [⟨b, is (nodesOf l) ++ tt, 3⟩] := by
          unfold nodesOf
          rw [← Htk.out]
          exact hF
        unfold NodesPost
        exact ⟨b, c', tt, by rw [Hm.out]; rfl, by rw [Hm.out]; omega, hF'.adds (List.mem_singleton.2 rfl)⟩

theorem known15 (w : World) : Calls Try.prog 6 #[] w fun e w' => e = .returned (.bool true) ∧ Below w.heap.size w w' := by
  have hF := Fr.start w
  go_enter Try.func6, Try.ntmps6
  go_wp2_with (first | (go_at_call 16; refine (succLead 1 [] none 0 0 rfl (by omega) (Sl.nil _ _)).mono ?_; rintro _ _ ⟨b, rfl, ha⟩; replace hF := hF.adopt ha; clear ha) | ((with_reducible apply wpl_loadV hF (T := 3) (hu := Try.underlying3)); exact rfl; (first | exact ⟨0, rfl⟩ | exact ⟨1, rfl⟩ | exact ⟨2, rfl⟩ | exact ⟨3, rfl⟩ | exact ⟨4, rfl⟩ | exact ⟨5, rfl⟩ | exact ⟨6, rfl⟩ | exact ⟨7, rfl⟩ | exact ⟨8, rfl⟩ | exact ⟨9, rfl⟩ | exact ⟨10, rfl⟩ | exact ⟨11, rfl⟩); exact rfl) | go_skip | ((with_reducible refine wpl_unguard ?_ ?_); (focus (go_simp; done))))
  go_ret
  exact ⟨rfl, hF.below⟩
end Go.Proofs.Ytjjkndbkjnfimaa
