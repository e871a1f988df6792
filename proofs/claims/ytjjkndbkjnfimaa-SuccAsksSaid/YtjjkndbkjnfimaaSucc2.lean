/-
  THE WALKS of succ.between, Sorted, Skips.
-/
import Derived.Test.YtjjkndbkjnfimaaIdent
import Derived.Test.YtjjkndbkjnfimaaOf
import Derived.Test.YtjjkndbkjnfimaaSucc1
namespace Go.Proofs.Ytjjkndbkjnfimaa
set_option linter.unusedSimpArgs false
set_option linter.unusedVariables false
open Go.RowKit
attribute [local irreducible] wpQuiet Calls
set_option maxRecDepth 4000

/-- Is node x met, going up from node a, ahead of node b? -/
def nb (a x b : Int) : Bool := btw (nodeId (b8 a)) (nodeId (b8 x)) (nodeId (b8 b))

theorem succBetween (a x b : Int) (w : World) :
    Calls Try.prog 21 #[.int .i64 a, .int .i64 x, .int .i64 b] w fun e w' => e = .returned (.bool (nb a x b)) ∧ Below w.heap.size w w' := by
  have hF := Fr.start w
  go_enter Try.func21, Try.ntmps21
  go_wp2_with (first | (go_at_call 22; refine (identOf _ _).mono ?_; rintro _ _ ⟨rfl, hb⟩; replace hF := hF.call hb; clear hb) | (go_at_call 23; refine (identBetween _ _ _ (nodeId_length _) (nodeId_length _) (nodeId_length _) _).mono ?_; rintro _ _ ⟨rfl, hb⟩; replace hF := hF.call hb; clear hb))
  go_ret
  exact ⟨rfl, hF.below⟩

theorem upTo {p : Nat → Prop} {i : Nat} (h : ∀ j, j < i → p j) (hi : p i) : ∀ j, j < i + 1 → p j := fun j hj => by
  rcases Nat.lt_or_ge j i with h1 | h1
  · exact h j h1
  · obtain rfl : j = i := by omega
    exact hi
def okS (node : Int) (l : List Int) (j : Nat) : Bool := !(l.getD j 0 == node) && (j == 0 || nb node (l.getD (j - 1) 0) (l.getD j 0))
/-- Are they met in order? -/
def sortedOf (node : Int) (l : List Int) : Bool := (List.range l.length).all (okS node l)
theorem sorted_yes {node : Int} {l : List Int} {n : Nat} (hl : l.length = n) (h : ∀ j, j < n → okS node l j = true) : sortedOf node l = true := by
  subst hl
  simp only [sortedOf, List.all_eq_true, List.mem_range]
  exact h
theorem sorted_no {node : Int} {l : List Int} {n : Nat} (hl : l.length = n) {j : Nat} (hj : j < n) (h : okS node l j = false) : sortedOf node l = false := by
  subst hl
  cases hs : sortedOf node l
  · rfl
  · simp only [sortedOf, List.all_eq_true, List.mem_range] at hs
    rw [hs j hj] at h
    cases h

set_option maxHeartbeats 2000000 in
theorem succSorted (node : Int) (l : List Int) (p : Option Addr) (n c : Nat) (hl : l.length = n) (hn : n ≤ 1099511627776) {w : World} (hs : Sl w p (is l)) :
    Calls Try.prog 9 #[.int .i64 node, .slice p n c] w fun e w' => e = .returned (.bool (sortedOf node l)) ∧ Below w.heap.size w w' := by
  have hF := Fr.start w
  have Hl := Lib.hid hl
  clear hl
  go_enter Try.func9, Try.ntmps9
  go_wp2_with (first | fail)
  go_loopw [9] (fun v wr => ∃ i : Nat, i ≤ n ∧ v = .int .i64 i ∧ Hid (∀ j, j < i → okS node l j = true) ∧ Fr w wr []) (fun v _ => n - (intOf v).toNat)
  case atStart => exact ⟨0, by omega, rfl, Lib.hid (fun j h => by omega), hF⟩
  case round =>
    clear hF
    obtain ⟨i, hi, rfl, hok, hF⟩ := hrel
    have d1 : (0 : Int) ≤ (i : Int) := by omega
    by_cases hlt : i < n
    · have d2 : (i : Int) < (n : Int) := by omega
      obtain ⟨x, rfl⟩ := hs.addr (by rw [is_length, Hl.out]; omega)
      have hcell : wr.cell? (x.add i) = some (.int .i64 (l.getD i 0)) := (hs.fr hF).cell (is_get (by rw [Hl.out]; exact hlt))
      obtain ⟨u, hu⟩ : ∃ u, u = l.getD i 0 := ⟨_, rfl⟩
      have Hu := Lib.hid hu
      rw [← hu] at hcell
      clear hu
      by_cases hq : u = node
      · subst hq
        have hno := Lib.hid (sorted_no (node := u) Hl.out hlt (by unfold okS; rw [← Hu.out]; simp))
        go_wp2_with (first | ((with_reducible apply wpl_idxS' (hu := Try.underlying24) (he := info_int)); exact rfl; exact rfl; (focus omega); (focus omega)) | ((with_reducible apply wpl_loadC (T := 3) (hu := Try.underlying3)); exact rfl; (focus (rw [Int.toNat_natCast]; exact hcell))) | go_skip | ((with_reducible refine wpl_unguard ?_ ?_); (focus (go_simp; done))))
        go_ret
        exact ⟨by rw [hno.out] <;> rfl, hF.below⟩
      · have hq1 : (u == node) = false := by simpa using hq
        have hq2 : decide (u = node) = false := by simpa using hq
        rcases Nat.eq_zero_or_pos i with h0 | h0
        · subst h0
          go_wp2_with (first | ((with_reducible apply wpl_idxS' (hu := Try.underlying24) (he := info_int)); exact rfl; exact rfl; (focus omega); (focus omega)) | ((with_reducible apply wpl_loadC (T := 3) (hu := Try.underlying3)); exact rfl; (focus (rw [Int.toNat_natCast]; exact hcell))) | go_skip | ((with_reducible refine wpl_unguard ?_ ?_); (focus (go_simp; done))))
          go_roundw
          case rel => exact ⟨1, by omega, by go_num, Lib.hid (upTo (i := 0) hok.out (by unfold okS; rw [← Hu.out, hq1]; rfl)), hF⟩
          case measure => simp [intOf]; omega
        · have d3 : (0 : Int) < (i : Int) := by omega
          have d4 : (0 : Int) ≤ (i : Int) - 1 := by omega
          have d5 : (i : Int) - 1 < (n : Int) := by omega
          have d6 : ((i : Int) - 1).toNat = i - 1 := by omega
          have d7 : decide (i = 0) = false := by simp; omega
          have hcell2 : wr.cell? (x.add (i - 1)) = some (.int .i64 (l.getD (i - 1) 0)) := (hs.fr hF).cell (is_get (by rw [Hl.out]; omega))
          obtain ⟨v, hv⟩ : ∃ v, v = l.getD (i - 1) 0 := ⟨_, rfl⟩
          have Hv := Lib.hid hv
          rw [← hv] at hcell2
          clear hv
          have hi1 : (i == 0) = false := by simp; omega
          have Hi1 := Lib.hid hi1
          cases hb : nb node v u
          · have hno := Lib.hid (sorted_no (node := node) Hl.out hlt (by unfold okS; rw [← Hu.out, ← Hv.out, hb, hi1, hq1]; rfl))
            clear hi1
            go_wp2_with (first | ((with_reducible apply wpl_idxS' (hu := Try.underlying24) (he := info_int)); exact rfl; exact rfl; (focus omega); (focus omega)) | ((with_reducible apply wpl_loadC (T := 3) (hu := Try.underlying3)); exact rfl; (focus (first | (rw [Int.toNat_natCast]; exact hcell) | (rw [d6]; exact hcell2)))) | go_skip | ((with_reducible refine wpl_unguard ?_ ?_); (focus (go_simp; done))) | (go_at_call 21; refine (succBetween node v u _).mono ?_; rintro _ _ ⟨rfl, hbb⟩; replace hF := hF.call hbb; clear hbb))
            go_ret
            exact ⟨by rw [hno.out] <;> rfl, hF.below⟩
          · have hyes := Lib.hid (show okS node l i = true by unfold okS; rw [← Hu.out, ← Hv.out, hb, hi1, hq1]; rfl)
            clear hi1
            go_wp2_with (first | ((with_reducible apply wpl_idxS' (hu := Try.underlying24) (he := info_int)); exact rfl; exact rfl; (focus omega); (focus omega)) | ((with_reducible apply wpl_loadC (T := 3) (hu := Try.underlying3)); exact rfl; (focus (first | (rw [Int.toNat_natCast]; exact hcell) | (rw [d6]; exact hcell2)))) | go_skip | ((with_reducible refine wpl_unguard ?_ ?_); (focus (go_simp; done))) | (go_at_call 21; refine (succBetween node v u _).mono ?_; rintro _ _ ⟨rfl, hbb⟩; replace hF := hF.call hbb; clear hbb))
            go_roundw
            case rel => exact ⟨i + 1, by omega, by go_num, Lib.hid (upTo hok.out hyes.out), hF⟩
            case measure => simp [intOf]; omega
    · obtain rfl : i = n := by omega
      have d2 : ¬ (i : Int) < (i : Int) := by omega
      have hyes := Lib.hid (sorted_yes Hl.out hok.out)
      go_wp2_with (first | fail)
      go_ret
      exact ⟨by rw [hyes.out] <;> rfl, hF.below⟩

/-- The one ahead of place i. -/
def prevOf (node : Int) (l : List Int) (i : Nat) : Int := if i = 0 then node else l.getD (i - 1) 0
def skipAt (node : Int) (l : List Int) (i : Nat) (b : Nat) : Bool := nb (prevOf node l i) (b : Int) (l.getD i 0)
/-- Does one of the first nodes lie between? -/
def skipsOf (node : Int) (l : List Int) (base : Nat) : Bool := (List.range l.length).any fun i => (List.range base).any fun b => skipAt node l i b
theorem skips_yes {node : Int} {l : List Int} {n base : Nat} (hl : l.length = n) {i b : Nat} (hi : i < n) (hb : b < base) (h : skipAt node l i b = true) : skipsOf node l base = true := by
  subst hl
  simp only [skipsOf, List.any_eq_true, List.mem_range]
  exact ⟨i, hi, b, hb, h⟩
theorem skips_no {node : Int} {l : List Int} {n base : Nat} (hl : l.length = n) (h : ∀ i, i < n → ∀ b, b < base → skipAt node l i b = false) : skipsOf node l base = false := by
  subst hl
  simp only [skipsOf, List.any_eq_false, List.mem_range, Bool.not_eq_true]
  intro i hi
  first | exact h i hi | (simp only [List.any_eq_false, List.mem_range, Bool.not_eq_true]; exact h i hi)

set_option maxHeartbeats 2000000 in
theorem succSkips (node : Int) (l : List Int) (base : Nat) (p : Option Addr) (n c : Nat) (hl : l.length = n) (hn : n ≤ 1099511627776) (hbase : base ≤ 1000) {w : World} (hs : Sl w p (is l)) :
    Calls Try.prog 10 #[.int .i64 node, .slice p n c, .int .i64 base] w fun e w' => e = .returned (.bool (skipsOf node l base)) ∧ Below w.heap.size w w' := by
  have hF := Fr.start w
  have Hl := Lib.hid hl
  clear hl
  go_enter Try.func10, Try.ntmps10
  go_wp2_with (first | fail)
  go_loopw [7, 14] (fun q v wr => ∃ i : Nat, i ≤ n ∧ v = .int .i64 i ∧ q = .int .i64 (prevOf node l i) ∧ Hid (∀ j, j < i → ∀ b, b < base → skipAt node l j b = false) ∧ Fr w wr []) (fun _ v _ => n - (intOf v).toNat)
  case atStart => exact ⟨0, by omega, rfl, rfl, Lib.hid (fun j h => by omega), hF⟩
  case round =>
    clear hF
    obtain ⟨i, hi, rfl, rfl, hok, hF⟩ := hrel
    have d1 : (0 : Int) ≤ (i : Int) := by omega
    by_cases hlt : i < n
    · have d2 : (i : Int) < (n : Int) := by omega
      obtain ⟨x, rfl⟩ := hs.addr (by rw [is_length, Hl.out]; omega)
      have hcell : wr.cell? (x.add i) = some (.int .i64 (l.getD i 0)) := (hs.fr hF).cell (is_get (by rw [Hl.out]; exact hlt))
      obtain ⟨u, hu⟩ : ∃ u, u = l.getD i 0 := ⟨_, rfl⟩
      have Hu := Lib.hid hu
      rw [← hu] at hcell
      clear hu
      obtain ⟨v, hv⟩ : ∃ v, v = prevOf node l i := ⟨_, rfl⟩
      have Hv := Lib.hid hv
      rw [← hv]
      clear hv
      go_wp2_with (first | ((with_reducible apply wpl_idxS' (hu := Try.underlying24) (he := info_int)); exact rfl; exact rfl; (focus omega); (focus omega)) | ((with_reducible apply wpl_loadC (T := 3) (hu := Try.underlying3)); exact rfl; (focus (rw [Int.toNat_natCast]; exact hcell))))
      clear hcell
      obtain ⟨wo, hwo⟩ : ∃ wo : World, wo = wr := ⟨_, rfl⟩
      clear hwo
      go_loopw [19] (fun t wr => ∃ b : Nat, b ≤ base ∧ t = .int .i64 b ∧ Hid (∀ j, j < b → skipAt node l i j = false) ∧ Fr w wr []) (fun t _ => base - (intOf t).toNat)
      case atStart => exact ⟨0, by omega, rfl, Lib.hid (fun j h => by omega), hF⟩
      case round =>
        clear hF
        obtain ⟨b, hb, rfl, hob, hF⟩ := hrel
        have e1 : (0 : Int) ≤ (b : Int) := by omega
        by_cases hlb : b < base
        · have e2 : (b : Int) < (base : Int) := by omega
          cases hnb : nb v b u
          · have hno := Lib.hid (show skipAt node l i b = false by unfold skipAt; rw [← Hu.out, ← Hv.out]; exact hnb)
            go_wp2_with (first | (go_at_call 21; refine (succBetween v b u _).mono ?_; rintro _ _ ⟨rfl, hbb⟩; replace hF := hF.call hbb; clear hbb))
            go_roundw
            case rel => exact ⟨b + 1, by omega, by go_num, Lib.hid (upTo hob.out hno.out), hF⟩
            case measure => simp [intOf]; omega
          · have hyes := Lib.hid (skips_yes (node := node) (base := base) Hl.out hlt hlb (by unfold skipAt; rw [← Hu.out, ← Hv.out]; exact hnb))
            go_wp2_with (first | (go_at_call 21; refine (succBetween v b u _).mono ?_; rintro _ _ ⟨rfl, hbb⟩; replace hF := hF.call hbb; clear hbb))
            go_ret
            exact ⟨by rw [hyes.out] <;> rfl, hF.below⟩
        · obtain rfl : b = base := by omega
          have e2 : ¬ (b : Int) < (b : Int) := by omega
          go_wp2_with (first | fail)
          go_roundw
          case rel => exact ⟨i + 1, by omega, by go_num, by simp [prevOf, Hu.out], Lib.hid (upTo hok.out hob.out), hF⟩
          case measure => simp [intOf]; omega
    · obtain rfl : i = n := by omega
      have d2 : ¬ (i : Int) < (i : Int) := by omega
      have hno := Lib.hid (skips_no Hl.out hok.out)
      go_wp2_with (first | fail)
      go_ret
      exact ⟨by rw [hno.out] <;> rfl, hF.below⟩
end Go.Proofs.Ytjjkndbkjnfimaa
