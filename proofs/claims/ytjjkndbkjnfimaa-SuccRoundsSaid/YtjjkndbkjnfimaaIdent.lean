/-
  THE WALKS of the two packages of places on the ring: what each function computes.
-/
import Derived.Test.YtjjkndbkjnfimaaProg
import Derived.Test.YtjjkndbkjnfimaaNum
import Derived.Laws.Externs
namespace Go.Proofs.Ytjjkndbkjnfimaa
set_option linter.unusedSimpArgs false
set_option linter.unusedVariables false
open Go.RowKit

theorem info_id : (Try.prog.info? 30).map (·.size) = some 32 := by kernel_rfl
theorem info_id' {l : List UInt8} (h : l.length = 32) : (Try.prog.info? 30).map (·.size) = some (bs l).length := by rw [bs_length, h]; exact info_id
theorem info_u8_some : (Try.prog.info? 5).isSome = true := by kernel_rfl
theorem info_u8 : (Try.prog.info? 5).map (·.size) = some 1 := by kernel_rfl
/-- '==' of two ids. -/
@[go_sem] theorem run_eq_id (w : World) (x y : List UInt8) (hx : x.length = 32) (hy : y.length = 32) :
    (Op.equalIn 10000 30 (.agg (bs x).toArray) (.agg (bs y).toArray)).run Try.prog w = .ok (decide (x = y)) w :=
  run_equal_bytes w 9998 Try.underlying30 Try.underlying5 info_u8 x y hx hy

/-! ### The plain functions -/
/-- Is x met, going up from a, ahead of b? -/
def btw (a x b : List UInt8) : Bool :=
  bif decide (a = b) then !decide (x = a) else bif idlt a b then idlt a x && idlt x b else idlt a x || idlt x b

/-! ### latticeref2 -/
set_option maxHeartbeats 400000 in
theorem refLess (a b : List UInt8) (ha : a.length = 32) (hb : b.length = 32) (w : World) :
    Calls Try.prog 27 #[agg a, agg b] w fun e w' => e = .returned (.bool (idlt a b)) ∧ Below w.heap.size w w' := by
  have hF := Fr.start w
  go_enter Try.func27, Try.ntmps27
  go_wp2_with (first | ((with_reducible apply wpl_box (x := Operand.tmp 0) hF); exact rfl; clear hF; intro ba _ hF) | ((with_reducible apply wpl_box (x := Operand.tmp 1) hF); exact rfl; clear hF; intro bb _ hF))
  go_loopw [5] (fun i wr => ∃ k : Nat, k ≤ 32 ∧ i = .int .i64 k ∧ a.take k = b.take k ∧ Fr w wr [⟨ba, bs a, 30⟩, ⟨bb, bs b, 30⟩]) (fun i _ => 32 - (intOf i).toNat)
  case atStart => exact ⟨0, by omega, rfl, rfl, hF⟩
  case round =>
    clear hF
    obtain ⟨k, hk, rfl, ht, hF⟩ := hrel
    by_cases hlt : k < 32
    · have c1 : wr.cell? ⟨ba, k, none⟩ = some (B (gb a k)) := by rw [hF.cell (k := 0) rfl]; exact bs_get (by omega)
      have c2 : wr.cell? ⟨bb, k, none⟩ = some (B (gb b k)) := by rw [hF.cell (k := 1) rfl]; exact bs_get (by omega)
      have h0 : (0 : Int) ≤ (k : Int) := by omega
      have h32 : (k : Int) < 32 := by omega
      have Ht := Lib.hid ht
      clear ht
      by_cases hne : gb a k = gb b k
      · have d1 : decide (gb a k = gb b k) = true := by simpa using hne
        have ht1 := Lib.hid (take_snoc (by omega) (by omega) Ht.out hne)
        clear hne
        go_wp2
        go_quiet (fail)
        replace hF := hF.drewN nq
        go_wp2
        go_roundw
        case rel => exact ⟨k + 1, by omega, by go_num, ht1.out, hF⟩
        case measure => simp [intOf]; omega
      · have d1 : decide (gb a k = gb b k) = false := by simpa using hne
        have hv := Lib.hid (idlt_at a b k (by omega) (by omega) Ht.out hne)
        clear hne
        go_wp2
        go_quiet (fail)
        replace hF := hF.drewN nq
        go_wp2
        go_quiet (fail)
        replace hF := hF.drewN nq
        go_wp2
        go_ret
        exact ⟨by rw [hv.out]; rfl, hF.below⟩
    · have hab : a = b := by rwa [List.take_of_length_le (by omega), List.take_of_length_le (by omega)] at ht
      go_wp2
      go_ret
      exact ⟨by rw [hab, idlt_same]; rfl, hF.below⟩

set_option maxHeartbeats 1000000 in
theorem refBetween (a x b : List UInt8) (ha : a.length = 32) (hx : x.length = 32) (hb : b.length = 32) (w : World) :
    Calls Try.prog 14 #[agg a, agg x, agg b] w fun e w' => e = .returned (.bool (btw a x b)) ∧ Below w.heap.size w w' := by
  have hF := Fr.start w
  cases h1 : decide (a = b) <;> cases h2 : idlt a b <;> cases h3 : idlt a x
  all_goals
    go_enter Try.func14, Try.ntmps14
    go_wp2_with (first | ((with_reducible apply wpl_box (x := Operand.tmp 0) hF); exact rfl; clear hF; intro ba _ hF) | ((with_reducible apply wpl_box (x := Operand.tmp 1) hF); exact rfl; clear hF; intro bx _ hF) | ((with_reducible apply wpl_box (x := Operand.tmp 2) hF); exact rfl; clear hF; intro bb _ hF) | ((with_reducible apply wpl_load hF (T := 30) (hu := Try.underlying30)); exact rfl; (first | exact ⟨0, rfl⟩ | exact ⟨1, rfl⟩ | exact ⟨2, rfl⟩ | exact ⟨3, rfl⟩ | exact ⟨4, rfl⟩ | exact ⟨5, rfl⟩ | exact ⟨6, rfl⟩ | exact ⟨7, rfl⟩ | exact ⟨8, rfl⟩ | exact ⟨9, rfl⟩ | exact ⟨10, rfl⟩ | exact ⟨11, rfl⟩); exact info_id' (by first | assumption | (with_reducible exact zeros_length) | (with_reducible exact addp_length _ _) | (simp only [List.length_set]; assumption))) | go_skip | ((with_reducible refine wpl_unguard ?_ ?_); (focus (go_simp; done))) | (go_at_call 27; refine (refLess _ _ (by assumption) (by assumption) _).mono ?_; rintro _ _ ⟨rfl, hb⟩; replace hF := hF.call hb; clear hb))
    go_ret
    exact ⟨by simp only [btw, h1, h2, h3]; rfl, hF.below⟩

/-! ### ident -/
theorem run_loadBytes {P : Program} (w : World) (b : Nat) : ∀ (l : List UInt8) (o : Nat) (acc : ByteArray), (∀ i, i < l.length → w.cell? ⟨b, o + i, none⟩ = some (B (gb l i))) →
    (Extern.Bytes.loadBytes ⟨b, o, none⟩ l.length acc).run P w = .ok ⟨acc.data ++ l.toArray⟩ w
  | [], o, acc, _ => by simp [Extern.Bytes.loadBytes]
  | x :: xs, o, acc, h => by
    have h0 : w.cell? ⟨b, o, none⟩ = some (B x) := h 0 (by simp)
    have ih := run_loadBytes (P := P) w b xs (o + 1) (acc.push x) (fun i hi => by
      have := h (i + 1) (by simpa using hi)
      rw [show o + 1 + i = o + (i + 1) by omega]
      exact this)
    simp only [List.length_cons, Extern.Bytes.loadBytes, Sem.run_bind, run_load, h0, Result.andThen, Addr.add_lit]
    show Sem.run P (Extern.Bytes.loadBytes ⟨b, o + 1, none⟩ xs.length (acc.push (x.toNat : Int).toNat.toUInt8)) w = _
    rw [show (x.toNat : Int).toNat.toUInt8 = x by simp, ih]
    simp [ByteArray.push]

/-- What bytealg.Compare says of two texts. -/
def cmpI (a b : List UInt8) : Int := Extern.BytealgCompare.cmp ⟨a.toArray⟩ ⟨b.toArray⟩

theorem getBang (l : List UInt8) (i : Nat) (h : i < l.length) : (⟨l.toArray⟩ : ByteArray)[i]! = gb l i := by
  have hs : i < (⟨l.toArray⟩ : ByteArray).size := by simpa [ByteArray.size] using h
  rw [getElem!_pos _ i hs, gb_eq h]
  rfl

theorem cmpI_lt (a b : List UInt8) (h : a.length = b.length) : decide (cmpI a b < 0) = idlt a b := by
  unfold cmpI Extern.BytealgCompare.cmp
  have sa : (⟨a.toArray⟩ : ByteArray).size = a.length := rfl
  have sb : (⟨b.toArray⟩ : ByteArray).size = b.length := rfl
  rw [sa, sb, ← h, Nat.min_self]
  cases hf : (List.range a.length).find? fun i => (⟨a.toArray⟩ : ByteArray)[i]! != (⟨b.toArray⟩ : ByteArray)[i]! with
  | some i =>
    obtain ⟨h1, h2, h3⟩ := List.find?_range_eq_some.1 hf
    have hi : i < a.length := List.mem_range.1 h2
    rw [getBang a i hi, getBang b i (by omega)] at h1
    have ht : a.take i = b.take i := by
      apply List.ext_getElem
      · simp; omega
      · intro j hj1 hj2
        have hji : j < i := by simp at hj1; omega
        have := h3 j hji
        rw [getBang a j (by omega), getBang b j (by omega)] at this
        simp only [bne, Bool.not_not, beq_iff_eq] at this
        rw [List.getElem_take, List.getElem_take, ← gb_eq (by omega), ← gb_eq (by omega), this]
    rw [idlt_at a b i hi h ht (by simpa using h1)]
    simp only [getBang a i hi, getBang b i (by omega)]
    by_cases hlt : gb a i < gb b i
    · simp [hlt]
    · simp [hlt]
  | none =>
    have hn := List.find?_eq_none.1 hf
    have hab : a = b := by
      apply List.ext_getElem h
      intro j hj1 hj2
      have := hn j (List.mem_range.2 hj1)
      rw [getBang a j hj1, getBang b j hj2] at this
      simp only [bne, Bool.not_eq_true, Bool.not_eq_false', beq_iff_eq] at this
      rw [← gb_eq hj1, ← gb_eq hj2, this]
    subst hab
    simp [idlt_same]

theorem run_compare (w : World) (a b : List UInt8) (p q : Nat) (c d : Nat) (hp : ∀ i, i < a.length → w.cell? ⟨p, i, none⟩ = some (B (gb a i))) (hq : ∀ i, i < b.length → w.cell? ⟨q, i, none⟩ = some (B (gb b i))) :
    (Extern.BytealgCompare.compare #[.slice (some ⟨p, 0, none⟩) a.length c, .slice (some ⟨q, 0, none⟩) b.length d]).run Try.prog w = .ok (.int .i64 (cmpI a b)) w := by
  have h1 := run_loadBytes (P := Try.prog) w p a 0 .empty (fun i hi => by simpa using hp i hi)
  have h2 := run_loadBytes (P := Try.prog) w q b 0 .empty (fun i hi => by simpa using hq i hi)
  have e1 : (⟨ByteArray.empty.data ++ a.toArray⟩ : ByteArray) = ⟨a.toArray⟩ := by simp [ByteArray.empty, ByteArray.emptyWithCapacity]; rfl
  have e2 : (⟨ByteArray.empty.data ++ b.toArray⟩ : ByteArray) = ⟨b.toArray⟩ := by simp [ByteArray.empty, ByteArray.emptyWithCapacity]; rfl
  rw [e1] at h1
  rw [e2] at h2
  change Sem.run Try.prog (do
    let x ← Extern.Bytes.bytesOf (.slice (some ⟨p, 0, none⟩) a.length c)
    let y ← Extern.Bytes.bytesOf (.slice (some ⟨q, 0, none⟩) b.length d)
    pure (goInt (Extern.BytealgCompare.cmp x y))) w = _
  simp only [Extern.Bytes.bytesOf, Sem.run_bind, h1, h2, Result.andThen, Sem.run_pure, goInt]
  rfl

@[go_sem] theorem run_call_compare (args : Array Value) (w : World) :
    (callFunc 42 args).run Try.prog w = ((Extern.BytealgCompare.compare args).run Try.prog w).andThen fun v w' => .ok (.value v) w' :=
  run_callFunc_extern Try.func42 (by kernel_rfl) (by kernel_rfl) (by kernel_rfl) (by kernel_rfl) args w

set_option maxHeartbeats 400000 in
theorem bytesCompare (a b : List UInt8) (p q c d n m : Nat) (hn : a.length = n) (hm : b.length = m) (w : World) (hp : ∀ i, i < a.length → w.cell? ⟨p, i, none⟩ = some (B (gb a i))) (hq : ∀ i, i < b.length → w.cell? ⟨q, i, none⟩ = some (B (gb b i))) :
    Calls Try.prog 38 #[.slice (some ⟨p, 0, none⟩) n c, .slice (some ⟨q, 0, none⟩) m d] w fun e w' => e = .returned (.int .i64 (cmpI a b)) ∧ w' = w := by
  have hc := run_compare w a b p q c d hp hq
  rw [hn, hm] at hc
  clear hp hq hn hm
  go_enter Try.func38, Try.ntmps38
  go_wp2
  go_ret
  exact ⟨rfl, rfl⟩

set_option maxHeartbeats 400000 in
theorem identLess (a b : List UInt8) (ha : a.length = 32) (hb : b.length = 32) (w : World) :
    Calls Try.prog 31 #[agg a, agg b] w fun e w' => e = .returned (.bool (idlt a b)) ∧ Below w.heap.size w w' := by
  have hF := Fr.start w
  have hv := Lib.hid (cmpI_lt a b (by omega))
  go_enter Try.func31, Try.ntmps31
  go_wp2_with (first | ((with_reducible apply wpl_box (x := Operand.tmp 0) hF); exact rfl; clear hF; intro ba _ hF) | ((with_reducible apply wpl_box (x := Operand.tmp 1) hF); exact rfl; clear hF; intro bb _ hF))
  go_quiet ((go_at_call 38; exact Calls.quiet_of_same (bytesCompare a b _ _ _ _ _ _ ha hb _ (fun i hi => by rw [(hF.drewN _).cell (k := 0) rfl]; exact bs_get hi) (fun i hi => by rw [(hF.drewN _).cell (k := 1) rfl]; exact bs_get hi))))
  replace hF := hF.drewN nq
  go_wp2
  go_ret
  exact ⟨by rw [← hv.out]; rfl, hF.below⟩

set_option maxHeartbeats 1000000 in
theorem identBetween0 (a x b : List UInt8) (ha : a.length = 32) (hx : x.length = 32) (hb : b.length = 32) (w : World) :
    Calls Try.prog 23 #[agg a, agg x, agg b] w fun e w' => e = .returned (.bool (!decide (x = a) && !decide (x = b) && (decide (a = b) || btw a x b))) ∧ Below w.heap.size w w' := by
  have hF := Fr.start w
  cases h1 : decide (x = a) <;> cases h2 : decide (x = b) <;> cases h3 : decide (a = b) <;> cases h4 : idlt a b <;> cases h5 : idlt a x
  all_goals
    go_enter Try.func23, Try.ntmps23
    go_wp2_with (first | ((with_reducible apply wpl_box (x := Operand.tmp 0) hF); exact rfl; clear hF; intro ba _ hF) | ((with_reducible apply wpl_box (x := Operand.tmp 1) hF); exact rfl; clear hF; intro bx _ hF) | ((with_reducible apply wpl_box (x := Operand.tmp 2) hF); exact rfl; clear hF; intro bb _ hF) | ((with_reducible apply wpl_load hF (T := 30) (hu := Try.underlying30)); exact rfl; (first | exact ⟨0, rfl⟩ | exact ⟨1, rfl⟩ | exact ⟨2, rfl⟩ | exact ⟨3, rfl⟩ | exact ⟨4, rfl⟩ | exact ⟨5, rfl⟩ | exact ⟨6, rfl⟩ | exact ⟨7, rfl⟩ | exact ⟨8, rfl⟩ | exact ⟨9, rfl⟩ | exact ⟨10, rfl⟩ | exact ⟨11, rfl⟩); exact info_id' (by first | assumption | (with_reducible exact zeros_length) | (with_reducible exact addp_length _ _) | (simp only [List.length_set]; assumption))) | go_skip | ((with_reducible refine wpl_unguard ?_ ?_); (focus (go_simp; done))) | (go_at_call 31; refine (identLess _ _ (by assumption) (by assumption) _).mono ?_; rintro _ _ ⟨rfl, hb⟩; replace hF := hF.call hb; clear hb))
    go_ret
    exact ⟨by simp only [btw, h1, h3, h4, h5]; rfl, hF.below⟩

theorem btw_ends (a x b : List UInt8) : (!decide (x = a) && !decide (x = b) && (decide (a = b) || btw a x b)) = btw a x b := by
  by_cases h1 : x = a
  · subst h1
    by_cases h2 : x = b
    · subst h2; simp [btw]
    · cases h3 : idlt x b <;> simp [btw, h2, idlt_same, h3]
  · by_cases h2 : x = b
    · subst h2
      have h1' : ¬ a = x := fun h => h1 h.symm
      cases h3 : idlt a x <;> simp [btw, h1', idlt_same, h3]
    · by_cases h3 : a = b
      · subst h3; simp [btw, h1]
      · simp [h1, h2, h3]

theorem identBetween (a x b : List UInt8) (ha : a.length = 32) (hx : x.length = 32) (hb : b.length = 32) (w : World) :
    Calls Try.prog 23 #[agg a, agg x, agg b] w fun e w' => e = .returned (.bool (btw a x b)) ∧ Below w.heap.size w w' :=
  (identBetween0 a x b ha hx hb w).mono fun _ _ ⟨he, hb⟩ => ⟨by rw [he, btw_ends], hb⟩

end Go.Proofs.Ytjjkndbkjnfimaa
