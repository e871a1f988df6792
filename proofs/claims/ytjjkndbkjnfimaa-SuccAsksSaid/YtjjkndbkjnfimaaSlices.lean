/-
  THE WALKS of slices.Index, Contains, Insert at []int.
-/
import Derived.Test.YtjjkndbkjnfimaaSucc1
import Derived.Test.YtjjkndbkjnfimaaStores3
import Derived.Test.YtjjkndbkjnfimaaAppMake
import Derived.Lib.Overlaps
namespace Go.Proofs.Ytjjkndbkjnfimaa
set_option linter.unusedSimpArgs false
set_option linter.unusedVariables false
open Go.RowKit
attribute [local irreducible] wpQuiet Calls
set_option maxRecDepth 4000

theorem upToS {p : Nat → Prop} {i : Nat} (h : ∀ j, j < i → p j) (hi : p i) : ∀ j, j < i + 1 → p j := fun j hj => by
  rcases Nat.lt_or_ge j i with h1 | h1
  · exact h j h1
  · obtain rfl : j = i := by omega
    exact hi
def IndexPost (x : Int) (l : List Int) (w : World) (e : Ending) (w' : World) : Prop := ∃ r : Int, e = .returned (.int .i64 r) ∧ decide (0 ≤ r) = decide (x ∈ l) ∧ Below w.heap.size w w'
set_option maxHeartbeats 1000000 in
theorem slIndex (x : Int) (l : List Int) (p : Option Addr) (n c : Nat) (hl : l.length = n) (hn : n ≤ 1099511627776) {w : World} (hs : Sl w p (is l)) :
    Calls Try.prog 32 #[.slice p n c, .int .i64 x] w (IndexPost x l w) := by
  have hF := Fr.start w
  have Hl := Lib.hid hl
  clear hl
  go_enter Try.func32, Try.ntmps32
  go_wp2_with (first | fail)
  go_loopw [8] (fun v wr => ∃ i : Nat, i ≤ n ∧ v = .int .i64 i ∧ Hid (∀ j, j < i → ¬ l.getD j 0 = x) ∧ Fr w wr []) (fun v _ => n - (intOf v).toNat)
  case atStart => exact ⟨0, by omega, rfl, Lib.hid (fun j h => by omega), hF⟩
  case round =>
    clear hF
    obtain ⟨i, hi, rfl, hok, hF⟩ := hrel
    have d1 : (0 : Int) ≤ (i : Int) := by omega
    by_cases hlt : i < n
    · have d2 : (i : Int) < (n : Int) := by omega
      obtain ⟨y, rfl⟩ := hs.addr (by rw [is_length, Hl.out]; omega)
      have hcell : wr.cell? (y.add i) = some (.int .i64 (l.getD i 0)) := (hs.fr hF).cell (is_get (by rw [Hl.out]; exact hlt))
      obtain ⟨u, hu⟩ : ∃ u, u = l.getD i 0 := ⟨_, rfl⟩
      have Hu := Lib.hid hu
      rw [← hu] at hcell
      clear hu
      by_cases hq : x = u
      · subst hq
        have hmem : x ∈ l := by
          have hil : i < l.length := by rw [Hl.out]; exact hlt
          have := Hu.out
          rw [this]
          simp [List.getD, hil]
        have Hmem := Lib.hid hmem
        clear hmem
        go_wp2_with (first | ((with_reducible apply wpl_idxS' (hu := Try.underlying24) (he := info_int)); exact rfl; exact rfl; (focus omega); (focus omega)) | ((with_reducible apply wpl_loadC (T := 3) (hu := Try.underlying3)); exact rfl; (focus (rw [Int.toNat_natCast]; exact hcell))) | go_skip | ((with_reducible refine wpl_unguard ?_ ?_); (focus (go_simp; done))))
        go_ret
        exact ⟨i, rfl, by have := Hmem.out; simp [this], hF.below⟩
      · have hq1 : (x == u) = false := by simpa using hq
        have hq2 : decide (x = u) = false := by simpa using hq
        have hno := Lib.hid (show ¬ l.getD i 0 = x by rw [← Hu.out]; exact fun h => hq h.symm)
        go_wp2_with (first | ((with_reducible apply wpl_idxS' (hu := Try.underlying24) (he := info_int)); exact rfl; exact rfl; (focus omega); (focus omega)) | ((with_reducible apply wpl_loadC (T := 3) (hu := Try.underlying3)); exact rfl; (focus (rw [Int.toNat_natCast]; exact hcell))) | go_skip | ((with_reducible refine wpl_unguard ?_ ?_); (focus (go_simp; done))))
        go_roundw
        case rel => exact ⟨i + 1, by omega, by go_num, Lib.hid (upToS hok.out hno.out), hF⟩
        case measure => simp [intOf]; omega
    · obtain rfl : i = n := by omega
      have d2 : ¬ (i : Int) < (i : Int) := by omega
      have hmem : ¬ x ∈ l := fun h => by
        obtain ⟨j, hj, e⟩ := List.mem_iff_getElem.1 h
        exact hok.out j (by rw [← Hl.out]; exact hj) (by simp [List.getD, hj, e])
      have Hmem := Lib.hid hmem
      clear hmem
      go_wp2_with (first | fail)
      go_ret
      exact ⟨-1, rfl, by have := Hmem.out; simp [this], hF.below⟩

theorem slContains (x : Int) (l : List Int) (p : Option Addr) (n c : Nat) (hl : l.length = n) (hn : n ≤ 1099511627776) {w : World} (hs : Sl w p (is l)) :
    Calls Try.prog 24 #[.slice p n c, .int .i64 x] w fun e w' => e = .returned (.bool (decide (x ∈ l))) ∧ Below w.heap.size w w' := by
  have hF := Fr.start w
  go_enter Try.func24, Try.ntmps24
  go_wp2_with (first | (go_at_call 32; refine (slIndex x l p n c hl hn (hs.fr hF)).mono ?_; rintro _ _ ⟨r, rfl, hr, hb⟩; replace hF := hF.call hb; clear hb))
  go_ret
  exact ⟨by rw [← hr] <;> rfl, hF.below⟩

/-! ### Insert -/
theorem Fr.toFront {w0 w : World} {L : List Blk} {x : Blk} (h : Fr w0 w (L ++ [x])) : Fr w0 w (x :: L) := by
  refine h.take (fun y hy => ?_) ?_
  · rcases List.mem_cons.1 hy with rfl | hy
    · exact List.mem_append_right _ (List.mem_singleton.2 rfl)
    · exact List.mem_append_left _ hy
  · have := h.apart
    rw [List.map_append, List.map_cons, List.map_nil] at this
    rw [List.map_cons, List.nodup_cons]
    rw [List.nodup_append] at this
    obtain ⟨h1, _, h2⟩ := this
    exact ⟨fun hm => h2 _ hm _ (List.mem_singleton.2 rfl) rfl, h1⟩
section
variable {P : Program} {ops : Array Oper} {rest : List Oper} {Q : Exit → Act → World → Prop} {a : Act} {w0 w : World} {L : List Blk}
/-- 'append(s, make([]T, n)...)' where there is no room: a new row; s stays. -/
theorem wpl_appendMake_grow (hF : Fr w0 w L) (xs : List Value) {dst : Option Tmp} {s x : Operand} {t tx ty : TypeId} {pos : String} {after : Array Edge} {e : TypeId} {z : Value} {bytes : Nat} (ht : P.underlying t = some (.slice e)) (htx : P.underlying tx = some (.int .i64)) (he : Elem P e z bytes)
    {y : Addr} {m cap : Nat} {n : Int} (hsv : a.eval s = .slice (some y) m cap) (hs : Sl w (some y) xs) (hm : xs.length = m) (hmc : m ≤ cap)
    (hxv : a.eval x = .int .i64 n) (hn0 : 0 < n) (hn1 : n ≤ 1000000) (hno : (cap : Int) < m + n)
    (hbytes : (m + 1000000) * bytes ≤ 140737488355328) (h63 : m ≤ 1000000000)
    (h : ∀ b' cap' tail' w', cap' = m + n.toNat + tail'.length → Fr w0 w' (⟨b', xs ++ List.replicate n.toNat (z.cells[0]!) ++ tail', e⟩ :: L) → wpList P ops Q rest (a.put dst (.slice (some ⟨b', 0, none⟩) (m + n.toNat) cap')) w') :
    wpList P ops Q (⟨dst, .call { callee := .builtin .append, args := #[s, x], argTypes := #[t, tx] }, ty, pos, after, none⟩ :: rest) a w := by
  subst hm
  obtain ⟨n, rfl⟩ : ∃ k : Nat, n = (k : Int) := ⟨n.toNat, by omega⟩
  rw [Int.toNat_natCast] at h
  obtain ⟨i, hi, hz, hsz, hby⟩ := he.info
  have hb2 : (xs.length + n) * bytes ≤ (xs.length + 1000000) * bytes := Nat.mul_le_mul_right _ (by omega)
  have wl : IntKind.i64.wrap (n : Int) = (n : Int) := IntWalk.i64_in _ (by omega)
  have n1 : ¬ ((n : Int) < 0) := by omega
  have hnb : n * bytes ≤ (xs.length + n) * bytes := Nat.mul_le_mul_right _ (by omega)
  have n2 : ¬ ((281474976710656 : Int) < (n : Int) * (bytes : Int)) := by
    have h : ((n * bytes : Nat) : Int) ≤ 140737488355328 := by omega
    rw [Int.natCast_mul] at h
    omega
  have n3 : ¬ (n = 0) := by omega
  have hold := run_firstCells_some (P := P) w.drew i.size xs.length y xs.length cap xs (by simp [hsz]) (fun j v hv => by
    rw [World.cell?_drew]
    exact hs.cell hv)
  have hfit := growslice_fits (need := xs.length + n) (old := cap) (bytes := bytes) (by omega) (by omega)
  have hge := grownCap_ge w (xs.length + n) cap e
  have h63' : ¬ (9223372036854775807 < ((xs.length : Int) + (n : Int))) := by omega
  have h48' : ¬ (281474976710656 < Builtin.nextslicecap (xs.length + n) cap * bytes) := by omega
  have hroom : ¬ (xs.length + n ≤ cap) := by omega
  rw [hsz] at hold
  obtain ⟨G, hG⟩ : ∃ G, G = grownCap w (xs.length + n) cap e := ⟨_, rfl⟩
  rw [← hG] at hge
  have hc : xs.length + n + (List.replicate (G - (xs.length + n)) (z.cells[0]!)).length = G := by simp; omega
  have hr : (Builtin.append_ #[t, tx] ty #[.slice (some y) xs.length cap, .int .i64 (n : Int)]).run P w = .ok (.slice (some ⟨w.heap.size, 0, none⟩) (xs.length + n) G) (w.drew.alloc (.cells (xs ++ List.replicate n (z.cells[0]!) ++ List.replicate (G - (xs.length + n)) (z.cells[0]!)).toArray e)) := by
    rw [hG]
    simp [Builtin.append_, run_underlying ht, run_underlying htx, sizeOf, typeInfo, hi, asInt, asIntOf, wl, n1, hby, n2, n3, hsz, zeroValue, hz, hroom, h63', h48', Question.forced, hold, newRow, grownCap, zeroCells_one he.one]
    congr 1; congr 1; apply Array.ext'; simp
  refine wpList_plain rfl fun K hK => ?_
  unfold Oper.wp
  simp only [execOp, resolve, invoke, builtin, Sem.run_bind, Sem.run_pure, Result.andThen_ok, List.map_toArray, List.map_cons, List.map_nil, hsv, hxv, hr]
  refine hK _ _ ?_
  exact h _ G (List.replicate (G - (xs.length + n)) (z.cells[0]!)) _ hc.symm (hF.drew.alloc (xs ++ List.replicate n (z.cells[0]!) ++ List.replicate (G - (xs.length + n)) (z.cells[0]!)) e).toFront
end

@[go_sem] theorem run_call_overlaps (args : Array Value) (w : World) :
    (callFunc 33 args).run Try.prog w = ((Extern.SlicesOverlaps.overlaps #[24, 24] #[4] args).run Try.prog w).andThen fun v w' => .ok (.value v) w' :=
  run_callFunc_extern Try.func33 (by kernel_rfl) (by kernel_rfl) (by kernel_rfl) (e := Extern.SlicesOverlaps.overlaps #[24, 24] #[4]) (by kernel_rfl) args w
theorem intSize (w : World) : (Go.sizeOf 3).run Try.prog w = .ok 1 w := by
  have h := info_int
  cases hq : Try.prog.info? 3 with
  | none => rw [hq] at h; simp at h
  | some i =>
    rw [hq] at h
    have hs : i.size = 1 := by simpa using h
    simp [sizeOf, typeInfo, hq, hs]
/-- 'overlaps' of two own blocks. -/
theorem run_overlaps_own {w0 w : World} {b vb k : Nat} {cs ds : List Value} {R : List Blk} (hF : Fr w0 w (⟨b, cs, 3⟩ :: ⟨vb, ds, 3⟩ :: R)) (h0 : 0 < cs.length) (la ca lb cb : Nat) :
    (Extern.SlicesOverlaps.overlaps #[24, 24] #[4] #[.slice (some ⟨vb, 0, none⟩) la ca, .slice (some ⟨b, k, none⟩) lb cb]).run Try.prog w = .ok (.bool false) w := by
  have hne : vb ≠ b := by
    have := hF.apart
    simp only [List.map_cons, List.nodup_cons, List.mem_cons, not_or] at this
    exact fun e => this.1.1 e.symm
  refine Lib.run_overlaps_apart w 24 4 3 Try.underlying24 1 intSize ⟨vb, 0, none⟩ ⟨b, k, none⟩ la ca lb cb hne 3 3 ds.length cs.length ?_ ?_ (by omega) (hF.free (k := 1) rfl 0) (hF.free (k := 1) rfl ds.length)
  · have := hF.row (k := 1) rfl
    simp [World.shape?, this]
  · have := hF.row (k := 0) rfl
    simp [World.shape?, this]

def InsPost (x : Int) (l : List Int) (i : Nat) (vb : Nat) (R : List Blk) (w0 : World) (e : Ending) (w' : World) : Prop := ∃ (b' c' : Nat) (tt : List Value), e = .returned (.slice (some ⟨b', 0, none⟩) (l.length + 1) c') ∧ c' = l.length + 1 + tt.length ∧ Fr w0 w' (⟨b', is (l.take i ++ [x] ++ l.drop i) ++ tt, 3⟩ :: ⟨vb, is [x], 3⟩ :: R)

set_option maxHeartbeats 2000000 in
theorem slInsert_nil (x : Int) (c vb : Nat) (R : List Blk) {w0 w : World} (hF : Fr w0 w (⟨vb, is [x], 3⟩ :: R)) :
    Calls Try.prog 25 #[.slice none 0 0, .int .i64 0, .slice (some ⟨vb, 0, none⟩) 1 1] w (InsPost x [] 0 vb R w0) := by
  go_enter Try.func25, Try.ntmps25
  go_wp2_with (first | ((with_reducible apply wpl_cut_loG (lo := 0) (hu := Try.underlying24) (he := info_int)); exact rfl; exact rfl; (focus omega); (focus omega); intro q hsq) | ((with_reducible apply wpl_append_nil hF (is [x]) (ht := Try.underlying24) (he := intElem)); exact rfl; exact rfl; exact rfl; (focus (exact Sl.whole hF ⟨0, rfl⟩)); exact is_oneCell _; (focus omega); (focus omega); (focus (unfold maxLen; omega)); clear hF; intro bt ct t1 _ hct hF; have hct1 := Nat.le_of_eq hct; have hct2 := Nat.le_of_eq hct.symm; clear hct))
  go_ret
  unfold InsPost
  exact ⟨bt, ct, t1, rfl, by simp only [List.length_nil]; omega, hF.toFront⟩

set_option maxHeartbeats 2000000 in
theorem slInsert_end (x : Int) (l : List Int) (n c b vb : Nat) (tl : List Value) (R : List Blk) (hl : l.length = n) (hn : n ≤ 1000) (hc : c = n + tl.length) {w0 w : World} (hF : Fr w0 w (⟨b, is l ++ tl, 3⟩ :: ⟨vb, is [x], 3⟩ :: R)) :
    Calls Try.prog 25 #[.slice (some ⟨b, 0, none⟩) n c, .int .i64 n, .slice (some ⟨vb, 0, none⟩) 1 1] w (InsPost x l n vb R w0) := by
  have Hl := Lib.hid hl
  have hc1 := Nat.le_of_eq hc
  have hc2 := Nat.le_of_eq hc.symm
  clear hl hc
  go_enter Try.func25, Try.ntmps25
  go_wp2_with (first | ((with_reducible apply wpl_cut_loG (hu := Try.underlying24) (he := info_int)); exact rfl; exact rfl; (focus omega); (focus omega); intro q hsq) | ((with_reducible apply wpl_append hF 0 (is l) tl (is [x]) (ht := Try.underlying24) (he := intElem)); exact rfl; exact rfl; (focus (rw [is_length]; exact Hl.out)); (focus omega); exact rfl; exact rfl; (focus (exact Sl.whole hF ⟨1, rfl⟩)); exact is_oneCell _; (focus omega); (focus (unfold maxLen; omega)); clear hF; intro bt ct t1 _ hct hF; have hct1 := Nat.le_of_eq hct; have hct2 := Nat.le_of_eq hct.symm; clear hct))
  go_ret
  unfold InsPost
  rw [Hl.out]
  refine ⟨bt, ct, t1, rfl, by omega, ?_⟩
  rw [List.take_of_length_le (by rw [Hl.out]; omega), List.drop_eq_nil_of_le (by rw [Hl.out]; omega), List.append_nil, is_append]
  exact hF

theorem splice_grow (l : List Int) (x : Int) (i : Nat) (tl : List Value) (hi : i ≤ l.length) :
    splice (splice (is (l.take i) ++ List.replicate (l.length + 1 - i) (Value.int .i64 0) ++ tl) i (is [x])) (i + 1) (is (l.drop i)) = is (l.take i ++ [x] ++ l.drop i) ++ tl := by
  have h1 : (is (l.take i)).length = i := by rw [is_length, List.length_take]; omega
  have h2 : (is (l.drop i)).length = l.length - i := by rw [is_length, List.length_drop]
  obtain ⟨m, hm⟩ : ∃ m, l.length + 1 - i = m + 1 := ⟨l.length - i, by omega⟩
  unfold splice
  rw [hm, List.replicate_succ, h2]
  have e1 : (is (l.take i) ++ Value.int .i64 0 :: List.replicate m (Value.int .i64 0) ++ tl).take i = is (l.take i) := by
    rw [List.append_assoc, List.take_left' h1]
  have e2 : (is (l.take i) ++ Value.int .i64 0 :: List.replicate m (Value.int .i64 0) ++ tl).drop (i + (is [x]).length) = List.replicate m (Value.int .i64 0) ++ tl := by
    rw [List.append_assoc, List.drop_append, List.drop_eq_nil_of_le (by rw [h1]; simp [is]), h1]
    simp [is]
  rw [e1, e2]
  have e3 : (is (l.take i) ++ (is [x] ++ (List.replicate m (Value.int .i64 0) ++ tl))).take (i + 1) = is (l.take i) ++ is [x] := by
    rw [← List.append_assoc]
    exact List.take_left' (by rw [List.length_append, h1]; rfl)
  have e4 : (is (l.take i) ++ (is [x] ++ (List.replicate m (Value.int .i64 0) ++ tl))).drop (i + 1 + (l.length - i)) = tl := by
    have h3 : (is (l.take i) ++ (is [x] ++ List.replicate m (Value.int .i64 0))).length = i + 1 + (l.length - i) := by
      simp only [List.length_append, h1, List.length_replicate]
      simp [is]; omega
    rw [show is (l.take i) ++ (is [x] ++ (List.replicate m (Value.int .i64 0) ++ tl)) = (is (l.take i) ++ (is [x] ++ List.replicate m (Value.int .i64 0))) ++ tl by simp only [List.append_assoc]]
    exact List.drop_left' h3
  rw [e3, e4, is_append, is_append]
  simp only [List.append_assoc]
theorem splice_shift (l : List Int) (x : Int) (i : Nat) (v : Value) (tl : List Value) (hi : i ≤ l.length) :
    splice (splice (is l ++ v :: tl) (i + 1) (is (l.drop i))) i (is [x]) = is (l.take i ++ [x] ++ l.drop i) ++ tl := by
  have h1 : (is (l.take i)).length = i := by rw [is_length, List.length_take]; omega
  have h2 : (is (l.drop i)).length = l.length - i := by rw [is_length, List.length_drop]
  have h0 : is l = is (l.take i) ++ is (l.drop i) := by rw [← is_append, List.take_append_drop]
  have hlen : (splice (is l ++ v :: tl) (i + 1) (is (l.drop i))).length = l.length + 1 + tl.length := by
    rw [length_splice _ _ _ (by rw [h2]; simp [is_length]; omega)]
    simp [is_length]; omega
  have hcut : (is l ++ v :: tl).drop (i + 1 + (is (l.drop i)).length) = tl := by
    rw [h2, show i + 1 + (l.length - i) = l.length + 1 by omega, show is l ++ v :: tl = (is l ++ [v]) ++ tl by simp]
    exact List.drop_left' (by simp [is_length])
  obtain ⟨y, hy⟩ : ∃ y, (is l ++ v :: tl).take (i + 1) = is (l.take i) ++ [y] := by
    have hl : ((is l ++ v :: tl).drop i).length ≠ 0 := by simp [is_length]; omega
    obtain ⟨y, ys, hys⟩ := List.exists_cons_of_length_pos (Nat.pos_of_ne_zero hl)
    refine ⟨y, ?_⟩
    rw [List.take_add_one, List.take_append_of_le_length (by rw [is_length]; exact hi), is_take, ← List.head?_drop, hys]
    rfl
  unfold splice
  have hin : ((is l ++ v :: tl).take (i + 1) ++ (is (l.drop i) ++ (is l ++ v :: tl).drop (i + 1 + (is (l.drop i)).length))) = is (l.take i) ++ ([y] ++ (is (l.drop i) ++ tl)) := by
    rw [hcut, hy]; simp only [List.append_assoc]
  rw [hin, List.take_left' h1]
  have hd : (is (l.take i) ++ ([y] ++ (is (l.drop i) ++ tl))).drop (i + (is [x]).length) = is (l.drop i) ++ tl := by
    rw [← List.append_assoc]
    exact List.drop_left' (by rw [List.length_append, h1]; rfl)
  rw [hd, is_append, is_append]
  simp only [List.append_assoc]

set_option maxHeartbeats 4000000 in
theorem slInsert_grow (x : Int) (l : List Int) (n i c b vb : Nat) (tl : List Value) (R : List Blk) (hl : l.length = n) (hi : i < n) (hn : n ≤ 1000) (hc : c = n + tl.length) (hno : c < n + 1) {w0 w : World} (hF : Fr w0 w (⟨b, is l ++ tl, 3⟩ :: ⟨vb, is [x], 3⟩ :: R)) :
    Calls Try.prog 25 #[.slice (some ⟨b, 0, none⟩) n c, .int .i64 i, .slice (some ⟨vb, 0, none⟩) 1 1] w (InsPost x l i vb R w0) := by
  have Hl := Lib.hid hl
  have hc0 : n ≤ c := by omega
  have h3 : i ≤ l.length := by omega
  have Hsp := Lib.hid (fun t => splice_grow l x i t h3)
  clear hl hc h3
  have d1 : ¬ ((i : Int) = (n : Int)) := by omega
  have d2 : decide ((i : Int) = (n : Int)) = false := by simpa using d1
  have d3 : (c : Int) < (n : Int) + 1 := by omega
  have d4 : ((n : Int) + 1 - (i : Int)).toNat = n + 1 - i := by omega
  have d5 : ((i : Int) + 1).toNat = i + 1 := by omega
  go_enter Try.func25, Try.ntmps25
  go_wp2_with (first | ((with_reducible apply wpl_cut_lo (dst := some 43) (hu := Try.underlying24) (he := info_int)); exact rfl; exact rfl; (focus omega); (focus omega); (focus omega)) | ((with_reducible apply wpl_cut_loG (hu := Try.underlying24) (he := info_int)); exact rfl; exact rfl; (focus omega); (focus omega); intro q hsq) | ((with_reducible apply wpl_cut_hi (hu := Try.underlying24) (he := info_int)); exact rfl; exact rfl; (focus omega); (focus omega)) | ((with_reducible apply wpl_appendMake_grow hF (is (l.take i)) (ht := Try.underlying24) (htx := Try.underlying3) (he := intElem)); exact rfl; (focus (rw [← is_take]; exact (Sl.pre hF ⟨0, rfl⟩).take i)); (focus (rw [is_length, List.length_take, Hl.out]; omega)); (focus omega); exact rfl; (focus omega); (focus omega); (focus omega); (focus omega); (focus omega); clear hF; intro bt ct t1 _ hct hF; rw [d4] at hct hF; have hct1 : ct ≤ n + 1 + t1.length := (by omega); have hct2 : n + 1 + t1.length ≤ ct := (by omega); clear hct) | ((with_reducible apply wpl_copy (dst := some 45) hF 0 i (is [x]) (hu := Try.underlying24) (hsz := info_int)); exact rfl; exact rfl; exact rfl; (focus (simp [is]; omega)); (focus (simp [Addr.add_lit])); (focus (exact Sl.whole hF ⟨2, rfl⟩)); (focus (simp only [is_length, List.length_append, List.length_take, List.length_replicate, List.length_cons, List.length_nil, Hl.out]; omega)); exact is_oneCell _; clear hF; intro _ hF))
  ((refine wp_region_fr_tail 8 (by kernel_rfl) (by kernel_rfl) hF ?_); clear hF; simp only [List.take_succ_cons, List.take_zero, List.drop_succ_cons, List.drop_zero])
  repeat (first | ((with_reducible apply wq_move); (focus (simp only [Act.eval, Array.getD_eq_getD_getElem?, List.getElem?_toArray, List.getElem?_cons_succ, List.getElem?_cons_zero, Option.getD_some, List.map_toArray, List.map_cons, List.map_nil] <;> exact rfl)); simp only [Act.put, List.setIfInBounds_toArray, List.set_cons_succ, List.set_cons_zero, eq_self, decide_true, decide_false, Bool.not_true, Bool.not_false, eq_self, Addr.add_lit, Nat.zero_add, Int.toNat_natCast, d5]) | ((with_reducible apply wq_assign); (focus (simp only [Act.eval, Array.getD_eq_getD_getElem?, List.getElem?_toArray, List.getElem?_cons_succ, List.getElem?_cons_zero, Option.getD_some, List.map_toArray, List.map_cons, List.map_nil] <;> exact rfl)); simp only [Act.put, List.setIfInBounds_toArray, List.set_cons_succ, List.set_cons_zero, eq_self, decide_true, decide_false, Bool.not_true, Bool.not_false, eq_self, Addr.add_lit, Nat.zero_add, Int.toNat_natCast, d5]) | ((with_reducible apply wq_addI); exact rfl; exact rfl; (focus omega); simp only [Act.put, List.setIfInBounds_toArray, List.set_cons_succ, List.set_cons_zero, eq_self, decide_true, decide_false, Bool.not_true, Bool.not_false, eq_self, Addr.add_lit, Nat.zero_add, Int.toNat_natCast, d5]) | ((with_reducible apply wq_cut_lo (hu := Try.underlying24) (he := info_int)); exact rfl; exact rfl; (focus omega); (focus omega); (focus omega); simp only [Act.put, List.setIfInBounds_toArray, List.set_cons_succ, List.set_cons_zero, eq_self, decide_true, decide_false, Bool.not_true, Bool.not_false, eq_self, Addr.add_lit, Nat.zero_add, Int.toNat_natCast, d5]))
  ((refine wpQuiet_nil ?_); intro _ hF)
  go_wp2_with (first | ((with_reducible apply wpl_copy (dst := some 54) hF 0 (i + 1) (is (l.drop i)) (hu := Try.underlying24) (hsz := info_int)); exact rfl; exact rfl; exact rfl; (focus (rw [is_length, List.length_drop, Hl.out]; omega)); (focus (first | rfl | (simp [Addr.add_lit]; done))); (focus (have e : is (l.drop i) = (is l).drop i := (by simp [is, List.map_drop]); rw [e]; have h := Sl.own hF (k := 1) rfl i (n - i); rw [List.drop_append_of_le_length (by rw [is_length, Hl.out]; omega), List.take_append_of_le_length (by rw [List.length_drop, is_length, Hl.out]; omega), List.take_of_length_le (by rw [List.length_drop, is_length, Hl.out]; omega)] at h; exact h)); (focus (rw [length_splice _ _ _ (by simp only [is_length, List.length_append, List.length_take, List.length_replicate, List.length_cons, List.length_nil, Hl.out]; omega)]; simp only [is_length, List.length_append, List.length_take, List.length_drop, List.length_replicate, List.length_cons, List.length_nil, Hl.out]; omega)); exact is_oneCell _; clear hF; intro wz hF))
  go_ret
  have hF' : Fr w0 wz (⟨bt, splice (splice (is (l.take i) ++ List.replicate (l.length + 1 - i) (Value.int .i64 0) ++ t1) i (is [x])) (i + 1) (is (l.drop i)), 3⟩ :: ⟨b, is l ++ tl, 3⟩ :: ⟨vb, is [x], 3⟩ :: R) := by
    rw [Hl.out]
    exact hF
  rw [Hsp.out] at hF'
  unfold InsPost
  refine ⟨bt, ct, t1, ?_, by rw [Hl.out]; omega, hF'.sub (List.Sublist.cons_cons _ (List.sublist_cons_self _ _))⟩
  show Ending.returned (.slice (some ⟨bt, 0, none⟩) (i + (n + 1 - i)) ct) = _
  rw [Hl.out, show i + (n + 1 - i) = n + 1 from by omega]

set_option maxHeartbeats 4000000 in
theorem slInsert_shift (x : Int) (l : List Int) (n i c b vb : Nat) (v : Value) (tl : List Value) (R : List Blk) (hl : l.length = n) (hi : i < n) (hn : n ≤ 1000) (hc : c = n + (tl.length + 1)) {w0 w : World} (hF : Fr w0 w (⟨b, is l ++ v :: tl, 3⟩ :: ⟨vb, is [x], 3⟩ :: R)) :
    Calls Try.prog 25 #[.slice (some ⟨b, 0, none⟩) n c, .int .i64 i, .slice (some ⟨vb, 0, none⟩) 1 1] w (InsPost x l i vb R w0) := by
  have Hl := Lib.hid hl
  have hc0 : n + 1 ≤ c := by omega
  have hc1 : c ≤ n + 1 + tl.length := by omega
  have hc2 : n + 1 + tl.length ≤ c := by omega
  have h3 : i ≤ l.length := by omega
  have Hsp := Lib.hid (fun t => splice_shift l x i v t h3)
  have hov : ∀ la ca lb cb : Nat, (Extern.SlicesOverlaps.overlaps #[24, 24] #[4] #[.slice (some ⟨vb, 0, none⟩) la ca, .slice (some ⟨b, i + 1, none⟩) lb cb]).run Try.prog w = .ok (.bool false) w := fun la ca lb cb => run_overlaps_own hF (by simp; omega) la ca lb cb
  clear hl hc h3
  have d1 : ¬ ((i : Int) = (n : Int)) := by omega
  have d2 : decide ((i : Int) = (n : Int)) = false := by simpa using d1
  have d3 : ¬ (c : Int) < (n : Int) + 1 := by omega
  have d4 : decide ((c : Int) < (n : Int) + 1) = false := by simpa using d3
  have d5 : ((i : Int) + 1).toNat = i + 1 := by omega
  have d6 : ((n : Int) + 1).toNat = n + 1 := by omega
  go_enter Try.func25, Try.ntmps25
  go_wp2_with (first | ((with_reducible apply wpl_cut_lo (dst := some 66) (hu := Try.underlying24) (he := info_int)); exact rfl; exact rfl; (focus omega); (focus omega); (focus omega); rw [d5]) | ((with_reducible apply wpl_cut_lo (dst := some 80) (hu := Try.underlying24) (he := info_int)); exact rfl; exact rfl; (focus omega); (focus omega); (focus omega)) | ((with_reducible apply wpl_cut_loG (hu := Try.underlying24) (he := info_int)); exact rfl; exact rfl; (focus omega); (focus omega); intro q hsq) | ((with_reducible apply wpl_cut_hi (hu := Try.underlying24) (he := info_int)); exact rfl; exact rfl; (focus omega); (focus omega)))
  ((refine wp_region_fr_tail 8 (by kernel_rfl) (by kernel_rfl) hF ?_); clear hF; simp only [List.take_succ_cons, List.take_zero, List.drop_succ_cons, List.drop_zero])
  repeat (first | ((with_reducible apply wq_move); (focus (simp only [Act.eval, Array.getD_eq_getD_getElem?, List.getElem?_toArray, List.getElem?_cons_succ, List.getElem?_cons_zero, Option.getD_some, List.map_toArray, List.map_cons, List.map_nil] <;> exact rfl)); simp only [Act.put, List.setIfInBounds_toArray, List.set_cons_succ, List.set_cons_zero, eq_self, decide_true, decide_false, Bool.not_true, Bool.not_false, eq_self, Addr.add_lit, Nat.zero_add, Int.toNat_natCast, d5]) | ((with_reducible apply wq_assign); (focus (simp only [Act.eval, Array.getD_eq_getD_getElem?, List.getElem?_toArray, List.getElem?_cons_succ, List.getElem?_cons_zero, Option.getD_some, List.map_toArray, List.map_cons, List.map_nil] <;> exact rfl)); simp only [Act.put, List.setIfInBounds_toArray, List.set_cons_succ, List.set_cons_zero, eq_self, decide_true, decide_false, Bool.not_true, Bool.not_false, eq_self, Addr.add_lit, Nat.zero_add, Int.toNat_natCast, d5]) | ((with_reducible apply wq_addI); exact rfl; exact rfl; (focus omega); simp only [Act.put, List.setIfInBounds_toArray, List.set_cons_succ, List.set_cons_zero, eq_self, decide_true, decide_false, Bool.not_true, Bool.not_false, eq_self, Addr.add_lit, Nat.zero_add, Int.toNat_natCast, d5]) | ((with_reducible apply wq_cut_lo (hu := Try.underlying24) (he := info_int)); exact rfl; exact rfl; (focus omega); (focus omega); (focus omega); simp only [Act.put, List.setIfInBounds_toArray, List.set_cons_succ, List.set_cons_zero, eq_self, decide_true, decide_false, Bool.not_true, Bool.not_false, eq_self, Addr.add_lit, Nat.zero_add, Int.toNat_natCast, d5]))
  ((refine wpQuiet_nil ?_); intro _ hF)
  have hll : (is l ++ v :: tl).length = n + 1 + tl.length := by simp only [is_length, List.length_append, List.length_cons, Hl.out]; omega
  have Hll := Lib.hid hll
  clear hll
  go_wp2_with (first | ((with_reducible apply wpl_copy (dst := some 77) hF 0 (i + 1) (is (l.drop i)) (hu := Try.underlying24) (hsz := info_int)); exact rfl; exact rfl; exact rfl; (focus (rw [is_length, List.length_drop, Hl.out]; omega)); (focus (first | rfl | (simp [Addr.add_lit]; done))); (focus (have e : is (l.drop i) = (is l).drop i := (by simp [is, List.map_drop]); rw [e]; have h := Sl.own hF (k := 0) rfl i (n - i); rw [List.drop_append_of_le_length (by rw [is_length, Hl.out]; omega), List.take_append_of_le_length (by rw [List.length_drop, is_length, Hl.out]; omega), List.take_of_length_le (by rw [List.length_drop, is_length, Hl.out]; omega)] at h; exact h)); (focus (rw [Hll.out, is_length, List.length_drop, Hl.out]; omega)); exact is_oneCell _; clear hF; intro _ hF) | ((with_reducible apply wpl_cut_lo (dst := some 80) (hu := Try.underlying24) (he := info_int)); exact rfl; exact rfl; (focus omega); (focus omega); (focus omega)) | ((with_reducible apply wpl_copy (dst := some 82) hF 0 i (is [x]) (hu := Try.underlying24) (hsz := info_int)); exact rfl; exact rfl; exact rfl; (focus (simp [is]; omega)); (focus (first | rfl | (simp [Addr.add_lit]; done))); (focus (exact Sl.whole hF ⟨1, rfl⟩)); (focus (rw [length_splice _ _ _ (by rw [Hll.out, is_length, List.length_drop, Hl.out]; omega), Hll.out]; simp only [is_length, List.length_cons, List.length_nil]; omega)); exact is_oneCell _; clear hF; intro wz hF))
  go_ret
  have hF' : Fr w0 wz (⟨b, splice (splice (is l ++ v :: tl) (i + 1) (is (l.drop i))) i (is [x]), 3⟩ :: ⟨vb, is [x], 3⟩ :: R) := hF
  rw [Hsp.out] at hF'
  unfold InsPost
  refine ⟨b, c, tl, ?_, by rw [Hl.out]; omega, hF'⟩
  rw [Hl.out] <;> rfl
end Go.Proofs.Ytjjkndbkjnfimaa
