/-
  LAWS FOR ROWS OF A CALL'S OWN, that grow, are made, copied into, cut: over the frame of own blocks. No Go function is named here.
-/
import Derived.Test.YtjjkndbkjnfimaaLaws
import Derived.Deep.AppendSrc
import Derived.Laws.CopyOwn
import Derived.Laws.MakeOwn
import Derived.Laws.BytesString
namespace Go.Proofs.Ytjjkndbkjnfimaa
set_option linter.unusedSimpArgs false
set_option linter.unusedVariables false
open Go.RowKit

/-! ### Slices that are read -/
/-- The cells 'cs' lie from 'a' on. -/
def Sl (w : World) (a : Option Addr) (cs : List Value) : Prop := ∀ j v, cs[j]? = some v → ∃ x, a = some x ∧ w.cell? (x.add j) = some v

theorem Sl.nil (w : World) (a : Option Addr) : Sl w a [] := fun j v h => by simp at h
theorem Sl.below {w w' : World} {a : Option Addr} {cs : List Value} (h : Sl w a cs) (hb : Below w.heap.size w w') : Sl w' a cs := fun j v hv => by
  obtain ⟨x, rfl, hx⟩ := h j v hv
  exact ⟨x, rfl, by rw [hb.cell (block_lt_of_cell hx)]; exact hx⟩
theorem Sl.fr {w0 w : World} {L : List Blk} {a : Option Addr} {cs : List Value} (h : Sl w0 a cs) (hF : Fr w0 w L) : Sl w a cs := h.below hF.below
theorem Sl.own {w0 w : World} {L : List Blk} (hF : Fr w0 w L) {k b : Nat} {cs : List Value} {t : TypeId} (hk : L[k]? = some ⟨b, cs, t⟩) (o m : Nat) : Sl w (some ⟨b, o, none⟩) ((cs.drop o).take m) := fun j v hv => by
  refine ⟨_, rfl, ?_⟩
  rw [Addr.add_lit, hF.cell hk]
  rw [List.getElem?_take] at hv
  split at hv
  · rwa [List.getElem?_drop] at hv
  · cases hv
theorem Sl.own' {w0 w : World} {L : List Blk} (hF : Fr w0 w L) {b o m : Nat} {cs ds : List Value} {t : TypeId} (hk : ∃ k : Nat, L[k]? = some ⟨b, cs, t⟩) (h : ds = (cs.drop o).take m) : Sl w (some ⟨b, o, none⟩) ds := by
  obtain ⟨k, hk⟩ := hk
  subst h
  exact Sl.own hF hk o m
theorem Sl.pre {w0 w : World} {L : List Blk} (hF : Fr w0 w L) {b : Nat} {cs ds : List Value} {t : TypeId} (hk : ∃ k : Nat, L[k]? = some ⟨b, cs ++ ds, t⟩) : Sl w (some ⟨b, 0, none⟩) cs :=
  Sl.own' hF hk (m := cs.length) (by simp)
theorem Sl.whole {w0 w : World} {L : List Blk} (hF : Fr w0 w L) {b : Nat} {cs : List Value} {t : TypeId} (hk : ∃ k : Nat, L[k]? = some ⟨b, cs, t⟩) : Sl w (some ⟨b, 0, none⟩) cs :=
  Sl.own' hF hk (m := cs.length) (by simp)
theorem Sl.sub {w : World} {x : Addr} {cs : List Value} (h : Sl w (some x) cs) (o m : Nat) : Sl w (some (x.add o)) ((cs.drop o).take m) := fun j v hv => by
  rw [List.getElem?_take] at hv
  split at hv
  · rw [List.getElem?_drop] at hv
    obtain ⟨y, hy, hc⟩ := h _ _ hv
    obtain rfl := Option.some.inj hy
    exact ⟨_, rfl, by rw [Addr.add_add]; exact hc⟩
  · cases hv
theorem Sl.take {w : World} {a : Option Addr} {cs : List Value} (h : Sl w a cs) (m : Nat) : Sl w a (cs.take m) := fun j v hv => by
  rw [List.getElem?_take] at hv
  split at hv
  · exact h j v hv
  · cases hv
theorem Sl.cell {w : World} {x : Addr} {cs : List Value} (h : Sl w (some x) cs) {j : Nat} {v : Value} (hv : cs[j]? = some v) : w.cell? (x.add j) = some v := by
  obtain ⟨y, hy, hc⟩ := h j v hv
  obtain rfl := Option.some.inj hy
  exact hc
theorem Sl.addr {w : World} {a : Option Addr} {cs : List Value} (h : Sl w a cs) (h0 : 0 < cs.length) : ∃ x, a = some x := by
  obtain ⟨x, hx, _⟩ := h 0 cs[0] (List.getElem?_eq_getElem h0)
  exact ⟨x, hx⟩

/-! ### Frames with one block in another's place -/
theorem Fr.take {w0 w : World} {L L' : List Blk} (h : Fr w0 w L) (hs : ∀ x ∈ L', x ∈ L) (hn : (L'.map (·.b)).Nodup) : Fr w0 w L' :=
  ⟨h.below, fun x hx => h.rows x (hs x hx), hn⟩
theorem Fr.swap {w0 w : World} {L : List Blk} {x : Blk} (h : Fr w0 w (L ++ [x])) (k : Nat) : Fr w0 w (L.set k x) := by
  refine h.take (fun y hy => ?_) ?_
  · rcases List.mem_or_eq_of_mem_set hy with hy | hy
    · exact List.mem_append_left _ hy
    · exact List.mem_append_right _ (by simp [hy])
  · have ha := h.apart
    rw [List.map_append, List.nodup_append] at ha
    obtain ⟨h1, _, h3⟩ := ha
    rw [List.map_set]
    have h4 : x.b ∉ L.map (·.b) := fun hm => h3 _ hm x.b (by simp) rfl
    exact nodup_set h1 h4
where
  nodup_set {l : List Nat} {a : Nat} {k : Nat} (h1 : l.Nodup) (h4 : a ∉ l) : (l.set k a).Nodup := by
    induction l generalizing k with
    | nil => simp
    | cons y ys ih =>
      rw [List.nodup_cons] at h1
      rw [List.mem_cons, not_or] at h4
      cases k with
      | zero => rw [List.set_cons_zero, List.nodup_cons]; exact ⟨h4.2, h1.2⟩
      | succ k =>
        rw [List.set_cons_succ, List.nodup_cons]
        refine ⟨fun hm => ?_, ih h1.2 h4.2⟩
        rcases List.mem_or_eq_of_mem_set hm with hm | hm
        · exact h1.1 hm
        · exact h4.1 hm.symm

/-! ### append -/
section
variable {P : Program} {w0 w : World} {L : List Blk}

theorem src_of {w : World} {tx e' : TypeId} {a : Option Addr} {c : Nat} {news : List Value} (hk : P.underlying tx = some (.slice e')) (hs : Sl w a news) (h1 : ∀ u ∈ news, u.oneCell' = true) :
    Src P 1 tx (.slice a news.length c) news.length news w := by
  cases a with
  | none =>
    cases news with
    | nil => exact Src.ofNil w hk c
    | cons y ys => obtain ⟨x, hx, _⟩ := hs 0 y rfl; cases hx
  | some x => exact Src.ofSlice w hk x _ c news (by simp) (fun j u hu => hs.cell hu) h1

theorem run_append_fr (hF : Fr w0 w L) {t ty e : TypeId} {i : TypeInfo} {z : Value} {bytes : Nat} (ht : P.underlying t = some (.slice e)) (hi : P.info? e = some i) (hz : i.zero = some z) (hsz : i.size = 1) (hby : i.bytes = bytes) (hzs : z.cells.size = 1)
    {k b c : Nat} {xs tail : List Value} (hk : L[k]? = some ⟨b, xs ++ tail, e⟩) {a : Option Addr} {news : List Value} (hs : Sl w a news) (h1 : ∀ u ∈ news, u.oneCell' = true)
    (h63 : xs.length + news.length ≤ maxLen) (hbytes : (xs.length + news.length) * bytes ≤ 140737488355328) :
    ∃ b' tail' w', (Builtin.append_ #[t, t] ty #[.slice (some ⟨b, 0, none⟩) xs.length (xs.length + tail.length), .slice a news.length c]).run P w =
      .ok (.slice (some ⟨b', 0, none⟩) (xs.length + news.length) (xs.length + news.length + tail'.length)) w' ∧ Fr w0 w' (L.set k ⟨b', xs ++ news ++ tail', e⟩) := by
  have hsrc := src_of (c := c) ht hs h1
  rw [← hsz] at hsrc
  by_cases hroom : xs.length + news.length ≤ xs.length + tail.length
  · -- there is room
    rcases Nat.eq_zero_or_pos news.length with h0 | h0
    · obtain rfl : news = [] := List.eq_nil_of_length_eq_zero h0
      have hr := run_append_room_src (P := P) w t t ty e i ht hi b 0 xs.length (xs.length + tail.length) _ _ _ hsrc hroom (by simp) (by simp)
      refine ⟨b, tail, _, hr, ?_⟩
      have e2 : L.set k ⟨b, xs ++ [] ++ tail, e⟩ = L := by
        rw [List.append_nil]
        exact set_self' hk
      rw [e2]
      simpa [World.setCells] using hF
    · obtain ⟨x, rfl⟩ := hs.addr h0
      have hr := run_append_room (P := P) w t ty e i ht hi b xs.length (xs.length + tail.length) _ (hF.row hk) x news.length c news (by simp [hsz]) (fun j u hu => hs.cell hu) h1 hroom (by simp [hsz]; omega)
      have hc : xs.length + news.length + (tail.drop news.length).length = xs.length + tail.length := by simp; omega
      refine ⟨b, tail.drop news.length, _, by rw [hc]; exact hr, ?_⟩
      · simp only [hsz, Nat.mul_one]
        have e3 : (xs ++ tail).take xs.length ++ news ++ (xs ++ tail).drop (xs.length + news.length) = xs ++ news ++ tail.drop news.length := by
          rw [List.take_left', List.drop_append, List.drop_eq_nil_of_le (by omega), Nat.add_sub_cancel_left, List.nil_append]
          rfl
        have := hF.setRow hk (xs ++ news ++ tail.drop news.length)
        simpa [e3] using this
  · -- a new row
    have hold := run_firstCells_some (P := P) w.drew i.size xs.length ⟨b, 0, none⟩ xs.length (xs.length + tail.length) xs (by simp [hsz]) (fun j v hv => by
      rw [Addr.add_lit, World.cell?_drew, hF.cell hk, Nat.zero_add, List.getElem?_append_left (List.getElem?_eq_some_iff.1 hv).1]
      exact hv)
    have hfit := Nat.le_trans (growslice_fits (need := xs.length + news.length) (old := xs.length + tail.length) (bytes := bytes) (by omega) hbytes) (Nat.le_refl _)
    have hr := run_append_grow_src (P := P) w t t ty e i z ht hi hz (some ⟨b, 0, none⟩) xs.length (xs.length + tail.length) xs hold _ _ _ hsrc (by omega) (by simp [maxLen] at h63; omega) (by rw [hby]; exact hfit)
    have hge := grownCap_ge w (xs.length + news.length) (xs.length + tail.length) e
    generalize hG : grownCap w (xs.length + news.length) (xs.length + tail.length) e = G at hr hge
    have hz' : (Builtin.zeroCells z.cells (G - (xs.length + news.length))).toList.length = G - (xs.length + news.length) := by
      show (Builtin.zeroCells z.cells (G - (xs.length + news.length))).size = _
      rw [size_zeroCells, hzs, Nat.mul_one]
    have hc : xs.length + news.length + (Builtin.zeroCells z.cells (G - (xs.length + news.length))).toList.length = G := by
      rw [hz']
      omega
    refine ⟨w.heap.size, (Builtin.zeroCells z.cells (G - (xs.length + news.length))).toList, _, by rw [hc]; exact hr, ?_⟩
    · have h2 := (hF.drew.alloc (xs ++ news ++ (Builtin.zeroCells z.cells (G - (xs.length + news.length))).toList) e).swap k
      have e4 : (xs ++ news ++ (Builtin.zeroCells z.cells (G - (xs.length + news.length))).toList).toArray = (xs ++ news).toArray ++ Builtin.zeroCells z.cells (G - (xs.length + news.length)) := by
        apply Array.ext'; simp
      rw [e4] at h2
      exact h2
where
  set_self' {L : List Blk} {k : Nat} {x : Blk} (h : L[k]? = some x) : L.set k x = L := by
    apply List.ext_getElem?
    intro j
    rw [List.getElem?_set]
    by_cases hj : k = j
    · subst hj
      have h2 := List.getElem?_eq_some_iff.1 h
      rw [if_pos rfl, if_pos h2.1, h]
    · simp [hj]

/-- Onto nil. -/
theorem run_append_nil_fr (hF : Fr w0 w L) {t ty e : TypeId} {i : TypeInfo} {z : Value} {bytes : Nat} (ht : P.underlying t = some (.slice e)) (hi : P.info? e = some i) (hz : i.zero = some z) (hsz : i.size = 1) (hby : i.bytes = bytes) (hzs : z.cells.size = 1)
    {c : Nat} {a : Option Addr} {news : List Value} (hs : Sl w a news) (h1 : ∀ u ∈ news, u.oneCell' = true) (h0 : 0 < news.length)
    (h63 : news.length ≤ maxLen) (hbytes : news.length * bytes ≤ 140737488355328) :
    ∃ b' tail' w', (Builtin.append_ #[t, t] ty #[.slice none 0 0, .slice a news.length c]).run P w =
      .ok (.slice (some ⟨b', 0, none⟩) news.length (news.length + tail'.length)) w' ∧ Fr w0 w' (L ++ [⟨b', news ++ tail', e⟩]) := by
  have hsrc := src_of (c := c) ht hs h1
  rw [← hsz] at hsrc
  have hold := run_firstCells_none (P := P) w.drew i.size 0 0 0
  have hfit := growslice_fits (need := 0 + news.length) (old := 0) (bytes := bytes) (by omega) (by simpa using hbytes)
  have hr := run_append_grow_src (P := P) w t t ty e i z ht hi hz none 0 0 [] hold _ _ _ hsrc (by omega) (by simp [maxLen] at h63; omega) (by rw [hby]; exact hfit)
  have hge := grownCap_ge w (0 + news.length) 0 e
  generalize hG : grownCap w (0 + news.length) 0 e = G at hr hge
  rw [Nat.zero_add] at hr hge
  have hz' : (Builtin.zeroCells z.cells (G - news.length)).toList.length = G - news.length := by
    show (Builtin.zeroCells z.cells (G - news.length)).size = _
    rw [size_zeroCells, hzs, Nat.mul_one]
  have hc : news.length + (Builtin.zeroCells z.cells (G - news.length)).toList.length = G := by
    rw [hz']
    omega
  refine ⟨w.heap.size, (Builtin.zeroCells z.cells (G - news.length)).toList, _, by rw [hc]; exact hr, ?_⟩
  · have h2 := hF.drew.alloc (news ++ (Builtin.zeroCells z.cells (G - news.length)).toList) e
    have e4 : (news ++ (Builtin.zeroCells z.cells (G - news.length)).toList).toArray = ([] ++ news).toArray ++ Builtin.zeroCells z.cells (G - news.length) := by
      apply Array.ext'; simp
    rw [e4] at h2
    exact h2
end

section
variable {P : Program} {ops : Array Oper} {rest : List Oper} {Q : Exit → Act → World → Prop} {a : Act} {w0 w : World} {L : List Blk}

/-- What is known of a type whose elements are one cell each. -/
structure Elem (P : Program) (e : TypeId) (z : Value) (bytes : Nat) : Prop where
  info : ∃ i : TypeInfo, P.info? e = some i ∧ i.zero = some z ∧ i.size = 1 ∧ i.bytes = bytes
  one : z.cells.size = 1

theorem Elem.of {e : TypeId} {z : Value} {bytes : Nat} (h : (P.info? e).map (fun i => (i.zero, i.size, i.bytes)) = some (some z, 1, bytes)) (h1 : z.cells.size = 1) : Elem P e z bytes := by
  cases hq : P.info? e with
  | none => simp [hq] at h
  | some i =>
    simp [hq] at h
    exact ⟨⟨i, hq, h.1, h.2.1, h.2.2⟩, h1⟩

/-- append onto an own row. -/
theorem wpl_append (hF : Fr w0 w L) (k : Nat) (xs tail news : List Value) {dst : Option Tmp} {s x : Operand} {t ty : TypeId} {pos : String} {after : Array Edge} {e : TypeId} {z : Value} {bytes : Nat} (ht : P.underlying t = some (.slice e)) (he : Elem P e z bytes)
    {b n c cap : Nat} {p : Option Addr} {m : Nat} (hsv : a.eval s = .slice (some ⟨b, 0, none⟩) n cap) (hk : L[k]? = some ⟨b, xs ++ tail, e⟩) (hn : xs.length = n) (hcap : cap = n + tail.length)
    (hxv : a.eval x = .slice p m c) (hm : news.length = m) (hs : Sl w p news) (h1 : ∀ u ∈ news, u.oneCell' = true)
    (hbytes : (n + m) * bytes ≤ 140737488355328) (h63 : n + m ≤ maxLen)
    (h : ∀ b' cap' tail' w', cap' = n + m + tail'.length → Fr w0 w' (L.set k ⟨b', xs ++ news ++ tail', e⟩) → wpList P ops Q rest (a.put dst (.slice (some ⟨b', 0, none⟩) (n + m) cap')) w') :
    wpList P ops Q (⟨dst, .call { callee := .builtin .append, args := #[s, x], argTypes := #[t, t] }, ty, pos, after, none⟩ :: rest) a w := by
  subst hn hcap hm
  obtain ⟨i, hi, hz, hsz, hby⟩ := he.info
  obtain ⟨b', tail', w', hr, hF'⟩ := run_append_fr (c := c) (ty := ty) hF ht hi hz hsz hby he.one hk hs h1 h63 hbytes
  refine wpList_plain rfl fun K hK => ?_
  unfold Oper.wp
  simp only [execOp, resolve, invoke, builtin, Sem.run_bind, Sem.run_pure, Result.andThen_ok, List.map_toArray, List.map_cons, List.map_nil, hsv, hxv, hr]
  exact hK _ _ (h _ _ _ _ rfl hF')

/-- append onto nil. -/
theorem wpl_append_nil (hF : Fr w0 w L) (news : List Value) {dst : Option Tmp} {s x : Operand} {t ty : TypeId} {pos : String} {after : Array Edge} {e : TypeId} {z : Value} {bytes : Nat} (ht : P.underlying t = some (.slice e)) (he : Elem P e z bytes)
    {c : Nat} {p : Option Addr} {m : Nat} (hsv : a.eval s = .slice none 0 0)
    (hxv : a.eval x = .slice p m c) (hm : news.length = m) (hs : Sl w p news) (h1 : ∀ u ∈ news, u.oneCell' = true) (h0 : 0 < m)
    (hbytes : m * bytes ≤ 140737488355328) (h63 : m ≤ maxLen)
    (h : ∀ b' cap' tail' w', cap' = m + tail'.length → Fr w0 w' (L ++ [⟨b', news ++ tail', e⟩]) → wpList P ops Q rest (a.put dst (.slice (some ⟨b', 0, none⟩) m cap')) w') :
    wpList P ops Q (⟨dst, .call { callee := .builtin .append, args := #[s, x], argTypes := #[t, t] }, ty, pos, after, none⟩ :: rest) a w := by
  subst hm
  obtain ⟨i, hi, hz, hsz, hby⟩ := he.info
  obtain ⟨b', tail', w', hr, hF'⟩ := run_append_nil_fr (c := c) (ty := ty) hF ht hi hz hsz hby he.one hs h1 h0 h63 hbytes
  refine wpList_plain rfl fun K hK => ?_
  unfold Oper.wp
  simp only [execOp, resolve, invoke, builtin, Sem.run_bind, Sem.run_pure, Result.andThen_ok, List.map_toArray, List.map_cons, List.map_nil, hsv, hxv, hr]
  exact hK _ _ (h _ _ _ _ rfl hF')

/-! ### make, and a literal -/
theorem madeCells_one {z : Value} (h1 : z.cells.size = 1) (n : Nat) : madeCells z.cells n = (List.replicate n (z.cells[0]!)).toArray := by
  apply Array.ext'
  simp only [madeCells, h1, Nat.mod_one]
  apply List.ext_getElem
  · simp
  · intro i h1 h2
    simp
theorem wpl_make (hF : Fr w0 w L) {dst : Option Tmp} {x y : Operand} {t ty : TypeId} {pos : String} {after : Array Edge} {e : TypeId} {z : Value} {bytes : Nat} (ht : P.underlying t = some (.slice e)) (he : Elem P e z bytes)
    {n c : Int} (hx : a.eval x = .int .i64 n) (hy : a.eval y = .int .i64 c) (h0 : 0 ≤ n) (hnc : n ≤ c) (hb : (bytes : Int) * c ≤ 281474976710656) (h63 : c ≤ 9223372036854775807)
    (h : ∀ b' w', Fr w0 w' (L ++ [⟨b', List.replicate c.toNat (z.cells[0]!), e⟩]) → wpList P ops Q rest (a.put dst (.slice (some ⟨b', 0, none⟩) n.toNat c.toNat)) w') :
    wpList P ops Q (⟨dst, .makeSlice t x y, ty, pos, after, none⟩ :: rest) a w := by
  obtain ⟨i, hi, hz, hsz, hby⟩ := he.info
  have hr := run_make (P := P) w t e i z ht hi hz .i64 .i64 n c h0 hnc (by rw [hby]; exact hb) h63
  rw [hsz, Nat.mul_one, madeCells_one he.one] at hr
  refine wpList_plain rfl fun K hK => ?_
  unfold Oper.wp
  simp only [execOp, hx, hy, Sem.run_bind, Sem.run_pure, Result.andThen_ok, hr]
  exact hK _ _ (h _ _ (hF.alloc _ e))

theorem run_buildSlice {t e : TypeId} {i : TypeInfo} {z : Value} (ht : P.underlying t = some (.slice e)) (hi : P.info? e = some i) (hz : i.zero = some z) (hsz : i.size = 1) (h1 : z.cells.size = 1) {m : Nat} {parts : Array (Nat × Value)} {cs : List Value} (hm : m ≤ 4096)
    (hf : Instr.fill (fun i => some (i * 1, 1)) (List.replicate m (z.cells[0]!)).toArray parts.toList = some cs.toArray) (w : World) :
    (Instr.buildSlice t m parts).run P w = .ok (.slice (some ⟨w.heap.size, 0, none⟩) m m) (w.alloc (.cells cs.toArray e)) := by
  have e1 : (Array.range (m * 1)).map (z.cells[· % z.cells.size]!) = (List.replicate m (z.cells[0]!)).toArray := by
    rw [Nat.mul_one]
    exact madeCells_one h1 m
  have n1 : ¬ (m * 1 > 2 ^ 24) := by omega
  by_cases h0 : m * 1 = 0
  · have hm0 : m = 0 := by omega
    subst hm0
    simp only [List.replicate_zero] at hf
    have hf' : Instr.fill (fun i => some (i, 1)) #[] parts.toList = some cs.toArray := by simpa using hf
    simp [Instr.buildSlice, run_underlying ht, sizeOf, typeInfo, hi, hsz, hf', newRow, Array.range_zero']
  · simp only [Instr.buildSlice, Sem.run_bind, run_underlying ht, Result.andThen_ok, sizeOf, typeInfo, run_program, hi, hsz, Sem.run_pure, if_neg n1, if_neg h0, zeroValue, hz, e1, hf, newRow]
    rfl

theorem wpl_buildSlice (hF : Fr w0 w L) {dst : Option Tmp} {t ty : TypeId} {pos : String} {after : Array Edge} {e : TypeId} {z : Value} {bytes m : Nat} {parts : Array (Nat × Operand)} (ht : P.underlying t = some (.slice e)) (he : Elem P e z bytes) (cs : List Value) (hm : m ≤ 4096)
    (hf : Instr.fill (fun i => some (i * 1, 1)) (List.replicate m (z.cells[0]!)).toArray (parts.map fun (i, x) => (i, a.eval x)).toList = some cs.toArray)
    (h : ∀ b' w', Fr w0 w' (L ++ [⟨b', cs, e⟩]) → wpList P ops Q rest (a.put dst (.slice (some ⟨b', 0, none⟩) m m)) w') :
    wpList P ops Q (⟨dst, .buildSlice t m parts, ty, pos, after, none⟩ :: rest) a w := by
  obtain ⟨i, hi, hz, hsz, hby⟩ := he.info
  have hr := run_buildSlice ht hi hz hsz he.one hm hf w
  refine wpList_plain rfl fun K hK => ?_
  unfold Oper.wp
  simp only [execOp, Sem.run_bind, Sem.run_pure, Result.andThen_ok, hr]
  exact hK _ _ (h _ _ (hF.alloc _ e))

/-- append of some values onto an own row: 'append(s, x, y)'. -/
theorem wpl_push (hF : Fr w0 w L) (k : Nat) (xs tail cs : List Value) {d1 : Nat} {dst : Option Tmp} {s : Operand} {t ty ty' : TypeId} {pos pos' : String} {after after' : Array Edge} {e : TypeId} {z : Value} {bytes m : Nat} {parts : Array (Nat × Operand)}
    (ht : P.underlying t = some (.slice e)) (he : Elem P e z bytes)
    {b n cap : Nat} (hsv : ∀ v, (a.put (some d1) v).eval s = .slice (some ⟨b, 0, none⟩) n cap) (hk : L[k]? = some ⟨b, xs ++ tail, e⟩) (hd : ∀ v, (a.put (some d1) v).eval (.tmp d1) = v) (hn : xs.length = n) (hcap : cap = n + tail.length)
    (hf : Instr.fill (fun i => some (i * 1, 1)) (List.replicate m (z.cells[0]!)).toArray (parts.map fun (i, x) => (i, a.eval x)).toList = some cs.toArray) (hm : cs.length = m) (hm' : m ≤ 4096) (h1 : ∀ u ∈ cs, u.oneCell' = true)
    (hbytes : (n + m) * bytes ≤ 140737488355328) (h63 : n + m ≤ maxLen)
    (h : ∀ b' cap' tail' b'' w', cap' = n + m + tail'.length → Fr w0 w' (L.set k ⟨b', xs ++ cs ++ tail', e⟩) → wpList P ops Q rest ((a.put (some d1) (.slice (some ⟨b'', 0, none⟩) m m)).put dst (.slice (some ⟨b', 0, none⟩) (n + m) cap')) w') :
    wpList P ops Q (⟨some d1, .buildSlice t m parts, ty, pos, after, none⟩ :: ⟨dst, .call { callee := .builtin .append, args := #[s, .tmp d1], argTypes := #[t, t] }, ty', pos', after', none⟩ :: rest) a w := by
  refine wpl_buildSlice hF ht he cs hm' hf ?_
  intro b'' w1 hF1
  have hkl : k < L.length := (List.getElem?_eq_some_iff.1 hk).1
  have hk1 : (L ++ [⟨b'', cs, e⟩])[k]? = some ⟨b, xs ++ tail, e⟩ := by rw [List.getElem?_append_left hkl]; exact hk
  have hs1 : Sl w1 (some ⟨b'', 0, none⟩) cs := Sl.whole hF1 (t := e) ⟨L.length, by simp⟩
  refine wpl_append hF1 k xs tail cs ht he (hsv _) hk1 hn hcap (hd _) hm hs1 h1 hbytes h63 ?_
  intro b' cap' tail' w' hc hF'
  refine h b' cap' tail' b'' w' hc (hF'.sub ?_)
  rw [List.set_append_left _ _ hkl]
  exact List.sublist_append_left _ _

/-- .. onto nil. -/
theorem wpl_push_nil (hF : Fr w0 w L) (cs : List Value) {d1 : Nat} {dst : Option Tmp} {s : Operand} {t ty ty' : TypeId} {pos pos' : String} {after after' : Array Edge} {e : TypeId} {z : Value} {bytes m : Nat} {parts : Array (Nat × Operand)}
    (ht : P.underlying t = some (.slice e)) (he : Elem P e z bytes)
    (hsv : ∀ v, (a.put (some d1) v).eval s = .slice none 0 0) (hd : ∀ v, (a.put (some d1) v).eval (.tmp d1) = v)
    (hf : Instr.fill (fun i => some (i * 1, 1)) (List.replicate m (z.cells[0]!)).toArray (parts.map fun (i, x) => (i, a.eval x)).toList = some cs.toArray) (hm : cs.length = m) (hm' : m ≤ 4096) (h0 : 0 < m) (h1 : ∀ u ∈ cs, u.oneCell' = true)
    (hbytes : m * bytes ≤ 140737488355328)
    (h : ∀ b' cap' tail' b'' w', cap' = m + tail'.length → Fr w0 w' (L ++ [⟨b', cs ++ tail', e⟩]) → wpList P ops Q rest ((a.put (some d1) (.slice (some ⟨b'', 0, none⟩) m m)).put dst (.slice (some ⟨b', 0, none⟩) m cap')) w') :
    wpList P ops Q (⟨some d1, .buildSlice t m parts, ty, pos, after, none⟩ :: ⟨dst, .call { callee := .builtin .append, args := #[s, .tmp d1], argTypes := #[t, t] }, ty', pos', after', none⟩ :: rest) a w := by
  refine wpl_buildSlice hF ht he cs hm' hf ?_
  intro b'' w1 hF1
  have hs1 : Sl w1 (some ⟨b'', 0, none⟩) cs := Sl.whole hF1 (t := e) ⟨L.length, by simp⟩
  refine wpl_append_nil hF1 cs ht he (hsv _) (hd _) hm hs1 h1 h0 hbytes (by simp [maxLen]; omega) ?_
  intro b' cap' tail' w' hc hF'
  refine h b' cap' tail' b'' w' hc (hF'.sub ?_)
  rw [List.append_assoc]
  exact List.Sublist.append (List.Sublist.refl _) (List.sublist_append_right _ _)

/-! ### copy -/
theorem wpl_copy (hF : Fr w0 w L) (k o : Nat) (cs : List Value) {dst : Option Tmp} {d s : Operand} {dT sT ty : TypeId} {pos : String} {after : Array Edge} {elem : TypeId} (hu : P.underlying dT = some (.slice elem)) (hsz : (P.info? elem).map (·.size) = some 1)
    {dp sp : Option Addr} {dLen dCap sLen sCap b : Nat} (hd : a.eval d = .slice dp dLen dCap) (hs : a.eval s = .slice sp sLen sCap) {cur : List Value} {t : TypeId} (hk : L[k]? = some ⟨b, cur, t⟩)
    (hn : cs.length = min sLen dLen) (hdp : dp = some ⟨b, o, none⟩) (hsrc : Sl w sp cs) (hfit : o + cs.length ≤ cur.length) (h1 : ∀ v ∈ cs, v.oneCell' = true)
    (h : ∀ w', Fr w0 w' (L.set k ⟨b, splice cur o cs, t⟩) → wpList P ops Q rest (a.put dst (.int .i64 (cs.length : Int))) w') :
    wpList P ops Q (⟨dst, .call { callee := .builtin .copy, args := #[d, s], argTypes := #[dT, sT] }, ty, pos, after, none⟩ :: rest) a w := by
  rcases Nat.eq_zero_or_pos cs.length with h0 | h0
  · obtain rfl : cs = [] := List.eq_nil_of_length_eq_zero h0
    refine wpList_copy_nothing rfl d s dT sT rfl elem hu hsz dp sp dLen dCap sLen sCap hd hs (by simpa using hn.symm) ?_
    refine h w ?_
    have e2 : L.set k ⟨b, splice cur o [], t⟩ = L := by
      have : splice cur o [] = cur := by simp [splice]
      rw [this]
      exact run_append_fr.set_self' hk
    rw [e2]
    exact hF
  · obtain ⟨x, rfl⟩ := hsrc.addr h0
    subst hdp
    refine wpList_copy_own rfl d s dT sT rfl elem hu hsz b o dLen dCap x sLen sCap hd hs cur.toArray t (hF.row hk) cs hn (fun j v hv => hsrc.cell hv) (by simpa using hfit) h1 ?_
    exact h _ (hF.setRow hk (splice cur o cs))
end

/-! ### Bytes as a text -/
theorem run_string_fr {P : Program} {w : World} {src dst e : TypeId} (hs : P.underlying src = some (.slice e)) (he : P.underlying e = some (.int .u8)) (hd : P.underlying dst = some .string) {p : Option Addr} {l : List UInt8} {c : Nat} (hl : Sl w p (bs l)) :
    (convert src dst (.slice p l.length c)).run P w = .ok (.string ⟨l.toArray⟩) w := by
  rw [run_convert_bytes_string w src dst e p l.length c hs he hd]
  cases l with
  | nil =>
    cases p with
    | none => simp [Conv.bytesToString, ByteArray.empty, ByteArray.emptyWithCapacity]; rfl
    | some x =>
      have := run_bytesToString (P := P) w x 0 c [] (by simp [loadCells, loadCellsFrom])
      exact this
  | cons y ys =>
    obtain ⟨x, rfl⟩ := hl.addr (by simp [bs])
    have h1 := run_loadCells_list (P := P) w x (bs (y :: ys)) (fun j v hv => hl.cell hv)
    rw [bs_length] at h1
    have e1 : (bs (y :: ys)) = ((y :: ys).map fun z => (z.toNat : Int)).map (Value.int .u8) := by simp [bs, B]
    rw [e1] at h1
    rw [run_bytesToString (P := P) w x _ c _ h1]
    congr 2
    have : ∀ (l : List UInt8) (r : ByteArray), (l.map fun z => (z.toNat : Int)).foldl (fun r n => r.push (UInt8.ofNat n.toNat)) r = ⟨r.data ++ l.toArray⟩ := by
      intro l
      induction l with
      | nil => intro r; simp
      | cons z zs ih => intro r; simp only [List.map_cons, List.foldl_cons, ih]; simp [ByteArray.push]
    rw [this]
    simp [ByteArray.empty, ByteArray.emptyWithCapacity]
    rfl
section
variable {P : Program} {ops : Array Oper} {rest : List Oper} {Q : Exit → Act → World → Prop} {a : Act} {w0 w : World} {L : List Blk}
theorem wpl_here {dst : Option Tmp} {op : Op} {ty : TypeId} {pos : String} {after : Array Edge} {v : Value}
    (hv : (execOp a.eval ⟨dst, op, ty, pos, after, none⟩).run P w = .ok (.value v) w) (h : wpList P ops Q rest (a.put dst v) w) :
    wpList P ops Q (⟨dst, op, ty, pos, after, none⟩ :: rest) a w := by
  refine wpList_plain rfl fun K hK => ?_
  unfold Oper.wp
  rw [hv]
  exact hK _ _ h
theorem wpl_string {dst : Option Tmp} {S T ty e : TypeId} {x : Operand} {pos : String} {after : Array Edge} (hS : P.underlying S = some (.slice e)) (he : P.underlying e = some (.int .u8)) (hT : P.underlying T = some .string)
    {p : Option Addr} {l : List UInt8} {n c : Nat} (hx : a.eval x = .slice p n c) (hn : l.length = n) (hl : Sl w p (bs l))
    (h : wpList P ops Q rest (a.put dst (.string ⟨l.toArray⟩)) w) :
    wpList P ops Q (⟨dst, .convert S T x, ty, pos, after, none⟩ :: rest) a w := by
  subst hn
  exact wpl_here (by simp only [execOp, hx, Sem.run_bind, run_string_fr hS he hT hl, Result.andThen_ok, Sem.run_pure]) h

/-! ### Cuts -/
theorem sliced_lt {a : Option Addr} {lo hi cap : Nat} (h : lo < cap) : sliced a lo hi cap 1 = .slice (a.map (·.add lo)) (hi - lo) (cap - lo) := by
  unfold sliced
  cases a with
  | none => first | (simp; done) | (split <;> simp <;> omega)
  | some x =>
    have : ¬ (cap - lo = 0) := by omega
    have : ¬ (cap = lo) := by omega
    simp [*]
end
end Go.Proofs.Ytjjkndbkjnfimaa
