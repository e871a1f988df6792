/-
  THE WORDS AND THE LAWS THAT ALL WALKS OF THIS SEAT SHARE: bytes as values; the frame of a call's own blocks; the operations on arrays by value. No Go function is named here.
-/
import Derived.WalkKit
import Derived.WalkSpells
import Derived.WalkLawsBesides
import Derived.Deep.QuietTactic
import Derived.BigQuiet
import Derived.StillTailTactics
import Derived.Lib.Hide
import Derived.Laws.Rows
import Derived.Laws.Tables
import Derived.Deep.MidRow
import Derived.ChangeKeysEq
import Derived.Deep.WholeRow
namespace Go.Proofs.Ytjjkndbkjnfimaa
set_option linter.unusedSimpArgs false
set_option linter.unusedVariables false
open Go.RowKit

/-! ### Bytes -/
/-- A byte as a value. -/
def B (x : UInt8) : Value := .int .u8 (x.toNat : Int)
/-- Bytes as values. -/
def bs (l : List UInt8) : List Value := l.map B
/-- An array of bytes. -/
abbrev agg (l : List UInt8) : Value := .agg (bs l).toArray
/-- Byte number i. -/
def gb (l : List UInt8) (i : Nat) : UInt8 := l.getD i 0

/-- An id of noughts. -/
def zeros : List UInt8 := List.replicate 32 0
theorem zeros_length : zeros.length = 32 := rfl

theorem B_inj {x y : UInt8} : B x = B y ↔ x = y := by
  constructor
  · intro h
    simp only [B, Value.int.injEq, true_and] at h
    exact UInt8.toNat_inj.1 (by omega)
  · rintro rfl; rfl
theorem bs_length (l : List UInt8) : (bs l).length = l.length := by simp [bs]
theorem bs_get {l : List UInt8} {i : Nat} (h : i < l.length) : (bs l)[i]? = some (B (gb l i)) := by
  simp [bs, gb, List.getD, h]
theorem bs_set (l : List UInt8) (i : Nat) (x : UInt8) : (bs l).set i (B x) = bs (l.set i x) := by simp [bs, List.map_set]
theorem bs_append (l m : List UInt8) : bs (l ++ m) = bs l ++ bs m := by simp [bs]
theorem gb_eq {l : List UInt8} {i : Nat} (h : i < l.length) : gb l i = l[i] := by simp [gb, List.getD, h]
theorem B_oneCell (x : UInt8) : (B x).oneCell' = true := rfl
theorem bs_oneCell (l : List UInt8) : ∀ v ∈ bs l, v.oneCell' = true := by
  intro v hv
  obtain ⟨x, _, rfl⟩ := List.mem_map.1 hv
  rfl

/-! ### The operations on bytes, as the walk meets them -/
/-- A number's lowest byte. -/
def b8 (n : Int) : UInt8 := UInt8.ofNat (n % 256).toNat
theorem b8_toNat (n : Int) : ((b8 n).toNat : Int) = n % 256 := by
  unfold b8
  rw [UInt8.toNat_ofNat']
  omega
theorem b8_eq {n : Int} {x : UInt8} (h : n % 256 = (x.toNat : Int)) : b8 n = x := by
  apply UInt8.toNat_inj.1
  have := b8_toNat n
  omega
theorem b8_byte (x : UInt8) : b8 (x.toNat : Int) = x := b8_eq (by have := x.toNat_lt; omega)

theorem ofInt_byte (x : UInt8) : BitVec.ofInt 8 (x.toNat : Int) = x.toBitVec := by
  rw [BitVec.ofInt_natCast]
  show BitVec.ofNat 8 x.toBitVec.toNat = x.toBitVec
  simp
theorem u8_wrap8 (r : BitVec 8) : IntKind.u8.wrap (r.toNat : Int) = (r.toNat : Int) := by
  have := r.isLt
  simp [IntKind.wrap, IntKind.signed, IntKind.bits]
  omega

section
variable (t : TypeId) (x y : UInt8) (n : Int)
@[go_sem] theorem eqGuard_B (op : BinOp) (o p : Operand) (v : Value) : eqGuard op t o p (B x) v = pure () := by cases op <;> rfl
theorem toNat_eq_iff : ((x.toNat : Int) = (y.toNat : Int)) ↔ x = y := ⟨fun h => UInt8.toNat_inj.1 (by omega), fun h => by rw [h]⟩
@[go_sem] theorem binOp_eql_B : binOp .eql t (B x) (B y) = pure (.bool (decide (x = y))) := by
  simp only [B, binOp, Op.intCmp, ne_eq, not_true_eq_false, if_false]
  congr 2
  rw [Bool.eq_iff_iff]
  simp [toNat_eq_iff]
@[go_sem] theorem binOp_neq_B : binOp .neq t (B x) (B y) = pure (.bool (!decide (x = y))) := by
  simp only [B, binOp, Op.intCmp, ne_eq, not_true_eq_false, if_false]
  congr 2
  rw [Bool.eq_iff_iff]
  simp [toNat_eq_iff, bne]
@[go_sem] theorem binOp_lss_B : binOp .lss t (B x) (B y) = pure (.bool (decide (x < y))) := by
  simp [B, binOp, Op.intCmp, UInt8.lt_iff_toNat_lt]
@[go_sem] theorem binOp_add_B : binOp .add t (B x) (B y) = pure (B (x + y)) := by
  simp [B, binOp, Op.intArith]
  simp [IntKind.wrap, IntKind.signed, IntKind.bits]
@[go_sem] theorem binOp_xor_B : binOp .xor t (B x) (B y) = pure (B (x ^^^ y)) := by
  simp only [B, binOp, Op.intBits, ne_eq, not_true_eq_false, if_false, IntKind.bits, ofInt_byte, u8_wrap8]
  rfl
@[go_sem] theorem binOp_or_B : binOp .or t (B x) (B y) = pure (B (x ||| y)) := by
  simp only [B, binOp, Op.intBits, ne_eq, not_true_eq_false, if_false, IntKind.bits, ofInt_byte, u8_wrap8]
  rfl
@[go_sem] theorem binOp_and_B : binOp .and t (B x) (B y) = pure (B (x &&& y)) := by
  simp only [B, binOp, Op.intBits, ne_eq, not_true_eq_false, if_false, IntKind.bits, ofInt_byte, u8_wrap8]
  rfl
@[go_sem] theorem binOp_eql_Bn : binOp .eql t (B x) (.int .u8 n) = pure (.bool (decide ((x.toNat : Int) = n))) := by
  simp only [B, binOp, Op.intCmp, ne_eq, not_true_eq_false, if_false]
  congr 2
@[go_sem] theorem binOp_neq_Bn : binOp .neq t (B x) (.int .u8 n) = pure (.bool (!decide ((x.toNat : Int) = n))) := by
  simp only [B, binOp, Op.intCmp, ne_eq, not_true_eq_false, if_false]
  congr 2
@[go_sem] theorem binOp_geq_Bn : binOp .geq t (B x) (.int .u8 n) = pure (.bool (decide ((x.toNat : Int) ≥ n))) := by
  simp [B, binOp, Op.intCmp]
end
section
variable {P : Program} (w : World) (src dst : TypeId) (x : UInt8) (n : Int)
@[go_sem] theorem run_convert_B_int (hs : (P.underlying src).isSome = true) (hd : P.underlying dst = some (.int .i64)) : (convert src dst (B x)).run P w = .ok (.int .i64 (x.toNat : Int)) w := by
  have h := run_convert_int (P := P) w src dst .u8 (x.toNat : Int) hs (by simp [Program.intKind, hd])
  have hk : P.intKind dst = .i64 := by simp [Program.intKind, hd]
  rw [hk] at h
  have hx := x.toNat_lt
  rw [show B x = .int .u8 (x.toNat : Int) from rfl, h]
  congr 2
  exact IntWalk.i64_in _ (by omega)
@[go_sem high] theorem run_convert_int_B (hs : (P.underlying src).isSome = true) (hd : P.underlying dst = some (.int .u8)) : (convert src dst (.int .i64 n)).run P w = .ok (B (b8 n)) w := by
  have h := run_convert_int (P := P) w src dst .i64 n hs (by simp [Program.intKind, hd])
  have hk : P.intKind dst = .u8 := by simp [Program.intKind, hd]
  rw [hk] at h
  rw [h]
  congr 1
  unfold B
  rw [b8_toNat]
  simp [IntKind.wrap, IntKind.signed, IntKind.bits]
end

/-! ### The frame: the blocks that the call itself has made -/
structure Blk where
  b : Nat
  cs : List Value
  t : TypeId

/-- 'w' is the world that the call 'w0' has come to: what was there below is there as it was; the blocks 'L' are the call's own, all apart, and hold just these cells. -/
structure Fr (w0 w : World) (L : List Blk) : Prop where
  below : Below w0.heap.size w0 w
  rows : ∀ x ∈ L, w0.heap.size ≤ x.b ∧ w.heap[x.b]? = some (.cells x.cs.toArray x.t (0, 0))
  apart : (L.map (·.b)).Nodup

theorem Fr.start (w : World) : Fr w w [] := ⟨Below.refl _ _, (by simp), (by simp)⟩

theorem Fr.lt {w0 w : World} {L : List Blk} (h : Fr w0 w L) {x : Blk} (hx : x ∈ L) : x.b < w.heap.size := (Array.getElem?_eq_some_iff.1 (h.rows x hx).2).1

theorem Fr.mem {L : List Blk} {k : Nat} {x : Blk} (hk : L[k]? = some x) : x ∈ L := List.mem_of_getElem? hk

theorem Fr.row {w0 w : World} {L : List Blk} (h : Fr w0 w L) {k b : Nat} {cs : List Value} {t : TypeId} (hk : L[k]? = some ⟨b, cs, t⟩) : w.heap[b]? = some (.cells cs.toArray t (0, 0)) :=
  (h.rows _ (Fr.mem hk)).2

theorem Fr.cell {w0 w : World} {L : List Blk} (h : Fr w0 w L) {k b : Nat} {cs : List Value} {t : TypeId} (hk : L[k]? = some ⟨b, cs, t⟩) (i : Nat) : w.cell? ⟨b, i, none⟩ = cs[i]? := by
  simp [World.cell?, h.row hk]

theorem Fr.free {w0 w : World} {L : List Blk} (h : Fr w0 w L) {k b : Nat} {cs : List Value} {t : TypeId} (hk : L[k]? = some ⟨b, cs, t⟩) (i : Nat) : w.frozen? ⟨b, i, none⟩ = false := by
  simp [World.frozen?, h.row hk]

/-- A new block. -/
theorem Fr.alloc {w0 w : World} {L : List Blk} (h : Fr w0 w L) (cs : List Value) (t : TypeId) : Fr w0 (w.alloc (.cells cs.toArray t)) (L ++ [⟨w.heap.size, cs, t⟩]) := by
  refine ⟨h.below.alloc h.below.size _, ?_, ?_⟩
  · intro x hx
    rcases List.mem_append.1 hx with hx | hx
    · exact ⟨(h.rows x hx).1, by rw [Below.heap_alloc _ _ _ (h.lt hx)]; exact (h.rows x hx).2⟩
    · simp only [List.mem_singleton] at hx
      subst hx
      exact ⟨h.below.size, heap_alloc_new _ _⟩
  · rw [List.map_append, List.nodup_append]
    refine ⟨h.apart, by simp, ?_⟩
    intro a ha b hb
    obtain ⟨x, hx, rfl⟩ := List.mem_map.1 ha
    simp only [List.map_cons, List.map_nil, List.mem_singleton] at hb
    subst hb
    have := h.lt hx
    omega

/-- A call that leaves alone what was there. -/
theorem Fr.call {w0 w w' : World} {L : List Blk} (h : Fr w0 w L) (hb : Below w.heap.size w w') : Fr w0 w' L :=
  ⟨h.below.trans (hb.mono h.below.size), fun x hx => ⟨(h.rows x hx).1, by rw [hb.block _ (h.lt hx)]; exact (h.rows x hx).2⟩, h.apart⟩

theorem Fr.drew {w0 w : World} {L : List Blk} (h : Fr w0 w L) : Fr w0 w.drew L := ⟨h.below.drew, h.rows, h.apart⟩
theorem Fr.drewN {w0 w : World} {L : List Blk} (h : Fr w0 w L) (n : Nat) : Fr w0 (w.drewN n) L := ⟨⟨h.below.os, h.below.tape, h.below.output, h.below.size, h.below.block⟩, h.rows, h.apart⟩

/-- Fewer blocks. -/
theorem Fr.sub {w0 w : World} {L L' : List Blk} (h : Fr w0 w L) (hs : L'.Sublist L) : Fr w0 w L' :=
  ⟨h.below, fun x hx => h.rows x (hs.subset hx), (hs.map _).nodup h.apart⟩

/-- One own block gets other cells; the rest stands. -/
theorem Fr.setBlock {w0 w w' : World} {L : List Blk} (h : Fr w0 w L) {k b : Nat} {cs cs' : List Value} {t : TypeId} (hk : L[k]? = some ⟨b, cs, t⟩)
    (hos : w'.os = w.os) (htape : w'.tape = w.tape) (hout : w'.output = w.output) (hsize : w'.heap.size = w.heap.size)
    (hrow : w'.heap[b]? = some (.cells cs'.toArray t (0, 0))) (hother : ∀ i, i ≠ b → w'.heap[i]? = w.heap[i]?) : Fr w0 w' (L.set k ⟨b, cs', t⟩) := by
  have hb := h.rows _ (Fr.mem hk)
  have hkl : k < L.length := (List.getElem?_eq_some_iff.1 hk).1
  have hmap : (L.set k ⟨b, cs', t⟩).map (·.b) = L.map (·.b) := by
    rw [List.map_set]
    apply List.ext_getElem?
    intro j
    rw [List.getElem?_set]
    by_cases hj : k = j
    · subst hj
      have hkk := (List.getElem?_eq_some_iff.1 hk).2
      simp [hkl, hkk]
    · simp [hj]
  refine ⟨⟨hos.trans h.below.os, htape.trans h.below.tape, hout.trans h.below.output, by rw [hsize]; exact h.below.size, fun i hi => ?_⟩, ?_, by rw [hmap]; exact h.apart⟩
  · rw [hother i (by have := hb.1; simp only at this; omega)]
    exact h.below.block i hi
  · intro x hx
    by_cases hxb : x.b = b
    · -- the block itself
      obtain ⟨j, hj⟩ := List.mem_iff_getElem?.1 hx
      rw [List.getElem?_set] at hj
      by_cases hkj : k = j
      · subst hkj
        rw [if_pos rfl, if_pos hkl] at hj
        obtain rfl := Option.some.inj hj
        exact ⟨hb.1, hrow⟩
      · rw [if_neg hkj] at hj
        exfalso
        have h1 : (L.map (·.b))[j]? = some b := by rw [List.getElem?_map, hj]; simp [hxb]
        have h2 : (L.map (·.b))[k]? = some b := by rw [List.getElem?_map, hk]; rfl
        exact hkj ((List.getElem?_inj (by simpa using hkl) h.apart).1 (h2.trans h1.symm))
    · have hxL : x ∈ L := by
        rcases List.mem_or_eq_of_mem_set hx with h' | h'
        · exact h'
        · subst h'; exact absurd rfl hxb
      exact ⟨(h.rows x hxL).1, by rw [hother _ hxb]; exact (h.rows x hxL).2⟩

/-- A cell of an own block is written. -/
theorem Fr.setCell {w0 w : World} {L : List Blk} (h : Fr w0 w L) {k b : Nat} {cs : List Value} {t : TypeId} (hk : L[k]? = some ⟨b, cs, t⟩) (i : Nat) (v : Value) :
    Fr w0 (w.setCell ⟨b, i, none⟩ v) (L.set k ⟨b, cs.set i v, t⟩) := by
  refine h.setBlock hk rfl rfl rfl (by simp) ?_ (fun j hj => heap_setCell_other _ _ _ _ hj)
  rw [heap_setCell_same _ _ _ _ _ _ (h.row hk)]
  simp

/-- An own block is written whole. -/
theorem Fr.setRow {w0 w : World} {L : List Blk} (h : Fr w0 w L) {k b : Nat} {cs : List Value} {t : TypeId} (hk : L[k]? = some ⟨b, cs, t⟩) (cs' : List Value) :
    Fr w0 (w.setRow b cs'.toArray) (L.set k ⟨b, cs', t⟩) := by
  refine h.setBlock hk rfl rfl rfl (by simp) ?_ (fun j hj => setRow_other _ _ _ _ (by omega))
  rw [setRow_heap _ _ _ _ _ _ (h.row hk)]

/-- What the call was given is there as it was. -/
theorem Fr.old {w0 w : World} {L : List Blk} (h : Fr w0 w L) {p : Addr} {v : Value} (hc : w0.cell? p = some v) : w.cell? p = some v := by
  rw [h.below.cell (block_lt_of_cell hc)]; exact hc

/-! ### The operations on arrays by value, at the list of a region's operations -/
section
variable {P : Program} {ops : Array Oper} {rest : List Oper} {Q : Exit → Act → World → Prop} {a : Act} {w0 w : World} {L : List Blk}

/-- A guarded operation that is wanted is as one without a guard. -/
theorem wpl_unguard {dst : Option Tmp} {op : Op} {ty : TypeId} {pos : String} {after : Array Edge} {j : Nat} {b : Bool} (hg : yielded ops a.tmps j = some b)
    (h : wpList P ops Q (⟨dst, op, ty, pos, after, none⟩ :: rest) a w) : wpList P ops Q (⟨dst, op, ty, pos, after, some (j, b)⟩ :: rest) a w := by
  have h1 : Region.wanted ⟨dst, op, ty, pos, after, some (j, b)⟩ (yielded ops a.tmps) = true := by simp [Region.wanted, hg]
  unfold wpList at h ⊢
  rw [if_pos h1]
  rw [if_pos (by rfl)] at h
  exact h

/-- A value is laid in a new block. -/
theorem wpl_box (hF : Fr w0 w L) {dst : Option Tmp} {T ty : TypeId} {x : Operand} {pos : String} {after : Array Edge} {cs : List Value}
    (hx : a.eval x = .agg cs.toArray)
    (h : ∀ b w', Fr w0 w' (L ++ [⟨b, cs, T⟩]) → wpList P ops Q rest (a.put dst (.pointer (some ⟨b, 0, none⟩))) w') :
    wpList P ops Q (⟨dst, .box T x, ty, pos, after, none⟩ :: rest) a w := by
  refine wpList_plain rfl fun K hK => ?_
  unfold Oper.wp
  simp [execOp, hx, Instr.box, newVar, newRow, Value.cells, Oper.upon]
  exact hK _ _ (h _ _ (hF.alloc cs T))

/-- A new variable of an array's type. -/
theorem wpl_alloc (hF : Fr w0 w L) {dst : Option Tmp} {T ty : TypeId} {pos : String} {after : Array Edge} {z : Value} (cs : List Value)
    (hz : ∀ w, (zeroValue T).run P w = .ok z w) (hcs : z.cells = cs.toArray)
    (h : ∀ b w', Fr w0 w' (L ++ [⟨b, cs, T⟩]) → wpList P ops Q rest (a.put dst (.pointer (some ⟨b, 0, none⟩))) w') :
    wpList P ops Q (⟨dst, .alloc T, ty, pos, after, none⟩ :: rest) a w := by
  refine wpList_plain rfl fun K hK => ?_
  unfold Oper.wp
  simp [execOp, Instr.alloc, newVar, newRow, hz, hcs, Oper.upon]
  exact hK _ _ (h _ _ (hF.alloc cs T))

/-- A whole own block is read. -/
theorem wpl_load (hF : Fr w0 w L) {dst : Option Tmp} {T T' ty : TypeId} {x : Operand} {pos : String} {after : Array Edge} {b n : Nat} {e : TypeId} {cs : List Value}
    (hx : a.eval x = .pointer (some ⟨b, 0, none⟩))
    (hk : ∃ k : Nat, L[k]? = some ⟨b, cs, T'⟩) (hu : P.underlying T = some (.array n e)) (hi : (P.info? T).map (·.size) = some cs.length)
    (h : wpList P ops Q rest (a.put dst (.agg cs.toArray)) w) :
    wpList P ops Q (⟨dst, .load T x, ty, pos, after, none⟩ :: rest) a w :=
  wpList_plain rfl fun _ hK => wp_load_row T x rfl b hx T' cs.toArray (0, 0) (.array n e) (let ⟨_, hk⟩ := hk; hF.row hk) hu rfl (by simpa using hi) (hK _ _ h)

/-- A whole own block is written. -/
theorem wpl_store (hF : Fr w0 w L) (k : Nat) {T T' ty : TypeId} {x y : Operand} {pos : String} {after : Array Edge} {b : Nat} {cs cs' : List Value}
    (hx : a.eval x = .pointer (some ⟨b, 0, none⟩))
    (hy : a.eval y = .agg cs'.toArray) (hk : L[k]? = some ⟨b, cs, T'⟩) (hi : (P.info? T).map (·.size) = some cs'.length) (hl : cs.length = cs'.length) (h1 : ∀ v ∈ cs', v.oneCell' = true)
    (h : ∀ w', Fr w0 w' (L.set k ⟨b, cs', T'⟩) → wpList P ops Q rest a w') :
    wpList P ops Q (⟨none, .store T x y, ty, pos, after, none⟩ :: rest) a w := by
  refine wpList_plain rfl fun K hK => ?_
  unfold Oper.wp execOp
  simp only [hx, hy, Instr.storeAt, Instr.sureAddr, Sem.run_bind, Sem.run_pure, Result.andThen_ok,
    run_storeVar_row w b T' T cs.toArray cs'.toArray (hF.row hk) (by simpa using hi) (by simpa using hl) (all_oneCell_toArray h1)]
  exact hK _ _ (h _ (hF.setRow hk cs'))

/-- A byte of an own block is read. -/
theorem wpl_loadB (hF : Fr w0 w L) {dst : Option Tmp} {T T' ty : TypeId} {x : Operand} {pos : String} {after : Array Edge} {b i : Nat} {kd : IntKind} {l : List UInt8}
    (hx : a.eval x = .pointer (some ⟨b, i, none⟩)) (hk : ∃ k : Nat, L[k]? = some ⟨b, bs l, T'⟩) (hu : P.underlying T = some (.int kd)) (hi : i < l.length)
    (h : wpList P ops Q rest (a.put dst (B (gb l i))) w) :
    wpList P ops Q (⟨dst, .load T x, ty, pos, after, none⟩ :: rest) a w := by
  refine wpList_plain rfl fun K hK => ?_
  obtain ⟨k, hk⟩ := hk
  have hagg : (isAgg T).run P w = .ok false w := by
    unfold isAgg
    rw [Sem.run_bind, run_underlying hu w]
    rfl
  have hc : w.cell? ⟨b, i, none⟩ = some (B (gb l i)) := by rw [hF.cell hk]; exact bs_get hi
  unfold Oper.wp execOp
  simp only [hx, Instr.loadAt, Instr.sureAddr, loadVar, Sem.run_bind, Sem.run_pure, Result.andThen_ok, hagg, Bool.false_eq_true, if_false, run_load, hc]
  exact hK _ _ h

/-- A byte of an own block is written. -/
theorem wpl_storeB (hF : Fr w0 w L) (k : Nat) {T T' ty : TypeId} {x y : Operand} {pos : String} {after : Array Edge} {b i : Nat} {l : List UInt8} {u : UInt8}
    (hx : a.eval x = .pointer (some ⟨b, i, none⟩)) (hy : a.eval y = B u) (hk : L[k]? = some ⟨b, bs l, T'⟩) (hs : (P.info? T).map (·.size) = some 1) (hi : i < l.length)
    (h : ∀ w', Fr w0 w' (L.set k ⟨b, bs (l.set i u), T'⟩) → wpList P ops Q rest a w') :
    wpList P ops Q (⟨none, .store T x y, ty, pos, after, none⟩ :: rest) a w := by
  refine wpList_plain rfl fun K hK => ?_
  have hc : w.cell? ⟨b, i, none⟩ = some (B (gb l i)) := by rw [hF.cell hk]; exact bs_get hi
  have hf : w.frozen? ⟨b, i, none⟩ = false := hF.free hk i
  have hst : (store ⟨b, i, none⟩ (B u)).run P w = .ok () (w.setCell ⟨b, i, none⟩ (B u)) := by
    rw [run_store P w _ _ _ rfl]
    simp only [hc, hf, Bool.false_eq_true, if_false]
  cases hq : P.info? T with
  | none => simp [hq] at hs
  | some inf =>
    have hs1 : inf.size = 1 := by simpa [hq] using hs
    have hcs : (B u).cells = #[B u] := rfl
    unfold Oper.wp execOp
    simp only [hx, hy, Instr.storeAt, Instr.sureAddr, storeVar, hcs, sizeOf, typeInfo, run_program, hq, hs1, Sem.run_bind, Sem.run_pure, Result.andThen_ok]
    simp [storeCells, hst, Oper.upon, Addr.add_zero']
    have := hF.setCell hk i (B u)
    rw [bs_set] at this
    exact hK _ _ (h _ this)

/-- An array of n bytes in the midst of an own block is read. -/
theorem wpl_loadMid (hF : Fr w0 w L) {dst : Option Tmp} {T T' ty : TypeId} {x : Operand} {pos : String} {after : Array Edge} {b o n : Nat} {e : TypeId} {l : List UInt8}
    (hu : P.underlying T = some (.array n e)) (hi : (P.info? T).map (·.size) = some n) (hx : a.eval x = .pointer (some ⟨b, o, none⟩)) (hk : ∃ k : Nat, L[k]? = some ⟨b, bs l, T'⟩) (hl : o + n ≤ l.length)
    (h : wpList P ops Q rest (a.put dst (.agg (bs ((l.drop o).take n)).toArray)) w) :
    wpList P ops Q (⟨dst, .load T x, ty, pos, after, none⟩ :: rest) a w := by
  obtain ⟨k, hk⟩ := hk
  refine wpList_load_mid rfl T x rfl b o hx (bs ((l.drop o).take n)) (.array n e) ?_ hu rfl (by rw [hi, bs_length]; simp; omega) h
  intro j v hv
  rw [hF.cell hk]
  simp only [bs, List.getElem?_map, List.getElem?_take, List.getElem?_drop] at hv ⊢
  split at hv
  · exact hv
  · simp at hv

/-- 'T{}' of an array's type. -/
theorem wpl_build0 {dst : Option Tmp} {T ty : TypeId} {pos : String} {after : Array Edge} {n : Nat} {e : TypeId} (cs : List Value) (hu : P.underlying T = some (.array n e)) (hi : (P.info? e).isSome = true)
    (hz : ∀ w, (zeroValue T).run P w = .ok (.agg cs.toArray) w)
    (h : wpList P ops Q rest (a.put dst (.agg cs.toArray)) w) :
    wpList P ops Q (⟨dst, .build T #[], ty, pos, after, none⟩ :: rest) a w := by
  refine wpList_plain rfl fun K hK => ?_
  obtain ⟨i, hi⟩ := Option.isSome_iff_exists.1 hi
  have hr : (Instr.build T #[]).run P w = .ok (.agg cs.toArray) w := by
    simp only [Instr.build, Sem.run_bind, hz, Result.andThen_ok, run_underlying hu, sizeOf, typeInfo, run_program, hi, Sem.run_pure, Value.cells]
    rfl
  unfold Oper.wp
  simp [execOp, hr, Oper.upon]
  exact hK _ _ h

/-- A result that lies in an own block. -/
theorem post_row (hF : Fr w0 w L) {fn : Func} {R : Ending → World → Prop} {p : Tmp} {T T' : TypeId} {b n : Nat} {e : TypeId} {cs : List Value} (hr : fn.results = #[.cell p T]) (hd : a.defers = [])
    (hp : a.tmps.getD p undef = .pointer (some ⟨b, 0, none⟩)) (hk : ∃ k : Nat, L[k]? = some ⟨b, cs, T'⟩) (hu : P.underlying T = some (.array n e)) (hi : (P.info? T).map (·.size) = some cs.length)
    (h : R (.returned (.agg cs.toArray)) w) : bodyPost P fn R .ret a w :=
  ⟨hd, _, results_cell_row hr a.tmps w b T' cs.toArray (0, 0) (.array n e) hp (let ⟨_, hk⟩ := hk; hF.row hk) hu rfl (by simpa using hi), h⟩

/-- .. and one in a slot. -/
theorem post_row_tmp (hF : Fr w0 w L) {fn : Func} {R : Ending → World → Prop} {p t : Tmp} {T T' : TypeId} {b n : Nat} {e : TypeId} {cs : List Value} {v : Value} (hr : fn.results = #[.cell p T, .tmp t]) (hd : a.defers = [])
    (hp : a.tmps.getD p undef = .pointer (some ⟨b, 0, none⟩)) (hv : a.tmps.getD t undef = v) (hk : ∃ k : Nat, L[k]? = some ⟨b, cs, T'⟩) (hu : P.underlying T = some (.array n e)) (hi : (P.info? T).map (·.size) = some cs.length)
    (h : R (.returned (.tuple #[.agg cs.toArray, v])) w) : bodyPost P fn R .ret a w := by
  refine ⟨hd, .tuple #[.agg cs.toArray, v], ?_, h⟩
  obtain ⟨k, hk⟩ := hk
  have hl := run_loadVar_row (P := P) w b T' T cs.toArray (0, 0) (.array n e) (hF.row hk) hu rfl (by simpa using hi)
  have hp' : a.tmps[p]?.getD undef = .pointer (some ⟨b, 0, none⟩) := by simpa using hp
  have hv' : a.tmps[t]?.getD undef = v := by simpa using hv
  simp [results, hr, hp', hv', asAddr, hl]

end

/-! ### A region that draws its order, whose operations read own blocks and call functions that leave alone what was there -/
section
variable {P : Program} {ops : Array Oper} {rest : List Oper} {Q : Act → Prop} {a : Act} {w0 : World} {L : List Blk}

theorem wp_region_fr {id : Nat} {Q : Exit → Act → World → Prop} {w : World} {l : List Oper} (hm : P.follows .mixedOrders = true) (hB : Region.lexB .any l.toArray = true) (hF : Fr w0 w L)
    (h : wpQuiet P l.toArray (fun w' => Fr w0 w' L) (fun a' => ∀ w', Fr w0 w' L → Q .normal a' w') l a) : (Code.region id l.toArray true).wp P Q a w :=
  wp_region_quiet (C := fun w' => Fr w0 w' L) hm hB hF.drew (by simpa using h)

theorem wq_step {o : Oper} {v : Value} (hg : o.guard = none) (hv : ∀ w, Fr w0 w L → o.quietAt P a (fun w' => Fr w0 w' L) w v) (h : wpQuiet P ops (fun w' => Fr w0 w' L) Q rest (a.put o.dst v)) :
    wpQuiet P ops (fun w' => Fr w0 w' L) Q (o :: rest) a := by
  unfold wpQuiet
  rw [if_pos (by simp [Region.wanted, hg])]
  exact ⟨v, hv, h⟩

/-- A guarded operation that is wanted is as one without a guard. -/
theorem wq_unguard {C : World → Prop} {dst : Option Tmp} {op : Op} {ty : TypeId} {pos : String} {after : Array Edge} {j : Nat} {b : Bool} (hg : yielded ops a.tmps j = some b)
    (h : wpQuiet P ops C Q (⟨dst, op, ty, pos, after, none⟩ :: rest) a) : wpQuiet P ops C Q (⟨dst, op, ty, pos, after, some (j, b)⟩ :: rest) a := by
  have h1 : Region.wanted ⟨dst, op, ty, pos, after, some (j, b)⟩ (yielded ops a.tmps) = true := by simp [Region.wanted, hg]
  unfold wpQuiet at h ⊢
  rw [if_pos h1]
  rw [if_pos (by rfl)] at h
  exact h
theorem wq_skip {C : World → Prop} {dst : Option Tmp} {op : Op} {ty : TypeId} {pos : String} {after : Array Edge} {j : Nat} {b : Bool} (hg : yielded ops a.tmps j = some !b)
    (h : wpQuiet P ops C Q rest (a.put dst undef)) : wpQuiet P ops C Q (⟨dst, op, ty, pos, after, some (j, b)⟩ :: rest) a := by
  have h1 : Region.wanted ⟨dst, op, ty, pos, after, some (j, b)⟩ (yielded ops a.tmps) = false := by simp [Region.wanted, hg]
  unfold wpQuiet
  rw [if_neg (by simp [h1])]
  exact h
/-- .. behind one that is itself not wanted. -/
theorem wq_skip_none {C : World → Prop} {dst : Option Tmp} {op : Op} {ty : TypeId} {pos : String} {after : Array Edge} {j : Nat} {b : Bool} (hg : yielded ops a.tmps j = none)
    (h : wpQuiet P ops C Q rest (a.put dst undef)) : wpQuiet P ops C Q (⟨dst, op, ty, pos, after, some (j, b)⟩ :: rest) a := by
  have h1 : Region.wanted ⟨dst, op, ty, pos, after, some (j, b)⟩ (yielded ops a.tmps) = false := by simp [Region.wanted, hg]
  unfold wpQuiet
  rw [if_neg (by simp [h1])]
  exact h

/-- A whole own block is read. -/
theorem wq_load {dst : Option Tmp} {T T' ty : TypeId} {x : Operand} {pos : String} {after : Array Edge} {b n : Nat} {e : TypeId} {cs : List Value}
    (hx : a.eval x = .pointer (some ⟨b, 0, none⟩)) (hk : ∃ k : Nat, L[k]? = some ⟨b, cs, T'⟩) (hu : P.underlying T = some (.array n e)) (hi : (P.info? T).map (·.size) = some cs.length)
    (h : wpQuiet P ops (fun w' => Fr w0 w' L) Q rest (a.put dst (.agg cs.toArray))) :
    wpQuiet P ops (fun w' => Fr w0 w' L) Q (⟨dst, .load T x, ty, pos, after, none⟩ :: rest) a := by
  refine wq_step rfl (fun w hF => ?_) h
  obtain ⟨k, hk⟩ := hk
  unfold Oper.quietAt execOp
  simp only [hx, Instr.loadAt, Instr.sureAddr, Sem.run_bind, Sem.run_pure, Result.andThen_ok, run_loadVar_row w b T' T cs.toArray (0, 0) (.array n e) (hF.row hk) hu rfl (by simpa using hi)]
  exact ⟨rfl, rfl⟩

/-- A call. -/
theorem wq_call {dst : Option Tmp} {f : FuncId} {xs : Array Operand} {ts : Array TypeId} {ty : TypeId} {pos : String} {after : Array Edge} {vals : Array Value} {v : Value}
    (hc : ∀ args w, (callFunc f args).run P w = .ok (.enter f args) w) (hx : xs.map a.eval = vals) (hv : ∀ w, Fr w0 w L → Calls P f vals w fun e w' => e = .returned v ∧ Below w.heap.size w w')
    (h : wpQuiet P ops (fun w' => Fr w0 w' L) Q rest (a.put dst v)) :
    wpQuiet P ops (fun w' => Fr w0 w' L) Q (⟨dst, .call { callee := .value (.func f), args := xs, argTypes := ts }, ty, pos, after, none⟩ :: rest) a := by
  refine wq_step rfl (fun w hF => ?_) h
  unfold Oper.quietAt execOp
  simp only [resolve, hx, Act.eval, Deferred.ofValue, Sem.run_bind, Sem.run_pure, Result.andThen_ok, invoke, Array.append_empty, Array.empty_append, hc]
  exact ⟨rfl, (hv w hF).mono fun e w' ⟨he, hb⟩ => ⟨he, hF.call hb⟩⟩

/-- Whatever only reckons. -/
theorem wq_pure {dst : Option Tmp} {op : Op} {ty : TypeId} {pos : String} {after : Array Edge} {v : Value}
    (hv : ∀ w, (execOp a.eval ⟨dst, op, ty, pos, after, none⟩).run P w = .ok (.value v) w) (h : wpQuiet P ops (fun w' => Fr w0 w' L) Q rest (a.put dst v)) :
    wpQuiet P ops (fun w' => Fr w0 w' L) Q (⟨dst, op, ty, pos, after, none⟩ :: rest) a := by
  refine wq_step rfl (fun w _ => ?_) h
  unfold Oper.quietAt
  rw [hv w]
  exact ⟨rfl, rfl⟩
theorem wq_move {dst : Option Tmp} {x : Operand} {ty : TypeId} {pos : String} {after : Array Edge} {v : Value} (hx : a.eval x = v) (h : wpQuiet P ops (fun w' => Fr w0 w' L) Q rest (a.put dst v)) :
    wpQuiet P ops (fun w' => Fr w0 w' L) Q (⟨dst, .move x, ty, pos, after, none⟩ :: rest) a := by
  subst hx
  exact wq_pure (fun w => by simp [execOp]) h
theorem wq_assign {dst : Option Tmp} {x : Operand} {ty : TypeId} {pos : String} {after : Array Edge} {v : Value} (hx : a.eval x = v) (h : wpQuiet P ops (fun w' => Fr w0 w' L) Q rest (a.put dst v)) :
    wpQuiet P ops (fun w' => Fr w0 w' L) Q (⟨dst, .assign x, ty, pos, after, none⟩ :: rest) a := by
  subst hx
  exact wq_pure (fun w => by simp [execOp]) h
theorem wq_pick {dst : Option Tmp} {c x y : Operand} {ty : TypeId} {pos : String} {after : Array Edge} {v : Value} (hc : a.eval c = .bool true) (hx : a.eval x = v)
    (h : wpQuiet P ops (fun w' => Fr w0 w' L) Q rest (a.put dst v)) :
    wpQuiet P ops (fun w' => Fr w0 w' L) Q (⟨dst, .pick c x y, ty, pos, after, none⟩ :: rest) a := by
  subst hx
  exact wq_pure (fun w => by simp [execOp, hc, asBool]) h
theorem wq_pick' {dst : Option Tmp} {c x y : Operand} {ty : TypeId} {pos : String} {after : Array Edge} {v : Value} (hc : a.eval c = .bool false) (hy : a.eval y = v)
    (h : wpQuiet P ops (fun w' => Fr w0 w' L) Q rest (a.put dst v)) :
    wpQuiet P ops (fun w' => Fr w0 w' L) Q (⟨dst, .pick c x y, ty, pos, after, none⟩ :: rest) a := by
  subst hy
  exact wq_pure (fun w => by simp [execOp, hc, asBool]) h
theorem wq_not {dst : Option Tmp} {x : Operand} {T ty : TypeId} {pos : String} {after : Array Edge} {t : Bool} (hx : a.eval x = .bool t)
    (h : wpQuiet P ops (fun w' => Fr w0 w' L) Q rest (a.put dst (.bool !t))) :
    wpQuiet P ops (fun w' => Fr w0 w' L) Q (⟨dst, .unOp .not T x, ty, pos, after, none⟩ :: rest) a :=
  wq_pure (fun w => by simp [execOp, hx, Op.unary]) h
theorem wq_eqbool {dst : Option Tmp} {x y : Operand} {T ty T' : TypeId} {pos : String} {after : Array Edge} {t u : Bool} (hx : a.eval x = .bool t) (hy : a.eval y = .bool u) (hT : P.underlying T = some .bool)
    (h : wpQuiet P ops (fun w' => Fr w0 w' L) Q rest (a.put dst (.bool (t == u)))) :
    wpQuiet P ops (fun w' => Fr w0 w' L) Q (⟨dst, .binOp .eql T x y T', ty, pos, after, none⟩ :: rest) a :=
  wq_pure (fun w => by simp [execOp, hx, hy, eqGuard_at_bool, run_eql_bool w T t u hT]) h
theorem wq_neqbool {dst : Option Tmp} {x y : Operand} {T ty T' : TypeId} {pos : String} {after : Array Edge} {t u : Bool} (hx : a.eval x = .bool t) (hy : a.eval y = .bool u) (hT : P.underlying T = some .bool)
    (h : wpQuiet P ops (fun w' => Fr w0 w' L) Q rest (a.put dst (.bool (!(t == u))))) :
    wpQuiet P ops (fun w' => Fr w0 w' L) Q (⟨dst, .binOp .neq T x y T', ty, pos, after, none⟩ :: rest) a :=
  wq_pure (fun w => by simp [execOp, hx, hy, eqGuard_at_bool, run_neq_bool w T t u hT]) h
theorem wq_eqbytes {dst : Option Tmp} {x y : Operand} {T ty T' : TypeId} {pos : String} {after : Array Edge} {t u : List UInt8} (hx : a.eval x = .agg (bs t).toArray) (hy : a.eval y = .agg (bs u).toArray)
    (hg : P.eqGuardType P.depth T = false) (hq : ∀ w, (Op.equalIn 10000 T (.agg (bs t).toArray) (.agg (bs u).toArray)).run P w = .ok (decide (t = u)) w)
    (h : wpQuiet P ops (fun w' => Fr w0 w' L) Q rest (a.put dst (.bool (decide (t = u))))) :
    wpQuiet P ops (fun w' => Fr w0 w' L) Q (⟨dst, .binOp .eql T x y T', ty, pos, after, none⟩ :: rest) a :=
  wq_pure (fun w => by simp [execOp, hx, hy, run_eqGuard_agg w _ T _ _ _ _ hg, run_eql_struct, hq]) h
end

/-! ### Two arrays of bytes are compared -/
section
variable {P : Program} (w : World)
theorem run_eqItems_bytes (d : Nat) {e : TypeId} (he : P.underlying e = some (.int .u8)) (hc : P.cellsOf e = 1) (x y : List UInt8) : ∀ (n k : Nat), k + n = x.length → k + n = y.length →
    (Op.eqItems (d + 1) e (P.cellsOf e) (bs x).toArray (bs y).toArray (List.range' k n)).run P w = .ok (decide (x.drop k = y.drop k)) w
  | 0, k, hx, hy => by simp [Op.eqItems, List.drop_eq_nil_of_le (show x.length ≤ k by omega), List.drop_eq_nil_of_le (show y.length ≤ k by omega)]
  | n + 1, k, hx, hy => by
    have ih := run_eqItems_bytes d he hc x y n (k + 1) (by omega) (by omega)
    have hkx : k < x.length := by omega
    have hky : k < y.length := by omega
    have hagg : (isAgg e).run P w = .ok false w := by
      unfold isAgg
      rw [Sem.run_bind, run_underlying he w]
      rfl
    have px : (part e (bs x).toArray (k * 1)).run P w = .ok (B x[k]) w := by
      simp [part, Sem.run_bind, hagg, bs, hkx]
    have py : (part e (bs y).toArray (k * 1)).run P w = .ok (B y[k]) w := by
      simp [part, Sem.run_bind, hagg, bs, hky]
    rw [hc] at ih
    simp only [hc, List.range'_succ, Op.eqItems, Sem.run_bind, px, py, Result.andThen_ok]
    unfold B
    rw [run_equalIn_int w d e .u8 .u8 _ _ he]
    simp only [Result.andThen_ok]
    have key : (x.drop k = y.drop k) ↔ (x[k] = y[k] ∧ x.drop (k + 1) = y.drop (k + 1)) := by
      rw [List.drop_eq_getElem_cons hkx, List.drop_eq_getElem_cons hky, List.cons.injEq]
    by_cases hxy : x[k] = y[k]
    · rw [if_neg (by simp [hxy]), ih, decide_eq_decide.2 (key.trans ⟨fun h => h.2, fun h => ⟨hxy, h⟩⟩)]
    · have hne : ¬ ((x[k].toNat : Int) = (y[k].toNat : Int)) := fun h => hxy (UInt8.toNat_inj.1 (by omega))
      rw [if_pos (by simpa using hne), Sem.run_pure, decide_eq_false fun h => hxy (key.1 h).1]

/-- '==' of two arrays of n bytes. -/
theorem run_equal_bytes (d : Nat) {t e : TypeId} {n : Nat} (ht : P.underlying t = some (.array n e)) (he : P.underlying e = some (.int .u8)) (hi : (P.info? e).map (·.size) = some 1)
    (x y : List UInt8) (hx : x.length = n) (hy : y.length = n) :
    (Op.equalIn (d + 2) t (.agg (bs x).toArray) (.agg (bs y).toArray)).run P w = .ok (decide (x = y)) w := by
  cases hq : P.info? e with
  | none => simp [hq] at hi
  | some i =>
    have hs : i.size = 1 := by simpa [hq] using hi
    have hc : P.cellsOf e = 1 := by simp [Program.cellsOf, hq, hs]
    rw [run_equalIn_array w (d + 1) _ _ ht hq, List.range_eq_range', run_eqItems_bytes w d he hc x y n 0 (by omega) (by omega)]
    simp
end
end Go.Proofs.Ytjjkndbkjnfimaa
