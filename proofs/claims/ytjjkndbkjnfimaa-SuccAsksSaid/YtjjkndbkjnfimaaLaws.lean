/-
  LAWS FOR SINGLE OPERATIONS, at the list of a region's operations, plain and drawn: cells of own blocks, addresses, literals, operations on words. No Go function is named here.
-/
import Derived.Test.YtjjkndbkjnfimaaTail
import Derived.Test.YtjjkndbkjnfimaaWord
namespace Go.Proofs.Ytjjkndbkjnfimaa
set_option linter.unusedSimpArgs false
set_option linter.unusedVariables false

section
variable {P : Program} {ops : Array Oper} {rest : List Oper} {Q : Exit → Act → World → Prop} {a : Act} {w0 w : World} {L : List Blk}

/-- Whatever only reckons. -/
theorem wpl_pure {dst : Option Tmp} {op : Op} {ty : TypeId} {pos : String} {after : Array Edge} {v : Value}
    (hv : ∀ w, (execOp a.eval ⟨dst, op, ty, pos, after, none⟩).run P w = .ok (.value v) w) (h : wpList P ops Q rest (a.put dst v) w) :
    wpList P ops Q (⟨dst, op, ty, pos, after, none⟩ :: rest) a w := by
  refine wpList_plain rfl fun K hK => ?_
  unfold Oper.wp
  rw [hv]
  exact hK _ _ h

/-- A literal of a type. -/
theorem wpl_build {dst : Option Tmp} {T ty : TypeId} {pos : String} {after : Array Edge} {parts : Array (Nat × Operand)} (v : Value)
    (hv : ∀ w, (Instr.build T (parts.map fun (i, x) => (i, a.eval x))).run P w = .ok v w) (h : wpList P ops Q rest (a.put dst v) w) :
    wpList P ops Q (⟨dst, .build T parts, ty, pos, after, none⟩ :: rest) a w :=
  wpl_pure (v := v) (fun w => by simp only [execOp, Sem.run_bind, hv, Result.andThen_ok, Sem.run_pure]) h

/-- A cell of an own block is read. -/
theorem wpl_loadV (hF : Fr w0 w L) {dst : Option Tmp} {T T' ty : TypeId} {x : Operand} {pos : String} {after : Array Edge} {b i : Nat} {kd : IntKind} {cs : List Value} {v : Value}
    (hx : a.eval x = .pointer (some ⟨b, i, none⟩)) (hk : ∃ k : Nat, L[k]? = some ⟨b, cs, T'⟩) (hu : P.underlying T = some (.int kd)) (hi : cs[i]? = some v)
    (h : wpList P ops Q rest (a.put dst v) w) :
    wpList P ops Q (⟨dst, .load T x, ty, pos, after, none⟩ :: rest) a w := by
  refine wpl_pureAt ?_ h
  obtain ⟨k, hk⟩ := hk
  have hagg : (isAgg T).run P w = .ok false w := by
    unfold isAgg
    rw [Sem.run_bind, run_underlying hu w]
    rfl
  have hc : w.cell? ⟨b, i, none⟩ = some v := by rw [hF.cell hk]; exact hi
  simp only [execOp, hx, Instr.loadAt, Instr.sureAddr, loadVar, Sem.run_bind, Sem.run_pure, Result.andThen_ok, hagg, Bool.false_eq_true, if_false, run_load, hc]
where
  wpl_pureAt {dst : Option Tmp} {op : Op} {ty : TypeId} {pos : String} {after : Array Edge} {v : Value}
    (hv : (execOp a.eval ⟨dst, op, ty, pos, after, none⟩).run P w = .ok (.value v) w) (h : wpList P ops Q rest (a.put dst v) w) :
    wpList P ops Q (⟨dst, op, ty, pos, after, none⟩ :: rest) a w := by
    refine wpList_plain rfl fun K hK => ?_
    unfold Oper.wp
    rw [hv]
    exact hK _ _ h

/-- A cell of an own block is written. -/
theorem wpl_storeV (hF : Fr w0 w L) (k : Nat) {T T' ty : TypeId} {x y : Operand} {pos : String} {after : Array Edge} {b i : Nat} {cs : List Value} {v u : Value}
    (hx : a.eval x = .pointer (some ⟨b, i, none⟩)) (hy : a.eval y = u) (hk : L[k]? = some ⟨b, cs, T'⟩) (hs : (P.info? T).map (·.size) = some 1) (hi : cs[i]? = some v) (h1 : u.oneCell' = true)
    (h : ∀ w', Fr w0 w' (L.set k ⟨b, cs.set i u, T'⟩) → wpList P ops Q rest a w') :
    wpList P ops Q (⟨none, .store T x y, ty, pos, after, none⟩ :: rest) a w := by
  refine wpList_plain rfl fun K hK => ?_
  have hc : w.cell? ⟨b, i, none⟩ = some v := by rw [hF.cell hk]; exact hi
  have hf : w.frozen? ⟨b, i, none⟩ = false := hF.free hk i
  have hst : (store ⟨b, i, none⟩ u).run P w = .ok () (w.setCell ⟨b, i, none⟩ u) := by
    rw [run_store P w _ _ _ h1]
    simp only [hc, hf, Bool.false_eq_true, if_false]
  cases hq : P.info? T with
  | none => simp [hq] at hs
  | some inf =>
    have hs1 : inf.size = 1 := by simpa [hq] using hs
    have hcs : u.cells = #[u] := by cases u <;> first | rfl | simp [Value.oneCell'] at h1
    unfold Oper.wp execOp
    simp only [hx, hy, Instr.storeAt, Instr.sureAddr, storeVar, hcs, sizeOf, typeInfo, run_program, hq, hs1, Sem.run_bind, Sem.run_pure, Result.andThen_ok]
    simp [storeCells, hst, Oper.upon, Addr.add_zero']
    exact hK _ _ (h _ (hF.setCell hk i u))

/-- A word of an own block is written. -/
theorem wpl_storeW (hF : Fr w0 w L) (k : Nat) {T T' ty : TypeId} {x y : Operand} {pos : String} {after : Array Edge} {b i : Nat} {l : List UInt32} {u : UInt32}
    (hx : a.eval x = .pointer (some ⟨b, i, none⟩)) (hy : a.eval y = W u) (hk : L[k]? = some ⟨b, ws l, T'⟩) (hs : (P.info? T).map (·.size) = some 1) (hi : i < l.length)
    (h : ∀ w', Fr w0 w' (L.set k ⟨b, ws (l.set i u), T'⟩) → wpList P ops Q rest a w') :
    wpList P ops Q (⟨none, .store T x y, ty, pos, after, none⟩ :: rest) a w :=
  wpl_storeV hF k hx hy hk hs (ws_get hi) rfl (by rw [ws_set]; exact h)

/-- The address of an element of an array. -/
theorem run_idxA {T e : TypeId} {n b : Nat} {k : Int} (hu : P.underlying T = some (.array n e)) (he : (P.info? e).map (·.size) = some 1) (h0 : 0 ≤ k) (h1 : k < n) (w : World) :
    (Instr.indexAt T (.pointer (some ⟨b, 0, none⟩)) (.int .i64 k)).run P w = .ok (.pointer (some ⟨b, k.toNat, none⟩)) w := by
  cases hq : P.info? e with
  | none => simp [hq] at he
  | some inf =>
    have hs : inf.size = 1 := by simpa [hq] using he
    simp [Instr.indexAt, run_underlying hu, Instr.sureAddr, asIntOf, h0, h1, sizeOf, typeInfo, hq, hs, Addr.add]
    omega
/-- .. of a slice. -/
theorem run_idxS {T e : TypeId} {n c b o : Nat} {k : Int} (hu : P.underlying T = some (.slice e)) (he : (P.info? e).map (·.size) = some 1) (h0 : 0 ≤ k) (h1 : k < n) (w : World) :
    (Instr.indexAt T (.slice (some ⟨b, o, none⟩) n c) (.int .i64 k)).run P w = .ok (.pointer (some ⟨b, o + k.toNat, none⟩)) w := by
  cases hq : P.info? e with
  | none => simp [hq] at he
  | some inf =>
    have hs : inf.size = 1 := by simpa [hq] using he
    simp [Instr.indexAt, run_underlying hu, asIntOf, h0, h1, sizeOf, typeInfo, hq, hs, Addr.add]

/-- An element of an array's value. -/
theorem run_indexV {T e : TypeId} {kd : IntKind} {n : Nat} {cs : List Value} {k : Int} {v : Value} (hu : P.underlying T = some (.array n e)) (hue : P.underlying e = some (.int kd)) (he : (P.info? e).map (·.size) = some 1) (h0 : 0 ≤ k) (h1 : k < n) (hv : cs[k.toNat]? = some v) (w : World) :
    (Instr.index T (.agg cs.toArray) (.int .i64 k)).run P w = .ok v w := by
  cases hq : P.info? e with
  | none => simp [hq] at he
  | some inf =>
    have hs : inf.size = 1 := by simpa [hq] using he
    have hagg : (isAgg e).run P w = .ok false w := by
      unfold isAgg
      rw [Sem.run_bind, run_underlying hue w]
      rfl
    simp [Instr.index, run_underlying hu, asIntOf, h0, h1, sizeOf, typeInfo, hq, hs, part, hagg, hv]
theorem wpl_indexV {dst : Option Tmp} {T ty : TypeId} {x y : Operand} {pos : String} {after : Array Edge} {n : Nat} {e : TypeId} {kd : IntKind} {cs : List Value} {k : Int} {v : Value}
    (hx : a.eval x = .agg cs.toArray) (hy : a.eval y = .int .i64 k) (hu : P.underlying T = some (.array n e)) (hue : P.underlying e = some (.int kd)) (he : (P.info? e).map (·.size) = some 1) (h0 : 0 ≤ k) (h1 : k < n) (hv : cs[k.toNat]? = some v)
    (h : wpList P ops Q rest (a.put dst v) w) :
    wpList P ops Q (⟨dst, .index T x y, ty, pos, after, none⟩ :: rest) a w :=
  wpl_pure (fun w => by simp only [execOp, hx, hy, Sem.run_bind, run_indexV hu hue he h0 h1 hv, Result.andThen_ok, Sem.run_pure]) h

theorem wpl_idxA {dst : Option Tmp} {T ty : TypeId} {x y : Operand} {pos : String} {after : Array Edge} {b n : Nat} {e : TypeId} {k : Int}
    (hx : a.eval x = .pointer (some ⟨b, 0, none⟩)) (hy : a.eval y = .int .i64 k) (hu : P.underlying T = some (.array n e)) (he : (P.info? e).map (·.size) = some 1) (h0 : 0 ≤ k) (h1 : k < n)
    (h : wpList P ops Q rest (a.put dst (.pointer (some ⟨b, k.toNat, none⟩))) w) :
    wpList P ops Q (⟨dst, .indexAddr T x y, ty, pos, after, none⟩ :: rest) a w :=
  wpl_pure (fun w => by simp only [execOp, hx, hy, Sem.run_bind, run_idxA hu he h0 h1, Result.andThen_ok, Sem.run_pure]) h
theorem wpl_idxS {dst : Option Tmp} {T ty : TypeId} {x y : Operand} {pos : String} {after : Array Edge} {b o n c : Nat} {e : TypeId} {k : Int}
    (hx : a.eval x = .slice (some ⟨b, o, none⟩) n c) (hy : a.eval y = .int .i64 k) (hu : P.underlying T = some (.slice e)) (he : (P.info? e).map (·.size) = some 1) (h0 : 0 ≤ k) (h1 : k < n)
    (h : wpList P ops Q rest (a.put dst (.pointer (some ⟨b, o + k.toNat, none⟩))) w) :
    wpList P ops Q (⟨dst, .indexAddr T x y, ty, pos, after, none⟩ :: rest) a w :=
  wpl_pure (fun w => by simp only [execOp, hx, hy, Sem.run_bind, run_idxS hu he h0 h1, Result.andThen_ok, Sem.run_pure]) h
end

section
variable {P : Program} {ops : Array Oper} {rest : List Oper} {Q : Act → Prop} {a : Act} {w0 : World} {L : List Blk}

theorem wq_idxA {dst : Option Tmp} {T ty : TypeId} {x y : Operand} {pos : String} {after : Array Edge} {b n : Nat} {e : TypeId} {k : Int}
    (hx : a.eval x = .pointer (some ⟨b, 0, none⟩)) (hy : a.eval y = .int .i64 k) (hu : P.underlying T = some (.array n e)) (he : (P.info? e).map (·.size) = some 1) (h0 : 0 ≤ k) (h1 : k < n)
    (h : wpQuiet P ops (fun w' => Fr w0 w' L) Q rest (a.put dst (.pointer (some ⟨b, k.toNat, none⟩)))) :
    wpQuiet P ops (fun w' => Fr w0 w' L) Q (⟨dst, .indexAddr T x y, ty, pos, after, none⟩ :: rest) a :=
  wq_pure (fun w => by simp only [execOp, hx, hy, Sem.run_bind, run_idxA hu he h0 h1, Result.andThen_ok, Sem.run_pure]) h
theorem wq_idxS {dst : Option Tmp} {T ty : TypeId} {x y : Operand} {pos : String} {after : Array Edge} {b o n c : Nat} {e : TypeId} {k : Int}
    (hx : a.eval x = .slice (some ⟨b, o, none⟩) n c) (hy : a.eval y = .int .i64 k) (hu : P.underlying T = some (.slice e)) (he : (P.info? e).map (·.size) = some 1) (h0 : 0 ≤ k) (h1 : k < n)
    (h : wpQuiet P ops (fun w' => Fr w0 w' L) Q rest (a.put dst (.pointer (some ⟨b, o + k.toNat, none⟩)))) :
    wpQuiet P ops (fun w' => Fr w0 w' L) Q (⟨dst, .indexAddr T x y, ty, pos, after, none⟩ :: rest) a :=
  wq_pure (fun w => by simp only [execOp, hx, hy, Sem.run_bind, run_idxS hu he h0 h1, Result.andThen_ok, Sem.run_pure]) h

theorem run_loadCell {T : TypeId} {kd : IntKind} {w : World} {p : Addr} {v : Value} (hu : P.underlying T = some (.int kd)) (hc : w.cell? p = some v) : (loadVar T p).run P w = .ok v w := by
  have hagg : (isAgg T).run P w = .ok false w := by
    unfold isAgg
    rw [Sem.run_bind, run_underlying hu w]
    rfl
  simp only [loadVar, Sem.run_bind, Result.andThen_ok, hagg, Bool.false_eq_true, if_false, run_load, hc]

/-- A cell of an own block is read. -/
theorem wq_loadV {dst : Option Tmp} {T T' ty : TypeId} {x : Operand} {pos : String} {after : Array Edge} {b i : Nat} {kd : IntKind} {cs : List Value} {v : Value}
    (hx : a.eval x = .pointer (some ⟨b, i, none⟩)) (hu : P.underlying T = some (.int kd)) (hk : ∃ k : Nat, L[k]? = some ⟨b, cs, T'⟩) (hi : cs[i]? = some v)
    (h : wpQuiet P ops (fun w' => Fr w0 w' L) Q rest (a.put dst v)) :
    wpQuiet P ops (fun w' => Fr w0 w' L) Q (⟨dst, .load T x, ty, pos, after, none⟩ :: rest) a := by
  refine wq_step rfl (fun w hF => ?_) h
  obtain ⟨k, hk⟩ := hk
  unfold Oper.quietAt execOp
  simp only [hx, Instr.loadAt, Instr.sureAddr, Sem.run_bind, Sem.run_pure, Result.andThen_ok, run_loadCell hu ((hF.cell hk i).trans hi)]
  exact ⟨rfl, rfl⟩
/-- A cell that the call was given is read. -/
theorem wq_loadO {dst : Option Tmp} {T ty : TypeId} {x : Operand} {pos : String} {after : Array Edge} {p : Addr} {kd : IntKind} {v : Value}
    (hx : a.eval x = .pointer (some p)) (hu : P.underlying T = some (.int kd)) (hi : w0.cell? p = some v)
    (h : wpQuiet P ops (fun w' => Fr w0 w' L) Q rest (a.put dst v)) :
    wpQuiet P ops (fun w' => Fr w0 w' L) Q (⟨dst, .load T x, ty, pos, after, none⟩ :: rest) a := by
  refine wq_step rfl (fun w hF => ?_) h
  unfold Oper.quietAt execOp
  simp only [hx, Instr.loadAt, Instr.sureAddr, Sem.run_bind, Sem.run_pure, Result.andThen_ok, run_loadCell hu (hF.old hi)]
  exact ⟨rfl, rfl⟩

/-- An operation on two values. -/
theorem wq_bin {dst : Option Tmp} {op : BinOp} {x y : Operand} {T ty T' : TypeId} {pos : String} {after : Array Edge} {u v r : Value} (hx : a.eval x = u) (hy : a.eval y = v)
    (hg : eqGuard op T x y u v = pure ()) (hr : ∀ w, (binOp op T u v).run P w = .ok r w)
    (h : wpQuiet P ops (fun w' => Fr w0 w' L) Q rest (a.put dst r)) :
    wpQuiet P ops (fun w' => Fr w0 w' L) Q (⟨dst, .binOp op T x y T', ty, pos, after, none⟩ :: rest) a :=
  wq_pure (fun w => by simp only [execOp, hx, hy, hg, Sem.run_bind, Sem.run_pure, Result.andThen_ok, hr]) h
theorem wq_addW {dst : Option Tmp} {x y : Operand} {T ty T' : TypeId} {pos : String} {after : Array Edge} {p q : UInt32} (hx : a.eval x = W p) (hy : a.eval y = W q)
    (h : wpQuiet P ops (fun w' => Fr w0 w' L) Q rest (a.put dst (W (p + q)))) : wpQuiet P ops (fun w' => Fr w0 w' L) Q (⟨dst, .binOp .add T x y T', ty, pos, after, none⟩ :: rest) a :=
  wq_bin hx hy (eqGuard_W ..) (fun w => by rw [binOp_add_W]; rfl) h
theorem wq_xorW {dst : Option Tmp} {x y : Operand} {T ty T' : TypeId} {pos : String} {after : Array Edge} {p q : UInt32} (hx : a.eval x = W p) (hy : a.eval y = W q)
    (h : wpQuiet P ops (fun w' => Fr w0 w' L) Q rest (a.put dst (W (p ^^^ q)))) : wpQuiet P ops (fun w' => Fr w0 w' L) Q (⟨dst, .binOp .xor T x y T', ty, pos, after, none⟩ :: rest) a :=
  wq_bin hx hy (eqGuard_W ..) (fun w => by rw [binOp_xor_W]; rfl) h
theorem wq_orW {dst : Option Tmp} {x y : Operand} {T ty T' : TypeId} {pos : String} {after : Array Edge} {p q : UInt32} (hx : a.eval x = W p) (hy : a.eval y = W q)
    (h : wpQuiet P ops (fun w' => Fr w0 w' L) Q rest (a.put dst (W (p ||| q)))) : wpQuiet P ops (fun w' => Fr w0 w' L) Q (⟨dst, .binOp .or T x y T', ty, pos, after, none⟩ :: rest) a :=
  wq_bin hx hy (eqGuard_W ..) (fun w => by rw [binOp_or_W]; rfl) h
theorem wq_andW {dst : Option Tmp} {x y : Operand} {T ty T' : TypeId} {pos : String} {after : Array Edge} {p q : UInt32} (hx : a.eval x = W p) (hy : a.eval y = W q)
    (h : wpQuiet P ops (fun w' => Fr w0 w' L) Q rest (a.put dst (W (p &&& q)))) : wpQuiet P ops (fun w' => Fr w0 w' L) Q (⟨dst, .binOp .and T x y T', ty, pos, after, none⟩ :: rest) a :=
  wq_bin hx hy (eqGuard_W ..) (fun w => by rw [binOp_and_W]; rfl) h
theorem wq_shrW {dst : Option Tmp} {x y : Operand} {T ty T' : TypeId} {pos : String} {after : Array Edge} {p : UInt32} {k : IntKind} {n : Int} (hx : a.eval x = W p) (hy : a.eval y = .int k n) (hn : 0 ≤ n)
    (h : wpQuiet P ops (fun w' => Fr w0 w' L) Q rest (a.put dst (W (sr p n.toNat)))) : wpQuiet P ops (fun w' => Fr w0 w' L) Q (⟨dst, .binOp .shr T x y T', ty, pos, after, none⟩ :: rest) a :=
  wq_bin hx hy (eqGuard_W ..) (fun w => by rw [binOp_shr_W _ _ _ _ hn]; rfl) h
theorem wq_shlW {dst : Option Tmp} {x y : Operand} {T ty T' : TypeId} {pos : String} {after : Array Edge} {p : UInt32} {k : IntKind} {n : Int} (hx : a.eval x = W p) (hy : a.eval y = .int k n) (hn : 0 ≤ n)
    (h : wpQuiet P ops (fun w' => Fr w0 w' L) Q rest (a.put dst (W (sl p n.toNat)))) : wpQuiet P ops (fun w' => Fr w0 w' L) Q (⟨dst, .binOp .shl T x y T', ty, pos, after, none⟩ :: rest) a :=
  wq_bin hx hy (eqGuard_W ..) (fun w => by rw [binOp_shl_W _ _ _ _ hn]; rfl) h
theorem wq_notW {dst : Option Tmp} {x : Operand} {T ty : TypeId} {pos : String} {after : Array Edge} {p : UInt32} (hx : a.eval x = W p)
    (h : wpQuiet P ops (fun w' => Fr w0 w' L) Q rest (a.put dst (W (~~~p)))) : wpQuiet P ops (fun w' => Fr w0 w' L) Q (⟨dst, .unOp .xor T x, ty, pos, after, none⟩ :: rest) a :=
  wq_pure (fun w => by simp only [execOp, hx, unary_xor_W, Sem.run_bind, Sem.run_pure, Result.andThen_ok]) h
theorem wq_cvBW {dst : Option Tmp} {x : Operand} {T T' ty : TypeId} {pos : String} {after : Array Edge} {p : UInt8} (hx : a.eval x = B p) (hs : (P.underlying T).isSome = true) (hd : P.underlying T' = some (.int .u32))
    (h : wpQuiet P ops (fun w' => Fr w0 w' L) Q rest (a.put dst (W (up p)))) : wpQuiet P ops (fun w' => Fr w0 w' L) Q (⟨dst, .convert T T' x, ty, pos, after, none⟩ :: rest) a :=
  wq_pure (fun w => by simp only [execOp, hx, run_convert_B_W w T T' p hs hd, Sem.run_bind, Sem.run_pure, Result.andThen_ok]) h
theorem wq_cvWB {dst : Option Tmp} {x : Operand} {T T' ty : TypeId} {pos : String} {after : Array Edge} {p : UInt32} (hx : a.eval x = W p) (hs : (P.underlying T).isSome = true) (hd : P.underlying T' = some (.int .u8))
    (h : wpQuiet P ops (fun w' => Fr w0 w' L) Q rest (a.put dst (B (down p)))) : wpQuiet P ops (fun w' => Fr w0 w' L) Q (⟨dst, .convert T T' x, ty, pos, after, none⟩ :: rest) a :=
  wq_pure (fun w => by simp only [execOp, hx, run_convert_W_B w T T' p hs hd, Sem.run_bind, Sem.run_pure, Result.andThen_ok]) h
/-- Sums, differences, products of ints that stay ints. -/
theorem wq_addI {dst : Option Tmp} {x y : Operand} {T ty T' : TypeId} {pos : String} {after : Array Edge} {m n : Int} (hx : a.eval x = .int .i64 m) (hy : a.eval y = .int .i64 n)
    (hr : -9223372036854775808 ≤ m + n ∧ m + n ≤ 9223372036854775807)
    (h : wpQuiet P ops (fun w' => Fr w0 w' L) Q rest (a.put dst (.int .i64 (m + n)))) : wpQuiet P ops (fun w' => Fr w0 w' L) Q (⟨dst, .binOp .add T x y T', ty, pos, after, none⟩ :: rest) a :=
  wq_bin hx hy rfl (fun w => by
    show Result.ok (Value.int .i64 (IntKind.i64.wrap (m + n))) w = _
    rw [IntWalk.i64_in _ hr]) h
theorem wq_subI {dst : Option Tmp} {x y : Operand} {T ty T' : TypeId} {pos : String} {after : Array Edge} {m n : Int} (hx : a.eval x = .int .i64 m) (hy : a.eval y = .int .i64 n)
    (hr : -9223372036854775808 ≤ m - n ∧ m - n ≤ 9223372036854775807)
    (h : wpQuiet P ops (fun w' => Fr w0 w' L) Q rest (a.put dst (.int .i64 (m - n)))) : wpQuiet P ops (fun w' => Fr w0 w' L) Q (⟨dst, .binOp .sub T x y T', ty, pos, after, none⟩ :: rest) a :=
  wq_bin hx hy rfl (fun w => by
    show Result.ok (Value.int .i64 (IntKind.i64.wrap (m - n))) w = _
    rw [IntWalk.i64_in _ hr]) h
theorem wq_mulI {dst : Option Tmp} {x y : Operand} {T ty T' : TypeId} {pos : String} {after : Array Edge} {m n : Int} (hx : a.eval x = .int .i64 m) (hy : a.eval y = .int .i64 n)
    (hr : -9223372036854775808 ≤ m * n ∧ m * n ≤ 9223372036854775807)
    (h : wpQuiet P ops (fun w' => Fr w0 w' L) Q rest (a.put dst (.int .i64 (m * n)))) : wpQuiet P ops (fun w' => Fr w0 w' L) Q (⟨dst, .binOp .mul T x y T', ty, pos, after, none⟩ :: rest) a :=
  wq_bin hx hy rfl (fun w => by
    show Result.ok (Value.int .i64 (IntKind.i64.wrap (m * n))) w = _
    rw [IntWalk.i64_in _ hr]) h
end
end Go.Proofs.Ytjjkndbkjnfimaa
