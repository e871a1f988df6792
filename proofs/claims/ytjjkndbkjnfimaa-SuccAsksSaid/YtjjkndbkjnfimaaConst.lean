/-
  BYTES OF A CONSTANT TEXT, and an append onto them. No Go function is named here.
-/
import Derived.Test.YtjjkndbkjnfimaaOwn
import Derived.Lib.SlBytesConst
namespace Go.Proofs.Ytjjkndbkjnfimaa
set_option linter.unusedSimpArgs false
set_option linter.unusedVariables false
open Go.RowKit

theorem Fr.allocObj {w0 w : World} {L : List Blk} (h : Fr w0 w L) (o : Obj) : Fr w0 (w.alloc o) L :=
  ⟨h.below.alloc h.below.size _, fun x hx => ⟨(h.rows x hx).1, by rw [Below.heap_alloc _ _ _ (h.lt hx)]; exact (h.rows x hx).2⟩, h.apart⟩

section
variable {P : Program} {ops : Array Oper} {rest : List Oper} {Q : Exit → Act → World → Prop} {a : Act} {w0 w : World} {L : List Blk}

theorem wpl_const (hF : Fr w0 w L) (cs : List Value) {d1 : Nat} {dst : Option Tmp} {t ty ty' : TypeId} {pos pos' : String} {after after' : Array Edge} {e : TypeId} {z : Value} {bytes m : Nat} {parts : Array (Nat × Operand)}
    (ht : P.underlying t = some (.slice e)) (he : Elem P e z bytes) (hu : P.underlying e = some (.int .u8)) (hd : ∀ v, (a.put (some d1) v).eval (.tmp d1) = v)
    (hf : Instr.fill (fun i => some (i * 1, 1)) (List.replicate m (z.cells[0]!)).toArray (parts.map fun (i, x) => (i, a.eval x)).toList = some cs.toArray) (hm' : m ≤ 4096)
    (h : ∀ b' w', Fr w0 w' L → Sl w' (some ⟨b', 0, none⟩) cs → wpList P ops Q rest ((a.put (some d1) (.slice (some ⟨b', 0, none⟩) m m)).put dst (.slice (some ⟨b', 0, none⟩) m m)) w') :
    wpList P ops Q (⟨some d1, .buildSlice t m parts, ty, pos, after, none⟩ :: ⟨dst, .convert t t (.tmp d1), ty', pos', after', none⟩ :: rest) a w := by
  obtain ⟨i, hi, hz, hsz, hby⟩ := he.info
  have hr := run_buildSlice ht hi hz hsz he.one hm' hf w
  have hc := Go.Lib.run_convert_bytes_const (P := P) w t e cs.toArray m m ht hu
  refine wpList_plain rfl fun K hK => ?_
  unfold Oper.wp
  simp only [execOp, Sem.run_bind, Sem.run_pure, Result.andThen_ok, hr]
  refine hK _ _ ?_
  refine wpList_plain rfl fun K hK => ?_
  unfold Oper.wp
  simp only [execOp, hd, Sem.run_bind, Sem.run_pure, Result.andThen_ok, hc]
  refine hK _ _ (h _ _ (hF.allocObj _) ?_)
  intro j v hv
  refine ⟨_, rfl, ?_⟩
  rw [Addr.add_lit, cell_of_row _ _ _ _ _ _ (heap_alloc_new w _)]
  simpa using hv

/-- append of some values onto a row that is full and is not written: 'append([]byte("..."), x)'. -/
theorem wpl_pushFrom (hF : Fr w0 w L) (olds cs : List Value) {d1 : Nat} {dst : Option Tmp} {s : Operand} {t ty ty' : TypeId} {pos pos' : String} {after after' : Array Edge} {e : TypeId} {z : Value} {bytes m : Nat} {parts : Array (Nat × Operand)}
    (ht : P.underlying t = some (.slice e)) (he : Elem P e z bytes)
    {x : Addr} {n : Nat} (hsv : ∀ v, (a.put (some d1) v).eval s = .slice (some x) n n) (hd : ∀ v, (a.put (some d1) v).eval (.tmp d1) = v) (hn : olds.length = n) (hso : Sl w (some x) olds)
    (hf : Instr.fill (fun i => some (i * 1, 1)) (List.replicate m (z.cells[0]!)).toArray (parts.map fun (i, x) => (i, a.eval x)).toList = some cs.toArray) (hm : cs.length = m) (hm' : m ≤ 4096) (h0 : 0 < m) (h1 : ∀ u ∈ cs, u.oneCell' = true)
    (hbytes : (n + m) * bytes ≤ 140737488355328) (h63 : n + m ≤ maxLen)
    (h : ∀ b' cap' tail' b'' w', cap' = n + m + tail'.length → Fr w0 w' (L ++ [⟨b', olds ++ cs ++ tail', e⟩]) → wpList P ops Q rest ((a.put (some d1) (.slice (some ⟨b'', 0, none⟩) m m)).put dst (.slice (some ⟨b', 0, none⟩) (n + m) cap')) w') :
    wpList P ops Q (⟨some d1, .buildSlice t m parts, ty, pos, after, none⟩ :: ⟨dst, .call { callee := .builtin .append, args := #[s, .tmp d1], argTypes := #[t, t] }, ty', pos', after', none⟩ :: rest) a w := by
  obtain ⟨i, hi, hz, hsz, hby⟩ := he.info
  have hr := run_buildSlice ht hi hz hsz he.one hm' hf w
  have hF1 := hF.alloc cs e
  have hs1 : Sl (w.alloc (.cells cs.toArray e)) (some ⟨w.heap.size, 0, none⟩) cs := Sl.whole hF1 (t := e) ⟨L.length, by simp⟩
  have hso1 : Sl (w.alloc (.cells cs.toArray e)) (some x) olds := hso.below ((Below.refl _ _).alloc (Nat.le_refl _) _)
  subst hn hm
  have hsrc := src_of (P := P) (c := cs.length) ht hs1 h1
  rw [← hsz] at hsrc
  have hold := run_firstCells_some (P := P) (w.alloc (.cells cs.toArray e)).drew i.size olds.length x olds.length olds.length olds (by simp [hsz]) (fun j v hv => by
    rw [World.cell?_drew]
    exact hso1.cell hv)
  have hfit := growslice_fits (need := olds.length + cs.length) (old := olds.length) (bytes := bytes) (by omega) hbytes
  have hr2 := run_append_grow_src (P := P) (w.alloc (.cells cs.toArray e)) t t ty' e i z ht hi hz (some x) olds.length olds.length olds hold _ _ _ hsrc (by omega) (by simp [maxLen] at h63; omega) (by rw [hby]; exact hfit)
  have hge := grownCap_ge (w.alloc (.cells cs.toArray e)) (olds.length + cs.length) olds.length e
  generalize hG : grownCap (w.alloc (.cells cs.toArray e)) (olds.length + cs.length) olds.length e = G at hr2 hge
  have hz' : (Builtin.zeroCells z.cells (G - (olds.length + cs.length))).toList.length = G - (olds.length + cs.length) := by
    show (Builtin.zeroCells z.cells (G - (olds.length + cs.length))).size = _
    rw [size_zeroCells, he.one, Nat.mul_one]
  have h2 := hF1.drew.alloc (olds ++ cs ++ (Builtin.zeroCells z.cells (G - (olds.length + cs.length))).toList) e
  have e4 : (olds ++ cs ++ (Builtin.zeroCells z.cells (G - (olds.length + cs.length))).toList).toArray = (olds ++ cs).toArray ++ Builtin.zeroCells z.cells (G - (olds.length + cs.length)) := by
    apply Array.ext'; simp
  rw [e4] at h2
  refine wpList_plain rfl fun K hK => ?_
  unfold Oper.wp
  simp only [execOp, Sem.run_bind, Sem.run_pure, Result.andThen_ok, hr]
  refine hK _ _ ?_
  refine wpList_plain rfl fun K hK => ?_
  unfold Oper.wp
  simp only [execOp, resolve, invoke, builtin, Sem.run_bind, Sem.run_pure, Result.andThen_ok, List.map_toArray, List.map_cons, List.map_nil, hsv, hd, hr2]
  refine hK _ _ (h _ G (Builtin.zeroCells z.cells (G - (olds.length + cs.length))).toList _ _ (by rw [hz']; omega) (h2.sub ?_))
  exact List.Sublist.append (List.sublist_append_left L _) (List.Sublist.refl _)
end
end Go.Proofs.Ytjjkndbkjnfimaa
