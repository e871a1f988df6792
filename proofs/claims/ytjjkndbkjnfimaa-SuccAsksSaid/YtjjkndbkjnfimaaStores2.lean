/-
  A REGION THAT DRAWS ITS ORDER, whose reads may be taken first: an append of some values among what stands in line. No Go function is named here.
-/
import Derived.Test.YtjjkndbkjnfimaaStores
import Derived.Test.YtjjkndbkjnfimaaOwn
namespace Go.Proofs.Ytjjkndbkjnfimaa
set_option linter.unusedSimpArgs false
set_option linter.unusedVariables false

section
variable {P : Program} {rest : List Oper} {Q : Exit → Act → World → Prop} {S : World → Prop} {a : Act} {w0 w : World} {L : List Blk}

theorem wps_pure (hS : S w) {dst : Option Tmp} {op : Op} {ty : TypeId} {pos : String} {after : Array Edge} {g : Option (Nat × Bool)} {v : Value}
    (hv : (execOp a.eval ⟨dst, op, ty, pos, after, g⟩).run P w = .ok (.value v) w) (h : wpStores P Q S rest (a.put dst v) w) : wpStores P Q S (⟨dst, op, ty, pos, after, g⟩ :: rest) a w :=
  ⟨v, w, .inr hv, hS, h⟩
theorem wps_assign (hS : S w) {dst : Option Tmp} {x : Operand} {ty : TypeId} {pos : String} {after : Array Edge} {g : Option (Nat × Bool)} {v : Value} (hx : a.eval x = v)
    (h : wpStores P Q S rest (a.put dst v) w) : wpStores P Q S (⟨dst, .assign x, ty, pos, after, g⟩ :: rest) a w :=
  wps_pure hS (by subst hx; simp [execOp]) h

/-- append of some values onto an own row. -/
theorem wps_push (hF : Fr w0 w L) (k : Nat) (xs tail cs : List Value) {d1 : Nat} {dst : Option Tmp} {s : Operand} {t ty ty' : TypeId} {pos pos' : String} {after after' : Array Edge} {g g' : Option (Nat × Bool)} {e : TypeId} {z : Value} {bytes m : Nat} {parts : Array (Nat × Operand)}
    (ht : P.underlying t = some (.slice e)) (he : Elem P e z bytes)
    {b n cap : Nat} (hsv : ∀ v, (a.put (some d1) v).eval s = .slice (some ⟨b, 0, none⟩) n cap) (hk : L[k]? = some ⟨b, xs ++ tail, e⟩) (hd : ∀ v, (a.put (some d1) v).eval (.tmp d1) = v) (hn : xs.length = n) (hcap : cap = n + tail.length)
    (hf : Instr.fill (fun i => some (i * 1, 1)) (List.replicate m (z.cells[0]!)).toArray (parts.map fun (i, x) => (i, a.eval x)).toList = some cs.toArray) (hm : cs.length = m) (hm' : m ≤ 4096) (h1 : ∀ u ∈ cs, u.oneCell' = true)
    (hbytes : (n + m) * bytes ≤ 140737488355328) (h63 : n + m ≤ maxLen) (hS : ∀ w' x M, Fr w0 w' (L.set k x ++ M) → S w')
    (h : ∀ b' cap' tail' b'' w', cap' = n + m + tail'.length → Fr w0 w' (L.set k ⟨b', xs ++ cs ++ tail', e⟩) → wpStores P Q S rest ((a.put (some d1) (.slice (some ⟨b'', 0, none⟩) m m)).put dst (.slice (some ⟨b', 0, none⟩) (n + m) cap')) w') :
    wpStores P Q S (⟨some d1, .buildSlice t m parts, ty, pos, after, g⟩ :: ⟨dst, .call { callee := .builtin .append, args := #[s, .tmp d1], argTypes := #[t, t] }, ty', pos', after', g'⟩ :: rest) a w := by
  obtain ⟨i, hi, hz, hsz, hby⟩ := he.info
  have hr := run_buildSlice ht hi hz hsz he.one hm' hf w
  have hF1 := hF.alloc cs e
  have hkl : k < L.length := (List.getElem?_eq_some_iff.1 hk).1
  have hk1 : (L ++ [⟨w.heap.size, cs, e⟩])[k]? = some ⟨b, xs ++ tail, e⟩ := by rw [List.getElem?_append_left hkl]; exact hk
  have hs1 : Sl (w.alloc (.cells cs.toArray e)) (some ⟨w.heap.size, 0, none⟩) cs := Sl.whole hF1 (t := e) ⟨L.length, by simp⟩
  subst hn hcap hm
  obtain ⟨b', tail', w', hr2, hF2⟩ := run_append_fr (c := cs.length) (ty := ty') hF1 ht hi hz hsz hby he.one hk1 hs1 h1 h63 hbytes
  have hself : L.set k ⟨b, xs ++ tail, e⟩ = L := run_append_fr.set_self' hk
  rw [List.set_append_left _ _ hkl] at hF2
  refine ⟨.slice (some ⟨w.heap.size, 0, none⟩) cs.length cs.length, w.alloc (.cells cs.toArray e), .inr (by simp only [execOp, Sem.run_bind, hr, Result.andThen_ok, Sem.run_pure]), hS _ ⟨b, xs ++ tail, e⟩ [_] (by rw [hself]; exact hF1), ?_⟩
  refine ⟨.slice (some ⟨b', 0, none⟩) (xs.length + cs.length) (xs.length + cs.length + tail'.length), w', .inr (by simp only [execOp, resolve, invoke, builtin, Sem.run_bind, Sem.run_pure, Result.andThen_ok, List.map_toArray, List.map_cons, List.map_nil, hsv, hd, hr2]), hS _ _ _ hF2, ?_⟩
  exact h _ _ _ _ _ rfl (hF2.sub (List.sublist_append_left _ _))
end
end Go.Proofs.Ytjjkndbkjnfimaa
