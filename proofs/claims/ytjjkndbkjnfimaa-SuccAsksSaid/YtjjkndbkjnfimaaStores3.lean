/-
  A REGION THAT DRAWS ITS ORDER, whose reads may be taken first, then two loads in either order, then what stands in line. Laws for what stands in line. No Go function is named here.
-/
import Derived.Test.YtjjkndbkjnfimaaInts2
namespace Go.Proofs.Ytjjkndbkjnfimaa
set_option linter.unusedSimpArgs false
set_option linter.unusedVariables false
open Go.RowKit

section
variable {P : Program} {ops : Array Oper} {md : Region.Mode} {S : World → Prop}
theorem put_swap (a : Act) {p q : Nat} (h : p ≠ q) (u v : Value) : (a.put (some p) u).put (some q) v = (a.put (some q) v).put (some p) u := by
  obtain ⟨t, d⟩ := a
  show (⟨(t.setIfInBounds p u).setIfInBounds q v, d⟩ : Act) = ⟨(t.setIfInBounds q v).setIfInBounds p u, d⟩
  congr 1
  apply Array.ext'
  simp only [Array.toList_setIfInBounds]
  exact List.set_comm _ _ h
def forkB (md : Region.Mode) (ops : Array Oper) (qs : List Nat) (i j : Nat) (cs : List Nat) : Bool :=
  Region.noSelect ops && decide (qs.length + (cs.length + 2) = ops.size) && takesB md ops qs (Array.replicate ops.size false) && (Region.ready md ops (after_ qs (Array.replicate ops.size false)) == [i, j]) && decide (i ≠ j) &&
  lineB md ops (j :: cs) ((after_ qs (Array.replicate ops.size false)).setIfInBounds i true) && lineB md ops (i :: cs) ((after_ qs (Array.replicate ops.size false)).setIfInBounds j true)
theorem wp_region_fork {id : Nat} {Q : Exit → Act → World → Prop} {a : Act} {w : World} {l : List Oper} (S : World → Prop) (qs : List Nat) (i j : Nat) (cs : List Nat) {oi oj : Oper} {p q : Nat} (hi : l.toArray[i]? = some oi) (hj : l.toArray[j]? = some oj) (hp : oi.dst = some p) (hq : oj.dst = some q) (hpq : p ≠ q) (gi : oi.guard = none) (gj : oj.guard = none)
    (hm : P.follows .mixedOrders = true) (hB : forkB .any l.toArray qs i j cs = true) (hS : S w.drew)
    (h : wpQuiet P l.toArray S (fun a' => ∃ vi vj, (execOp a'.eval oi).run P w.drew = .ok (.value vi) w.drew ∧ (execOp (a'.put (some p) vi).eval oj).run P w.drew = .ok (.value vj) w.drew ∧ (execOp a'.eval oj).run P w.drew = .ok (.value vj) w.drew ∧ (execOp (a'.put (some q) vj).eval oi).run P w.drew = .ok (.value vi) w.drew ∧
      wpStores P Q S (cs.filterMap (l.toArray[·]?)) ((a'.put (some p) vi).put (some q) vj) w.drew) (qs.filterMap (l.toArray[·]?)) a) : (Code.region id l.toArray true).wp P Q a w := by
  simp only [forkB, Bool.and_eq_true, decide_eq_true_eq, beq_iff_eq] at hB
  obtain ⟨⟨⟨⟨⟨⟨hsel, hsz⟩, hT⟩, hr⟩, hne⟩, hLj⟩, hLi⟩ := hB
  refine Code.wp_mono noP_imp (wp_region_held (S := S) hm ?_)
  rw [← hsz]
  refine takes_ok hsel hS qs _ _ (by rw [hsz]; exact hT) h fun a' hK => ?_
  obtain ⟨vi, vj, h1, h2, h3, h4, h5⟩ := hK
  rw [hsz]
  refine wpAnyH_all hr (by simp) fun k hk => ?_
  simp only [List.mem_cons, List.not_mem_nil, or_false] at hk
  rcases hk with rfl | rfl
  · unfold wpOp
    simp only [hi]
    rw [if_pos (by simp [Region.wanted, gi])]
    refine .inl ?_
    unfold Oper.wp
    rw [h1]
    refine ⟨hS, stores_ok (P := P) (md := .any) (j :: cs) _ _ w.drew hLj ?_⟩
    rw [List.filterMap_cons_some hj, hp]
    exact ⟨vj, w.drew, .inr h2, hS, by rw [hq]; exact h5⟩
  · unfold wpOp
    simp only [hj]
    rw [if_pos (by simp [Region.wanted, gj])]
    refine .inl ?_
    unfold Oper.wp
    rw [h3]
    refine ⟨hS, stores_ok (P := P) (md := .any) (i :: cs) _ _ w.drew hLi ?_⟩
    rw [List.filterMap_cons_some hi, hq]
    exact ⟨vi, w.drew, .inr h4, hS, by rw [hp, ← put_swap a' hpq]; exact h5⟩
end

section
variable {P : Program} {rest : List Oper} {Q : Exit → Act → World → Prop} {S : World → Prop} {a : Act} {w0 w : World} {L : List Blk}
theorem wps_idxG (hS : S w) {dst : Option Tmp} {T ty : TypeId} {x y : Operand} {pos : String} {after : Array Edge} {g : Option (Nat × Bool)} {p : Addr} {n c : Nat} {e : TypeId} {k : Int}
    (hx : a.eval x = .slice (some p) n c) (hy : a.eval y = .int .i64 k) (hu : P.underlying T = some (.slice e)) (he : (P.info? e).map (·.size) = some 1) (h0 : 0 ≤ k) (h1 : k < n)
    (h : wpStores P Q S rest (a.put dst (.pointer (some (p.add k.toNat)))) w) :
    wpStores P Q S (⟨dst, .indexAddr T x y, ty, pos, after, g⟩ :: rest) a w := by
  refine wps_pure hS ?_ h
  cases hq : P.info? e with
  | none => simp [hq] at he
  | some inf =>
    have hs : inf.size = 1 := by simpa [hq] using he
    simp [execOp, hx, hy, Instr.indexAt, run_underlying hu, asIntOf, h0, h1, sizeOf, typeInfo, hq, hs]
theorem wps_storeV (hF : Fr w0 w L) (k : Nat) {T T' ty : TypeId} {x y : Operand} {pos : String} {after : Array Edge} {b i : Nat} {cs : List Value} {u v : Value} {g : Option (Nat × Bool)}
    (hx : a.eval x = .pointer (some ⟨b, i, none⟩)) (hy : a.eval y = u) (hk : L[k]? = some ⟨b, cs, T'⟩) (hs : (P.info? T).map (·.size) = some 1) (hc1 : u.cells = #[u]) (h1 : u.oneCell' = true) (hi : cs[i]? = some v) (hS : ∀ w', Fr w0 w' (L.set k ⟨b, cs.set i u, T'⟩) → S w')
    (h : ∀ w', Fr w0 w' (L.set k ⟨b, cs.set i u, T'⟩) → wpStores P Q S rest a w') :
    wpStores P Q S (⟨none, .store T x y, ty, pos, after, g⟩ :: rest) a w := by
  have hc : w.cell? ⟨b, i, none⟩ = some v := by rw [hF.cell hk]; exact hi
  have hf : w.frozen? ⟨b, i, none⟩ = false := hF.free hk i
  have hst : (store ⟨b, i, none⟩ u).run P w = .ok () (w.setCell ⟨b, i, none⟩ u) := by
    rw [run_store P w _ _ _ h1]
    simp only [hc, hf, Bool.false_eq_true, if_false]
  have hF' := hF.setCell hk i u
  refine ⟨undef, w.setCell ⟨b, i, none⟩ u, .inl ⟨?_, rfl⟩, hS _ hF', h _ hF'⟩
  cases hq : P.info? T with
  | none => simp [hq] at hs
  | some inf =>
    have hs1 : inf.size = 1 := by simpa [hq] using hs
    unfold execOp
    simp only [hx, hy, Instr.storeAt, Instr.sureAddr, storeVar, hc1, sizeOf, typeInfo, run_program, hq, hs1, Sem.run_bind, Sem.run_pure, Result.andThen_ok]
    simp [storeCells, hst, Addr.add_zero']
theorem wps_build (hF : Fr w0 w L) (cs : List Value) {dst : Option Tmp} {t ty : TypeId} {pos : String} {after : Array Edge} {g : Option (Nat × Bool)} {e : TypeId} {z : Value} {bytes m : Nat} {parts : Array (Nat × Operand)} (ht : P.underlying t = some (.slice e)) (he : Elem P e z bytes) (hm : m ≤ 4096)
    (hf : Instr.fill (fun i => some (i * 1, 1)) (List.replicate m (z.cells[0]!)).toArray (parts.map fun (i, x) => (i, a.eval x)).toList = some cs.toArray) (hS : ∀ w' x, Fr w0 w' (L ++ [x]) → S w')
    (h : ∀ b' w', Fr w0 w' (L ++ [⟨b', cs, e⟩]) → wpStores P Q S rest (a.put dst (.slice (some ⟨b', 0, none⟩) m m)) w') :
    wpStores P Q S (⟨dst, .buildSlice t m parts, ty, pos, after, g⟩ :: rest) a w := by
  obtain ⟨i, hi, hz, hsz, hby⟩ := he.info
  have hr := run_buildSlice ht hi hz hsz he.one hm hf w
  exact ⟨_, _, .inr (by simp only [execOp, Sem.run_bind, hr, Result.andThen_ok, Sem.run_pure]), hS _ _ (hF.alloc cs e), h _ _ (hF.alloc cs e)⟩
theorem wps_append (hF : Fr w0 w L) (k : Nat) (xs tail news : List Value) {dst : Option Tmp} {s x : Operand} {t ty : TypeId} {pos : String} {after : Array Edge} {g : Option (Nat × Bool)} {e : TypeId} {z : Value} {bytes : Nat} (ht : P.underlying t = some (.slice e)) (he : Elem P e z bytes)
    {b n c cap : Nat} {p : Option Addr} {m : Nat} (hsv : a.eval s = .slice (some ⟨b, 0, none⟩) n cap) (hk : L[k]? = some ⟨b, xs ++ tail, e⟩) (hn : xs.length = n) (hcap : cap = n + tail.length)
    (hxv : a.eval x = .slice p m c) (hm : news.length = m) (hs : Sl w p news) (h1 : ∀ u ∈ news, u.oneCell' = true)
    (hbytes : (n + m) * bytes ≤ 140737488355328) (h63 : n + m ≤ maxLen) (hS : ∀ w' x, Fr w0 w' (L.set k x) → S w')
    (h : ∀ b' cap' tail' w', cap' = n + m + tail'.length → Fr w0 w' (L.set k ⟨b', xs ++ news ++ tail', e⟩) → wpStores P Q S rest (a.put dst (.slice (some ⟨b', 0, none⟩) (n + m) cap')) w') :
    wpStores P Q S (⟨dst, .call { callee := .builtin .append, args := #[s, x], argTypes := #[t, t] }, ty, pos, after, g⟩ :: rest) a w := by
  subst hn hcap hm
  obtain ⟨i, hi, hz, hsz, hby⟩ := he.info
  obtain ⟨b', tail', w', hr, hF'⟩ := run_append_fr (c := c) (ty := ty) hF ht hi hz hsz hby he.one hk hs h1 h63 hbytes
  exact ⟨_, w', .inr (by simp only [execOp, resolve, invoke, builtin, Sem.run_bind, Sem.run_pure, Result.andThen_ok, List.map_toArray, List.map_cons, List.map_nil, hsv, hxv, hr]), hS _ _ hF', h _ _ _ _ rfl hF'⟩
end
end Go.Proofs.Ytjjkndbkjnfimaa
