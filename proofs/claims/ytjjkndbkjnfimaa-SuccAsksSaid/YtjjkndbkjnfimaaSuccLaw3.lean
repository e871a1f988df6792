/-
  THE PLAIN LAW of SuccAsks: the document's list of the best ones, laid without a look for doubles ahead, is the program's. No program in sight.
-/
import Derived.Test.YtjjkndbkjnfimaaSuccLaw2
namespace Go.Proofs.Ytjjkndbkjnfimaa
set_option linter.unusedSimpArgs false
set_option linter.unusedVariables false
attribute [local irreducible] nodeId

def stopR (node : Int) (x o : Int) : Bool := o != x && nb node x o
def insR (node : Int) (out : List Int) (x : Int) : Nat := (out.takeWhile (stopR node x)).length
def stepBR (node : Int) (key : List UInt8) (out : List Int) (x : Int) : List Int :=
  if btw (nodeId (b8 node)) (nodeId (b8 x)) key = true ∧ ¬ (insR node out x < out.length ∧ out.getD (insR node out x) 0 = x) then out.take (insR node out x) ++ [x] ++ out.drop (insR node out x) else out
/-- The document's best ones of a list's first nodes. -/
def bestToR (node : Int) (key : List UInt8) (l : List Int) : Nat → List Int
  | 0 => []
  | i + 1 => stepBR node key (bestToR node key l i) (l.getD i 0)
theorem insR_le (node : Int) (out : List Int) (x : Int) : insR node out x ≤ out.length := (List.takeWhile_prefix _).length_le
theorem insR_lt {node : Int} {out : List Int} {x : Int} {k : Nat} (h : k < insR node out x) : stopR node x (out.getD k 0) = true := takeWhile_lt (stopR node x) 0 out k h
theorem insR_at {node : Int} {out : List Int} {x : Int} (h : insR node out x < out.length) : stopR node x (out.getD (insR node out x) 0) = false := takeWhile_at (stopR node x) 0 out h
theorem stepBR_length (node : Int) (key : List UInt8) (out : List Int) (x : Int) : (stepBR node key out x).length ≤ out.length + 1 := by
  unfold stepBR
  have := insR_le node out x
  split
  · simp; omega
  · omega
theorem bestToR_length (node : Int) (key : List UInt8) (l : List Int) : ∀ i, (bestToR node key l i).length ≤ i
  | 0 => Nat.le_refl _
  | i + 1 => Nat.le_trans (stepBR_length _ _ _ _) (Nat.succ_le_succ (bestToR_length node key l i))

theorem ins_found (F : Int → Nat) (f : Int → Bool) (x : Int) : ∀ out : List Int, (∀ o ∈ out, f o = true ↔ (o ≠ x ∧ F x < F o)) → out.Pairwise (fun a b => F b < F a) → x ∈ out → (out.takeWhile f).length < out.length ∧ out.getD (out.takeWhile f).length 0 = x
  | [], _, _, h => by cases h
  | y :: ys, hf, hp, h => by
    rw [List.pairwise_cons] at hp
    obtain ⟨h1, h2⟩ := hp
    have hy := hf y (List.mem_cons_self ..)
    by_cases hyx : y = x
    · have hfy : f y = false := by
        cases hb : f y
        · rfl
        · exact absurd hyx (hy.1 hb).1
      rw [List.takeWhile_cons, hfy]
      exact ⟨by simp, by simpa using hyx⟩
    · have hm : x ∈ ys := by
        rcases List.mem_cons.1 h with e | e
        · exact absurd e.symm hyx
        · exact e
      have hfy : f y = true := hy.2 ⟨hyx, h1 x hm⟩
      have ih := ins_found F f x ys (fun o ho => hf o (List.mem_cons_of_mem _ ho)) h2 hm
      simp only [List.takeWhile_cons, hfy, if_true, List.length_cons, List.getD_cons_succ]
      exact ⟨by omega, ih.2⟩
theorem takeWhile_same (f g : Int → Bool) : ∀ out : List Int, (∀ o ∈ out, f o = g o) → out.takeWhile f = out.takeWhile g
  | [], _ => rfl
  | y :: ys, h => by
    rw [List.takeWhile_cons, List.takeWhile_cons, h y (List.mem_cons_self ..), takeWhile_same f g ys (fun o ho => h o (List.mem_cons_of_mem _ ho))]
theorem getD_mem {l : List Int} {k : Nat} (h : k < l.length) : l.getD k 0 ∈ l := by
  have e : l.getD k 0 = l[k] := by simp [List.getD, h]
  rw [e]
  exact List.getElem_mem h

theorem best_eq (node : Int) (key : List UInt8) (hk : key.length = 32) (l : List Int) (hl : ∀ j, 0 ≤ l.getD j 0 ∧ l.getD j 0 < 12) : ∀ i, bestToR node key l i = bestTo node key l i
  | 0 => rfl
  | i + 1 => by
    have ih := best_eq node key hk l hl i
    have inv := bestInv node key hk l hl i
    have hx := hl i
    show stepBR node key (bestToR node key l i) (l.getD i 0) = stepB node key (bestTo node key l i) (l.getD i 0)
    rw [ih]
    generalize bestTo node key l i = out at inv
    generalize l.getD i 0 = x at *
    unfold stepBR stepB
    by_cases hw : btw (nodeId (b8 node)) (nodeId (b8 x)) key = true
    · by_cases hm : x ∈ out
      · have hf := ins_found (farI node) (stopR node x) x out (fun o ho => by
          unfold stopR
          rw [Bool.and_eq_true, bne_iff_ne, near2I hk hw (inv.way o ho).1]) inv.sorted hm
        rw [if_neg (fun h => h.2 hf), if_neg (fun h => h.2 hm)]
      · have he : insR node out x = insB key out x := by
          unfold insR insB
          rw [takeWhile_same _ (fun o => btw (nodeId (b8 x)) (nodeId (b8 o)) key) out (fun o ho => by
            have hne : o ≠ x := fun e => hm (e ▸ ho)
            have h1 := near2I hk hw (inv.way o ho).1
            have h2 := near1I hk hw (inv.way o ho).1
            show stopR node x o = _
            unfold stopR
            rw [bne_iff_ne.2 hne, Bool.true_and]
            exact Bool.eq_iff_iff.2 (h1.trans h2.symm))]
        rw [if_pos ⟨hw, fun h => hm (h.2 ▸ getD_mem h.1)⟩, if_pos ⟨hw, hm⟩, he]
    · rw [if_neg (fun h => hw h.1), if_neg (fun h => hw h.1)]
end Go.Proofs.Ytjjkndbkjnfimaa
