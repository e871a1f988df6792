/-
  THE PLAIN LAW of SuccBest. No program in sight.
-/
import Derived.Test.YtjjkndbkjnfimaaSucc5
import Derived.Test.YtjjkndbkjnfimaaSuccLaw1
namespace Go.Proofs.Ytjjkndbkjnfimaa
set_option linter.unusedSimpArgs false
set_option linter.unusedVariables false
attribute [local irreducible] nodeId

/-- The arc on numbers. -/
def btwN (a x b : Nat) : Prop := (a = b ∧ x ≠ a) ∨ (a < b ∧ a < x ∧ x < b) ∨ (b < a ∧ (a < x ∨ x < b))
theorem btw_num (a x b : List UInt8) (ha : a.length = 32) (hx : x.length = 32) (hb : b.length = 32) : btw a x b = true ↔ btwN (num a) (num x) (num b) := by
  unfold btw btwN
  rw [idlt_num _ _ (ha.trans hb.symm), idlt_num _ _ (ha.trans hx.symm), idlt_num _ _ (hx.trans hb.symm)]
  by_cases h1 : a = b
  · subst h1
    have h2 : x = a ↔ num x = num a := ⟨fun e => by rw [e], fun e => num_inj _ _ (hx.trans ha.symm) e⟩
    simp [h2]
  · have h3 : num a ≠ num b := fun e => h1 (num_inj _ _ (ha.trans hb.symm) e)
    by_cases h4 : num a < num b
    · have h5 : ¬ num b < num a := by omega
      simp [h1, h3, h4, h5]
    · have h5 : num b < num a := by omega
      simp [h1, h3, h4, h5]
/-- How far up from a. -/
def far (a o : Nat) : Nat := if a < o then o else o + 256 ^ 32
theorem far_or (a o : Nat) : (a < o ∧ far a o = o) ∨ (o ≤ a ∧ far a o = o + 256 ^ 32) := by
  unfold far
  by_cases h : a < o
  · exact .inl ⟨h, if_pos h⟩
  · exact .inr ⟨by omega, if_neg h⟩
theorem near1 {a x o k : Nat} (lx : x < 256 ^ 32) (lo : o < 256 ^ 32) (hx : btwN a x k) (ho : btwN a o k) : btwN x o k ↔ far a x < far a o := by
  have f1 := far_or a x
  have f2 := far_or a o
  generalize far a x = fx at *
  generalize far a o = fo at *
  generalize 256 ^ 32 = T at *
  unfold btwN at *
  omega
theorem near2 {a o y k : Nat} (lo : o < 256 ^ 32) (ly : y < 256 ^ 32) (ho : btwN a o k) (hy : btwN a y k) : btwN a o y ↔ far a o < far a y := by
  have f1 := far_or a o
  have f2 := far_or a y
  generalize far a o = fo at *
  generalize far a y = fy at *
  generalize 256 ^ 32 = T at *
  unfold btwN at *
  omega
theorem far_inj {a x o : Nat} (lx : x < 256 ^ 32) (lo : o < 256 ^ 32) (h : far a x = far a o) : x = o := by
  have f1 := far_or a x
  have f2 := far_or a o
  generalize far a x = fx at *
  generalize far a o = fo at *
  generalize 256 ^ 32 = T at *
  omega

theorem ins_mem (f : Int → Bool) (x : Int) (out : List Int) (o : Int) : o ∈ out.take (out.takeWhile f).length ++ [x] ++ out.drop (out.takeWhile f).length ↔ o = x ∨ o ∈ out := by
  have h : o ∈ out ↔ o ∈ out.take (out.takeWhile f).length ∨ o ∈ out.drop (out.takeWhile f).length := by
    rw [← List.mem_append, List.take_append_drop]
  rw [h]
  simp only [List.mem_append, List.mem_singleton]
  constructor
  · rintro ((h | h) | h)
    · exact .inr (.inl h)
    · exact .inl h
    · exact .inr (.inr h)
  · rintro (h | h | h)
    · exact .inl (.inr h)
    · exact .inl (.inl h)
    · exact .inr h
theorem ins_sorted (F : Int → Nat) (f : Int → Bool) (x : Int) : ∀ out : List Int, (∀ o ∈ out, f o = true ↔ F x < F o) → (∀ o ∈ out, F o ≠ F x) → out.Pairwise (fun a b => F b < F a) →
    (out.take (out.takeWhile f).length ++ [x] ++ out.drop (out.takeWhile f).length).Pairwise (fun a b => F b < F a)
  | [], _, _, _ => by simp
  | y :: ys, hf, hne, hp => by
    rw [List.pairwise_cons] at hp
    obtain ⟨h1, h2⟩ := hp
    have hy := hf y (List.mem_cons_self ..)
    have hn := hne y (List.mem_cons_self ..)
    cases hfy : f y
    · have h3 : ¬ F x < F y := fun h => by rw [hy.2 h] at hfy; cases hfy
      have h4 : F y < F x := by omega
      simp only [List.takeWhile_cons, hfy, Bool.false_eq_true, if_false, List.length_nil, List.take_zero, List.nil_append, List.drop_zero, List.singleton_append]
      rw [List.pairwise_cons, List.pairwise_cons]
      refine ⟨fun o ho => ?_, h1, h2⟩
      rcases List.mem_cons.1 ho with rfl | ho
      · exact h4
      · exact Nat.lt_trans (h1 o ho) h4
    · have ih := ins_sorted F f x ys (fun o ho => hf o (List.mem_cons_of_mem _ ho)) (fun o ho => hne o (List.mem_cons_of_mem _ ho)) h2
      simp only [List.takeWhile_cons, hfy, if_true, List.length_cons, List.take_succ_cons, List.drop_succ_cons, List.cons_append]
      rw [List.pairwise_cons]
      refine ⟨fun o ho => ?_, ih⟩
      rcases (ins_mem f x ys o).1 ho with rfl | ho
      · exact hy.1 hfy
      · exact h1 o ho

def farI (node o : Int) : Nat := far (num (nodeId (b8 node))) (num (nodeId (b8 o)))
def onWay (node : Int) (key : List UInt8) (o : Int) : Prop := btw (nodeId (b8 node)) (nodeId (b8 o)) key = true
theorem num_node (o : Int) : num (nodeId (b8 o)) < 256 ^ 32 := by
  have := num_lt (nodeId (b8 o))
  rwa [nodeId_length] at this
theorem farI_ne {node x o : Int} (hx : 0 ≤ x ∧ x < 12) (ho : 0 ≤ o ∧ o < 12) (h : farI node x = farI node o) : x = o := by
  have h1 := far_inj (num_node x) (num_node o) h
  have h2 := num_inj _ _ ((nodeId_length _).trans (nodeId_length _).symm) h1
  have h3 := nodeId_inj (x % 256).toNat (o % 256).toNat (by omega) (by omega) h2
  omega
theorem near1I {node x o : Int} {key : List UInt8} (hk : key.length = 32) (hx : onWay node key x) (ho : onWay node key o) : btw (nodeId (b8 x)) (nodeId (b8 o)) key = true ↔ farI node x < farI node o := by
  rw [btw_num _ _ _ (nodeId_length _) (nodeId_length _) hk]
  exact near1 (num_node x) (num_node o) ((btw_num _ _ _ (nodeId_length _) (nodeId_length _) hk).1 hx) ((btw_num _ _ _ (nodeId_length _) (nodeId_length _) hk).1 ho)
theorem near2I {node o y : Int} {key : List UInt8} (hk : key.length = 32) (ho : onWay node key o) (hy : onWay node key y) : nb node o y = true ↔ farI node o < farI node y := by
  unfold nb
  rw [btw_num _ _ _ (nodeId_length _) (nodeId_length _) (nodeId_length _)]
  exact near2 (num_node o) (num_node y) ((btw_num _ _ _ (nodeId_length _) (nodeId_length _) hk).1 ho) ((btw_num _ _ _ (nodeId_length _) (nodeId_length _) hk).1 hy)
structure BestInv (node : Int) (key : List UInt8) (l : List Int) (i : Nat) (out : List Int) : Prop where
  way : ∀ o ∈ out, onWay node key o ∧ 0 ≤ o ∧ o < 12
  sorted : out.Pairwise (fun a b => farI node b < farI node a)
  all : ∀ j, j < i → onWay node key (l.getD j 0) → l.getD j 0 ∈ out
theorem bestInv (node : Int) (key : List UInt8) (hk : key.length = 32) (l : List Int) (hl : ∀ j, 0 ≤ l.getD j 0 ∧ l.getD j 0 < 12) : ∀ i, BestInv node key l i (bestTo node key l i)
  | 0 => ⟨by simp [bestTo], by simp [bestTo], fun j h => by omega⟩
  | i + 1 => by
    have ih := bestInv node key hk l hl i
    have hx := hl i
    show BestInv node key l (i + 1) (stepB node key (bestTo node key l i) (l.getD i 0))
    generalize bestTo node key l i = out at ih
    have upA : ∀ out' : List Int, (∀ o, o ∈ out → o ∈ out') → (onWay node key (l.getD i 0) → l.getD i 0 ∈ out') → ∀ j, j < i + 1 → onWay node key (l.getD j 0) → l.getD j 0 ∈ out' := fun out' h1 h2 j hj hw => by
      rcases Nat.lt_or_ge j i with h | h
      · exact h1 _ (ih.all j h hw)
      · obtain rfl : j = i := by omega
        exact h2 hw
    generalize l.getD i 0 = x at *
    unfold stepB
    by_cases h : btw (nodeId (b8 node)) (nodeId (b8 x)) key = true ∧ ¬ x ∈ out
    · rw [if_pos h]
      have hm := ins_mem (fun o => btw (nodeId (b8 x)) (nodeId (b8 o)) key) x out
      refine ⟨fun o ho => ?_, ins_sorted (farI node) (fun o => btw (nodeId (b8 x)) (nodeId (b8 o)) key) x out (fun o ho => near1I hk h.1 (ih.way o ho).1) (fun o ho e => h.2 (farI_ne (ih.way o ho).2 hx e ▸ ho)) ih.sorted, upA _ (fun o ho => (hm o).2 (.inr ho)) (fun _ => (hm x).2 (.inl rfl))⟩
      rcases (hm o).1 ho with rfl | ho
      · exact ⟨h.1, hx⟩
      · exact ih.way o ho
    · rw [if_neg h]
      exact ⟨ih.way, ih.sorted, upA _ (fun o ho => ho) (fun hw => Decidable.byContradiction fun hn => h ⟨hw, hn⟩)⟩

structure BestLaw (node : Int) (key : List UInt8) (l : List Int) (n : Nat) (X : List Int) : Prop where
  way : ∀ i, i < X.length → onWay node key (X.getD i 0)
  step : ∀ i, i + 1 < X.length → nb node (X.getD (i + 1) 0) (X.getD i 0) = true
  top : ∀ j, j < n → onWay node key (l.getD j 0) → 0 < X.length ∧ (X.getD 0 0 = l.getD j 0 ∨ nb node (X.getD 0 0) (l.getD j 0) = false)
  len : X.length ≤ 8
theorem bestLaw (node : Int) (key : List UInt8) (hk : key.length = 32) (l : List Int) (hl : ∀ j, 0 ≤ l.getD j 0 ∧ l.getD j 0 < 12) (n : Nat) : BestLaw node key l n ((bestTo node key l n).take 8) := by
  have h := bestInv node key hk l hl n
  generalize bestTo node key l n = out at h
  have hs : (out.take 8).Pairwise (fun a b => farI node b < farI node a) := h.sorted.sublist (List.take_sublist _ _)
  have hw : ∀ o ∈ out.take 8, onWay node key o := fun o ho => (h.way o (List.mem_of_mem_take ho)).1
  have hget : ∀ i (hi : i < (out.take 8).length), (out.take 8).getD i 0 = (out.take 8)[i] := fun i hi => by simp only [List.getD, List.getElem?_eq_getElem hi, Option.getD_some]
  refine ⟨fun i hi => ?_, fun i hi => ?_, fun j hj hwj => ?_, by rw [List.length_take]; omega⟩
  · rw [hget i hi]
    exact hw _ (List.getElem_mem hi)
  · rw [hget i (by omega), hget (i + 1) hi]
    exact (near2I hk (hw _ (List.getElem_mem hi)) (hw _ (List.getElem_mem (by omega)))).2 (List.pairwise_iff_getElem.1 hs i (i + 1) (by omega) hi (by omega))
  · have hm := h.all j hj hwj
    generalize l.getD j 0 = y at *
    rcases out with _ | ⟨z, zs⟩
    · cases hm
    · refine ⟨by simp, ?_⟩
      show z = y ∨ nb node z y = false
      rcases List.mem_cons.1 hm with rfl | hm
      · exact .inl rfl
      · right
        have h1 : farI node y < farI node z := (List.pairwise_cons.1 h.sorted).1 y hm
        cases hn : nb node z y
        · rfl
        · have := (near2I hk (h.way z (List.mem_cons_self ..)).1 hwj).1 hn
          omega
end Go.Proofs.Ytjjkndbkjnfimaa
