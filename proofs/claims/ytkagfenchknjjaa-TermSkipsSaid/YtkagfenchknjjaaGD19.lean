import Derived.Test.YtkagfenchknjjaaGD15
import Derived.Test.YtkagfenchknjjaaGC11
set_option linter.unusedVariables false
set_option linter.unusedSimpArgs false
namespace Go.Proofs.Ytkagfenchknjjaa
open Go Go.Am Go.RowKit

/-! Steps stand from left to right. -/
def pLt (p q : List Int) : Prop := ∃ pre x y r s, p = pre ++ x :: r ∧ q = pre ++ y :: s ∧ x < y
def ordR (a b : Stp3) : Prop := (a.2.1 = b.2.1 ∧ a.2.2 = 0 ∧ b.2.2 = 1) ∨ pLt a.2.1 b.2.1
mutual
theorem pls_ext : ∀ (t : Tm) (p : List Int) (w : Bool), ∀ x ∈ t.pls p w, ∃ s, x.2.1 = p ++ s
  | ⟨k, a, b, s, e, l⟩, p, w => by
    have h1 := plsL_ext k l p w 0
    have h2 : ∀ x ∈ Tm.pls1 k l p w, x ∈ Tm.plsL k l p w 0 := by
      intro x hx
      cases l with
      | nil => exact hx
      | cons y l =>
        simp only [Tm.pls1] at hx
        simp only [Tm.plsL, List.mem_append]
        exact Or.inl hx
    intro x hx
    simp only [Tm.pls, List.mem_cons] at hx
    rcases hx with rfl | hx
    · exact ⟨[], by simp⟩
    · split at hx
      · obtain ⟨j, s, -, h⟩ := h1 x (h2 x hx); exact ⟨_, h⟩
      · split at hx
        · obtain ⟨j, s, -, h⟩ := h1 x hx; exact ⟨_, h⟩
        · simp at hx
theorem plsL_ext (k : Int) : ∀ (l : List Tm) (p : List Int) (w : Bool) (i : Nat), ∀ x ∈ Tm.plsL k l p w i, ∃ (j : Nat) (s : List Int), i ≤ j ∧ x.2.1 = p ++ (j : Int) :: s
  | [], _, _, _ => by simp [Tm.plsL]
  | y :: l, p, w, i => by
    have h1 := pls_ext y (p ++ [(i : Int)]) (kidW k y w)
    have h2 := plsL_ext k l p w (i + 1)
    intro x hx
    simp only [Tm.plsL, List.mem_append] at hx
    rcases hx with hx | hx
    · obtain ⟨s, h⟩ := h1 x hx
      exact ⟨i, s, Nat.le_refl _, by rw [h]; simp⟩
    · obtain ⟨j, s, hj, h⟩ := h2 x hx
      exact ⟨j, s, by omega, h⟩
end
theorem mem_steps {l : List (Tm × List Int × Bool)} {a : Stp3} (h : a ∈ l.flatMap stepsAt) : ∃ x ∈ l, a.2.1 = x.2.1 := by
  obtain ⟨x, hx, ha⟩ := List.mem_flatMap.1 h
  refine ⟨x, hx, ?_⟩
  unfold stepsAt stp at ha
  obtain ⟨n, -, rfl⟩ := List.mem_map.1 ha
  rfl
theorem stp_pair (k : Int) (p : List Int) (n : Nat) (h : n ≤ 2) : (stp k p n).Pairwise ordR := by
  have : n = 0 ∨ n = 1 ∨ n = 2 := by omega
  rcases this with rfl | rfl | rfl
  · simp [stp]
  · simp [stp]
  · simp [stp, List.range_succ, ordR]
mutual
theorem pls_pair : ∀ (t : Tm) (p : List Int) (w : Bool), ((t.pls p w).flatMap stepsAt).Pairwise ordR
  | ⟨k, a, b, s, e, l⟩, p, w => by
    have h1 := plsL_pair k l p w 0
    have h2 : ((Tm.pls1 k l p w).flatMap stepsAt).Pairwise ordR := by
      cases l with
      | nil => simp [Tm.pls1]
      | cons y l => simp only [Tm.pls1]; exact pls_pair y _ _
    simp only [Tm.pls]
    by_cases c1 : k = 12 ∨ k = 7
    · rw [if_pos c1]
      have : stpN (⟨k, a, b, s, e, l⟩, p, w) = 0 := by unfold stpN; rw [if_pos (by simp only; omega)]
      simp only [List.flatMap_cons, stepsAt, this, stp_zero, List.nil_append]
      exact h2
    · rw [if_neg c1]
      by_cases c2 : k = 11
      · rw [if_pos c2]
        have : stpN (⟨k, a, b, s, e, l⟩, p, w) = 0 := by unfold stpN; rw [if_pos (by simp only; omega)]
        simp only [List.flatMap_cons, stepsAt, this, stp_zero, List.nil_append]
        exact h1
      · rw [if_neg c2]
        simp only [List.flatMap_cons, List.flatMap_nil, List.append_nil, stepsAt]
        exact stp_pair _ _ _ (stpN_le _)
theorem plsL_pair (k : Int) : ∀ (l : List Tm) (p : List Int) (w : Bool) (i : Nat), ((Tm.plsL k l p w i).flatMap stepsAt).Pairwise ordR
  | [], _, _, _ => by simp [Tm.plsL]
  | y :: l, p, w, i => by
    have h1 := pls_pair y (p ++ [(i : Int)]) (kidW k y w)
    have h2 := plsL_pair k l p w (i + 1)
    simp only [Tm.plsL, List.flatMap_append]
    refine List.pairwise_append.2 ⟨h1, h2, fun a ha b hb => .inr ?_⟩
    obtain ⟨x, hx, ea⟩ := mem_steps ha
    obtain ⟨z, hz, eb⟩ := mem_steps hb
    obtain ⟨s, e1⟩ := pls_ext _ _ _ x hx
    obtain ⟨j, s', hj, e2⟩ := plsL_ext _ _ _ _ _ z hz
    exact ⟨p, i, j, s, s', by rw [ea, e1]; simp, by rw [eb, e2], by omega⟩
end
theorem sp_its (l m : List Int) (hl : l.length ≤ 137438953472) : Am.Spec Try.prog 27 [.sl (encI l), .sl (encI m)] (.bool (decide (l = m))) := by
  by_cases hlm : l.length = m.length
  · have hlm' : (l.length : Int) = m.length := by omega
    refine Am.Spec.of_W (W := W27) Try.func27 (by kernel_rfl) (by kernel_rfl) (by kernel_rfl) Try.ntmps27 W27_eq (rs := [.tmp 4]) (by kernel_rfl) (by simp) ?_
    intro vs
    simp [W27, W27_rs, W27_b1, W27_b3, W27_b4, W27_b5, W27_b7, W27_k2, W27_l6, hlm']
    refine sLoop_intro (fun i => i ≤ m.length ∧ ∀ j, j < i → l[j]? = m[j]?) (fun i => m.length - i) (fun i => [(0, .sl (encI l)), (1, .sl (encI m)), (5, .int .i64 (i : Nat))]) (fun _ => []) 0 (by simp) (by simp) (by simp) ?_
    rintro L i vt ⟨hi, hj⟩ hL
    by_cases h : i < m.length
    · have h' : (i : Int) < m.length := by omega
      have hl2 : i < l.length := by omega
      obtain ⟨a, ha⟩ : ∃ a, l[i] = a := ⟨_, rfl⟩
      obtain ⟨b, hb⟩ : ∃ b, m[i] = b := ⟨_, rfl⟩
      by_cases e : a = b
      · simp [W27, W27_rs, W27_b1, W27_b3, W27_b4, W27_b5, W27_b7, W27_k2, W27_l6, h, hl2, hlm, ha, hb, e]
        rw [wrap64 (by omega) (by omega)]
        refine hL _ _ _ (i + 1) ⟨h, fun j hj2 => ?_⟩ (by omega) (by simp) (by simp)
        by_cases ej : j = i
        · rw [ej, List.getElem?_eq_getElem hl2, List.getElem?_eq_getElem h, ha, hb, e]
        · exact hj j (by omega)
      · have hne : l ≠ m := fun e2 => e (by subst e2; rw [← ha, ← hb])
        simp [W27, W27_rs, W27_b1, W27_b3, W27_b4, W27_b5, W27_b7, W27_k2, W27_l6, h, hl2, hlm, ha, hb, e, retW_eq, hne]
    · have e : l = m := by
        refine List.ext_getElem? fun j => ?_
        by_cases hj2 : j < i
        · exact hj j hj2
        · rw [List.getElem?_eq_none (by omega), List.getElem?_eq_none (by omega)]
      have h' : ¬ (i : Int) < m.length := by omega
      simp [W27, W27_rs, W27_b1, W27_b3, W27_b4, W27_b5, W27_b7, W27_k2, W27_l6, h, hlm, retW_eq, e]
  · have hne : l ≠ m := fun e => hlm (by rw [e])
    have hlm' : ¬ (l.length : Int) = m.length := by omega
    refine Am.Spec.of_W (W := W27) Try.func27 (by kernel_rfl) (by kernel_rfl) (by kernel_rfl) Try.ntmps27 W27_eq (rs := [.tmp 4]) (by kernel_rfl) (by simp) ?_
    intro vs
    simp [W27, W27_rs, W27_b1, W27_b3, W27_b4, W27_b5, W27_b7, W27_k2, W27_l6, hlm, hlm', hne, retW_eq]
end Go.Proofs.Ytkagfenchknjjaa
