import Derived.Test.YtkagfenchknjjaaGD12
import Derived.Test.YtkagfenchknjjaaGC13
set_option linter.unusedVariables false
set_option linter.unusedSimpArgs false
namespace Go.Proofs.Ytkagfenchknjjaa
open Go Go.Am Go.RowKit

/-! Steps stand from left to right. -/
def pLt (p q : List Int) : Prop := ∃ pre x y r s, p = pre ++ x :: r ∧ q = pre ++ y :: s ∧ x < y
def ordR (a b : Stp3) : Prop := (a.2.1 = b.2.1 ∧ a.2.2 = 0 ∧ b.2.2 = 1) ∨ pLt a.2.1 b.2.1
mutual
theorem pls_ext : ∀ (t : Tm) (p : List Int) (w : Bool), ∀ x ∈ t.pls p w, ∃ s, x.2.1 = p ++ s
  | ⟨k, a, b, s, e, l⟩, p, w => by
    have h1 := plsL_ext k l p w 0
    have h2 : ∀ x ∈ Tm.pls1 k l p w, x ∈ Tm.plsL k l p w 0 := by
      intro x hx
      cases l with
      | nil => exact hx
      | cons y l =>
        simp only [Tm.pls1] at hx
        simp only [Tm.plsL, List.mem_append]
        exact Or.inl hx
    intro x hx
    simp only [Tm.pls, List.mem_cons] at hx
    rcases hx with rfl | hx
    · exact ⟨[], by simp⟩
    · split at hx
      · obtain ⟨j, s, -, h⟩ := h1 x (h2 x hx); exact ⟨_, h⟩
      · split at hx
        · obtain ⟨j, s, -, h⟩ := h1 x hx; exact ⟨_, h⟩
        · simp at hx
theorem plsL_ext (k : Int) : ∀ (l : List Tm) (p : List Int) (w : Bool) (i : Nat), ∀ x ∈ Tm.plsL k l p w i, ∃ (j : Nat) (s : List Int), i ≤ j ∧ x.2.1 = p ++ (j : Int) :: s
  | [], _, _, _ => by simp [Tm.plsL]
  | y :: l, p, w, i => by
    have h1 := pls_ext y (p ++ [(i : Int)]) (kidW k y w)
    have h2 := plsL_ext k l p w (i + 1)
    intro x hx
    simp only [Tm.plsL, List.mem_append] at hx
    rcases hx with hx | hx
    · obtain ⟨s, h⟩ := h1 x hx
      exact ⟨i, s, Nat.le_refl _, by rw [h]; simp⟩
    · obtain ⟨j, s, hj, h⟩ := h2 x hx
      exact ⟨j, s, by omega, h⟩
end
theorem mem_steps {l : List (Tm × List Int × Bool)} {a : Stp3} (h : a ∈ l.flatMap stepsAt) : ∃ x ∈ l, a.2.1 = x.2.1 := by
  obtain ⟨x, hx, ha⟩ := List.mem_flatMap.1 h
  refine ⟨x, hx, ?_⟩
  unfold stepsAt stp at ha
  obtain ⟨n, -, rfl⟩ := List.mem_map.1 ha
  rfl
theorem stp_pair (k : Int) (p : List Int) (n : Nat) (h : n ≤ 2) : (stp k p n).Pairwise ordR := by
  have : n = 0 ∨ n = 1 ∨ n = 2 := by omega
  rcases this with rfl | rfl | rfl
  · simp [stp]
  · simp [stp]
  · simp [stp, List.range_succ, ordR]
mutual
theorem pls_pair : ∀ (t : Tm) (p : List Int) (w : Bool), ((t.pls p w).flatMap stepsAt).Pairwise ordR
  | ⟨k, a, b, s, e, l⟩, p, w => by
    have h1 := plsL_pair k l p w 0
    have h2 : ((Tm.pls1 k l p w).flatMap stepsAt).Pairwise ordR := by
      cases l with
      | nil => simp [Tm.pls1]
      | cons y l => simp only [Tm.pls1]; exact pls_pair y _ _
    simp only [Tm.pls]
    by_cases c1 : k = 12 ∨ k = 7
    · rw [if_pos c1]
      have : stpN (⟨k, a, b, s, e, l⟩, p, w) = 0 := by unfold stpN; rw [if_pos (by simp only; omega)]
      simp only [List.flatMap_cons, stepsAt, this, stp_zero, List.nil_append]
      exact h2
    · rw [if_neg c1]
      by_cases c2 : k = 11
      · rw [if_pos c2]
        have : stpN (⟨k, a, b, s, e, l⟩, p, w) = 0 := by unfold stpN; rw [if_pos (by simp only; omega)]
        simp only [List.flatMap_cons, stepsAt, this, stp_zero, List.nil_append]
        exact h1
      · rw [if_neg c2]
        simp only [List.flatMap_cons, List.flatMap_nil, List.append_nil, stepsAt]
        exact stp_pair _ _ _ (stpN_le _)
theorem plsL_pair (k : Int) : ∀ (l : List Tm) (p : List Int) (w : Bool) (i : Nat), ((Tm.plsL k l p w i).flatMap stepsAt).Pairwise ordR
  | [], _, _, _ => by simp [Tm.plsL]
  | y :: l, p, w, i => by
    have h1 := pls_pair y (p ++ [(i : Int)]) (kidW k y w)
    have h2 := plsL_pair k l p w (i + 1)
    simp only [Tm.plsL, List.flatMap_append]
    refine List.pairwise_append.2 ⟨h1, h2, fun a ha b hb => .inr ?_⟩
    obtain ⟨x, hx, ea⟩ := mem_steps ha
    obtain ⟨z, hz, eb⟩ := mem_steps hb
    obtain ⟨s, e1⟩ := pls_ext _ _ _ x hx
    obtain ⟨j, s', hj, e2⟩ := plsL_ext _ _ _ _ _ z hz
    exact ⟨p, i, j, s, s', by rw [ea, e1]; simp, by rw [eb, e2], by omega⟩
end
theorem enabled_pair (t : Tm) : t.enabled.Pairwise ordR := pls_pair _ _ _
theorem sp_its (l m : List Int) (hl : l.length ≤ 137438953472) : Am.Spec Try.prog 27 [.sl (encI l), .sl (encI m)] (.bool (decide (l = m))) := by
  by_cases hlm : l.length = m.length
  · have hlm' : (l.length : Int) = m.length := by omega
    refine Am.Spec.of_W (W := W27) Try.func27 (by kernel_rfl) (by kernel_rfl) (by kernel_rfl) Try.ntmps27 W27_eq (rs := [.tmp 4]) (by kernel_rfl) (by simp) ?_
    intro vs
    simp [W27, W27_rs, W27_b1, W27_b3, W27_b4, W27_b5, W27_b7, W27_k2, W27_l6, hlm']
    refine sLoop_intro (fun i => i ≤ m.length ∧ ∀ j, j < i → l[j]? = m[j]?) (fun i => m.length - i) (fun i => [(0, .sl (encI l)), (1, .sl (encI m)), (5, .int .i64 (i : Nat))]) (fun _ => []) 0 (by simp) (by simp) (by simp) ?_
    rintro L i vt ⟨hi, hj⟩ hL
    by_cases h : i < m.length
    · have h' : (i : Int) < m.length := by omega
      have hl2 : i < l.length := by omega
      obtain ⟨a, ha⟩ : ∃ a, l[i] = a := ⟨_, rfl⟩
      obtain ⟨b, hb⟩ : ∃ b, m[i] = b := ⟨_, rfl⟩
      by_cases e : a = b
      · simp [W27, W27_rs, W27_b1, W27_b3, W27_b4, W27_b5, W27_b7, W27_k2, W27_l6, h, hl2, hlm, ha, hb, e]
        rw [wrap64 (by omega) (by omega)]
        refine hL _ _ _ (i + 1) ⟨h, fun j hj2 => ?_⟩ (by omega) (by simp) (by simp)
        by_cases ej : j = i
        · rw [ej, List.getElem?_eq_getElem hl2, List.getElem?_eq_getElem h, ha, hb, e]
        · exact hj j (by omega)
      · have hne : l ≠ m := fun e2 => e (by subst e2; rw [← ha, ← hb])
        simp [W27, W27_rs, W27_b1, W27_b3, W27_b4, W27_b5, W27_b7, W27_k2, W27_l6, h, hl2, hlm, ha, hb, e, retW_eq, hne]
    · have e : l = m := by
        refine List.ext_getElem? fun j => ?_
        by_cases hj2 : j < i
        · exact hj j hj2
        · rw [List.getElem?_eq_none (by omega), List.getElem?_eq_none (by omega)]
      have h' : ¬ (i : Int) < m.length := by omega
      simp [W27, W27_rs, W27_b1, W27_b3, W27_b4, W27_b5, W27_b7, W27_k2, W27_l6, h, hlm, retW_eq, e]
  · have hne : l ≠ m := fun e => hlm (by rw [e])
    have hlm' : ¬ (l.length : Int) = m.length := by omega
    refine Am.Spec.of_W (W := W27) Try.func27 (by kernel_rfl) (by kernel_rfl) (by kernel_rfl) Try.ntmps27 W27_eq (rs := [.tmp 4]) (by kernel_rfl) (by simp) ?_
    intro vs
    simp [W27, W27_rs, W27_b1, W27_b3, W27_b4, W27_b5, W27_b7, W27_k2, W27_l6, hlm, hlm', hne, retW_eq]
end Go.Proofs.Ytkagfenchknjjaa
set_option linter.unusedVariables false
set_option linter.unusedSimpArgs false
namespace Go.Proofs.Ytkagfenchknjjaa
open Go Go.Am Go.RowKit

theorem enabled_bound (t : Tm) (h : t.wt ≤ 5040) : t.enabled.length ≤ 100000 ∧ ∀ x ∈ t.enabled, x.2.1.length ≤ 100000 := by
  have hn := t.norm_wt
  have h1 := t.norm.pls_len [] (decide (0 < t.norm.waits.length))
  have h2 := steps_len (t.norm.pls [] (decide (0 < t.norm.waits.length)))
  have h3 := t.norm.pls_path [] (decide (0 < t.norm.waits.length))
  refine ⟨by unfold Tm.enabled Tm.enabledN; omega, fun x hx => ?_⟩
  obtain ⟨y, hy, e⟩ := mem_steps hx
  have := h3 y hy
  rw [e]
  simp at this
  omega
@[simp] theorem rd_S0 (x : Stp3) : readA (encS x) 0 1 false = some (.int .i64 x.1) := rfl
@[simp] theorem rd_S1 (x : Stp3) : readA (encS x) 1 1 false = some (.sl (encI x.2.1)) := rfl
@[simp] theorem rd_S2 (x : Stp3) : readA (encS x) 2 1 false = some (.int .i64 x.2.2) := rfl
@[simp] theorem rd_Sall (x : Stp3) : readA (encS x) 0 3 true = some (.agg (encS x)) := rfl
@[simp] theorem encS_cells (x : Stp3) : (∀ c ∈ encS x, c.cell = true) ↔ True := ⟨fun _ => trivial, fun _ => encS_cell x⟩
@[simp] theorem set_S0 (x : Stp3) (a b c : AV) : setL [a, b, c] 0 (encS x) = encS x := by rw [setL_whole (by simp)]
theorem few_one (r : Rw3) : few3 [r] = decide (r.sz 0 ≤ 40) := by simp [few3]
end Go.Proofs.Ytkagfenchknjjaa
set_option linter.unusedVariables false
set_option linter.unusedSimpArgs false
namespace Go.Proofs.Ytkagfenchknjjaa
open Go Go.Am Go.RowKit

/-! What stands deeper may do the same, further down. -/
def shX (p0 : List Int) (x : Tm × List Int × Bool) : Tm × List Int × Bool := (x.1, p0 ++ x.2.1, x.2.2)
def shS (p0 : List Int) (x : Stp3) : Stp3 := (x.1, p0 ++ x.2.1, x.2.2)
mutual
theorem pls_shift (p0 : List Int) : ∀ (t : Tm) (p : List Int) (w : Bool), t.pls (p0 ++ p) w = (t.pls p w).map (shX p0)
  | ⟨k, a, b, s, e, l⟩, p, w => by
    have h1 := plsL_shift p0 k l p w 0
    have h2 : Tm.pls1 k l (p0 ++ p) w = (Tm.pls1 k l p w).map (shX p0) := by
      cases l with
      | nil => rfl
      | cons y l => simp only [Tm.pls1]; rw [List.append_assoc]; exact pls_shift p0 y _ _
    simp only [Tm.pls, List.map_cons]
    split
    · rw [h2]; rfl
    · split
      · rw [h1]; rfl
      · rfl
theorem plsL_shift (p0 : List Int) (k : Int) : ∀ (l : List Tm) (p : List Int) (w : Bool) (i : Nat), Tm.plsL k l (p0 ++ p) w i = (Tm.plsL k l p w i).map (shX p0)
  | [], _, _, _ => rfl
  | y :: l, p, w, i => by
    simp only [Tm.plsL, List.map_append]
    rw [List.append_assoc, pls_shift p0 y, plsL_shift p0 k l]
end
theorem steps_shift (p0 : List Int) (l : List (Tm × List Int × Bool)) : (l.map (shX p0)).flatMap stepsAt = (l.flatMap stepsAt).map (shS p0) := by
  induction l with
  | nil => rfl
  | cons x l ih =>
    simp only [List.map_cons, List.flatMap_cons, List.map_append, ih]
    congr 1
    unfold stepsAt stp
    rw [show stpN (shX p0 x) = stpN x from rfl, List.map_map]
    rfl
def blk (t : Tm) : Tm := .of 7 [t]
def blks (t : Tm) : Nat → Tm
  | 0 => t
  | n + 1 => blk (blks t n)
end Go.Proofs.Ytkagfenchknjjaa
set_option linter.unusedVariables false
set_option linter.unusedSimpArgs false
namespace Go.Proofs.Ytkagfenchknjjaa
open Go Go.Am Go.RowKit

/-! A wait beside: exits that are in no block go, nothing else. -/
def exW (w : Bool) (n : Tm) (x : Tm × List Int × Bool) : Prop := True
/-- The second is the first, further down, but some exits. -/
inductive Sub (z : List Int) : List Stp3 → List Stp3 → Prop
  | nil : Sub z [] []
  | keep (a : Stp3) {p q : List Stp3} : Sub z p q → Sub z (a :: p) (shS z a :: q)
  | drop (a : Stp3) {p q : List Stp3} : a.1 = 8 → Sub z p q → Sub z (a :: p) q
theorem Sub.app {z : List Int} {p q p' q' : List Stp3} (h : Sub z p q) (k : Sub z p' q') : Sub z (p ++ p') (q ++ q') := by
  induction h with
  | nil => exact k
  | keep a _ ih => exact .keep a ih
  | drop a e _ ih => exact .drop a e ih
theorem Sub.refl (z : List Int) : ∀ p : List Stp3, Sub z p (p.map (shS z))
  | [] => .nil
  | a :: p => .keep a (Sub.refl z p)
theorem sub_at (x : Tm) (p : List Int) (w : Bool) (z : List Int) : Sub z (stepsAt (x, p, w)) (stepsAt (x, z ++ p, true)) := by
  by_cases hk : x.kind = 8
  · cases w
    · have e1 : stepsAt (x, p, false) = [(8, p, 0)] := by simp [stepsAt, stpN, hk, stp]
      have e2 : stepsAt (x, z ++ p, true) = [] := by simp [stepsAt, stpN, hk, stp]
      rw [e1, e2]
      exact .drop _ rfl .nil
    · have e1 : stepsAt (x, p, true) = [] := by simp [stepsAt, stpN, hk, stp]
      have e2 : stepsAt (x, z ++ p, true) = [] := by simp [stepsAt, stpN, hk, stp]
      rw [e1, e2]
      exact .nil
  · have : stepsAt (x, z ++ p, true) = (stepsAt (x, p, w)).map (shS z) := by
      have hn : stpN (x, z ++ p, true) = stpN (x, p, w) := by simp [stpN, hk]
      unfold stepsAt
      rw [hn]
      simp [stp, shS]
    rw [this]
    exact Sub.refl z _
mutual
theorem pls_sub (z : List Int) : ∀ (t : Tm) (p : List Int) (w : Bool), Sub z ((t.pls p w).flatMap stepsAt) ((t.pls (z ++ p) true).flatMap stepsAt)
  | ⟨k, a, b, s, e, l⟩, p, w => by
    have h1 := plsL_sub z k l p w 0
    have h2 : Sub z ((Tm.pls1 k l p w).flatMap stepsAt) ((Tm.pls1 k l (z ++ p) true).flatMap stepsAt) := by
      cases l with
      | nil => exact .nil
      | cons y l =>
        simp only [Tm.pls1]
        rw [List.append_assoc]
        by_cases hk : k = 7
        · subst hk
          have := pls_shift z y (p ++ [0]) (decide (0 < y.waits.length))
          simp only [kidW, if_true]
          rw [this, steps_shift]
          exact Sub.refl z _
        · simp only [kidW, if_neg hk]
          exact pls_sub z y _ _
    have h0 := sub_at ⟨k, a, b, s, e, l⟩ p w z
    simp only [Tm.pls, List.flatMap_cons]
    refine h0.app ?_
    split
    · exact h2
    · split
      · exact h1
      · exact .nil
theorem plsL_sub (z : List Int) (k : Int) : ∀ (l : List Tm) (p : List Int) (w : Bool) (i : Nat), Sub z ((Tm.plsL k l p w i).flatMap stepsAt) ((Tm.plsL k l (z ++ p) true i).flatMap stepsAt)
  | [], _, _, _ => .nil
  | y :: l, p, w, i => by
    simp only [Tm.plsL, List.flatMap_append]
    refine Sub.app ?_ (plsL_sub z k l p w (i + 1))
    rw [List.append_assoc]
    by_cases hk : k = 7
    · subst hk
      have := pls_shift z y (p ++ [(i : Int)]) (decide (0 < y.waits.length))
      simp only [kidW, if_true]
      rw [this, steps_shift]
      exact Sub.refl z _
    · simp only [kidW, if_neg hk]
      exact pls_sub z y _ _
end
def wtT0 : Tm := ⟨14, 0, -1, ⟨#[112, 97, 121]⟩, .zero, []⟩
def besW (t : Tm) : Tm := .of 11 [t, wtT0]
end Go.Proofs.Ytkagfenchknjjaa
set_option linter.unusedVariables false
set_option linter.unusedSimpArgs false
namespace Go.Proofs.Ytkagfenchknjjaa
open Go Go.Am Go.RowKit

@[simp] theorem occ_tup' (cs : List AV) : occ (.tup cs) = occL cs := by simp [occ]
@[simp] theorem encI_cells (p : List Int) : (∀ x ∈ encI p, x.length = 1 ∧ ∀ c ∈ x, c.cell = true) ↔ True := ⟨fun _ => trivial, fun _ => encI_cell p⟩
def mat (a b : Stp3) : Prop := b.1 = a.1 ∧ b.2.2 = a.2.2 ∧ b.2.1 = 0 :: a.2.1
end Go.Proofs.Ytkagfenchknjjaa
