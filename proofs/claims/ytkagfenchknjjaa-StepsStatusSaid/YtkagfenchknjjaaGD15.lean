import Derived.Test.YtkagfenchknjjaaGD13
import Derived.Test.YtkagfenchknjjaaGC14
set_option linter.unusedVariables false
set_option linter.unusedSimpArgs false
namespace Go.Proofs.Ytkagfenchknjjaa
open Go Go.Am Go.RowKit

/-! Steps stand from left to right. -/
def pLt (p q : List Int) : Prop := ∃ pre x y r s, p = pre ++ x :: r ∧ q = pre ++ y :: s ∧ x < y
def ordR (a b : Stp3) : Prop := (a.2.1 = b.2.1 ∧ a.2.2 = 0 ∧ b.2.2 = 1) ∨ pLt a.2.1 b.2.1
mutual
theorem pls_ext : ∀ (t : Tm) (p : List Int) (w : Bool), ∀ x ∈ t.pls p w, ∃ s, x.2.1 = p ++ s
  | ⟨k, a, b, s, e, l⟩, p, w => by
    have h1 := plsL_ext k l p w 0
    have h2 : ∀ x ∈ Tm.pls1 k l p w, x ∈ Tm.plsL k l p w 0 := by
      intro x hx
      cases l with
      | nil => exact hx
      | cons y l =>
        simp only [Tm.pls1] at hx
        simp only [Tm.plsL, List.mem_append]
        exact Or.inl hx
    intro x hx
    simp only [Tm.pls, List.mem_cons] at hx
    rcases hx with rfl | hx
    · exact ⟨[], by simp⟩
    · split at hx
      · obtain ⟨j, s, -, h⟩ := h1 x (h2 x hx); exact ⟨_, h⟩
      · split at hx
        · obtain ⟨j, s, -, h⟩ := h1 x hx; exact ⟨_, h⟩
        · simp at hx
theorem plsL_ext (k : Int) : ∀ (l : List Tm) (p : List Int) (w : Bool) (i : Nat), ∀ x ∈ Tm.plsL k l p w i, ∃ (j : Nat) (s : List Int), i ≤ j ∧ x.2.1 = p ++ (j : Int) :: s
  | [], _, _, _ => by simp [Tm.plsL]
  | y :: l, p, w, i => by
    have h1 := pls_ext y (p ++ [(i : Int)]) (kidW k y w)
    have h2 := plsL_ext k l p w (i + 1)
    intro x hx
    simp only [Tm.plsL, List.mem_append] at hx
    rcases hx with hx | hx
    · obtain ⟨s, h⟩ := h1 x hx
      exact ⟨i, s, Nat.le_refl _, by rw [h]; simp⟩
    · obtain ⟨j, s, hj, h⟩ := h2 x hx
      exact ⟨j, s, by omega, h⟩
end
theorem mem_steps {l : List (Tm × List Int × Bool)} {a : Stp3} (h : a ∈ l.flatMap stepsAt) : ∃ x ∈ l, a.2.1 = x.2.1 := by
  obtain ⟨x, hx, ha⟩ := List.mem_flatMap.1 h
  refine ⟨x, hx, ?_⟩
  unfold stepsAt stp at ha
  obtain ⟨n, -, rfl⟩ := List.mem_map.1 ha
  rfl
theorem stp_pair (k : Int) (p : List Int) (n : Nat) (h : n ≤ 2) : (stp k p n).Pairwise ordR := by
  have : n = 0 ∨ n = 1 ∨ n = 2 := by omega
  rcases this with rfl | rfl | rfl
  · simp [stp]
  · simp [stp]
  · simp [stp, List.range_succ, ordR]
mutual
theorem pls_pair : ∀ (t : Tm) (p : List Int) (w : Bool), ((t.pls p w).flatMap stepsAt).Pairwise ordR
  | ⟨k, a, b, s, e, l⟩, p, w => by
    have h1 := plsL_pair k l p w 0
    have h2 : ((Tm.pls1 k l p w).flatMap stepsAt).Pairwise ordR := by
      cases l with
      | nil => simp [Tm.pls1]
      | cons y l => simp only [Tm.pls1]; exact pls_pair y _ _
    simp only [Tm.pls]
    by_cases c1 : k = 12 ∨ k = 7
    · rw [if_pos c1]
      have : stpN (⟨k, a, b, s, e, l⟩, p, w) = 0 := by unfold stpN; rw [if_pos (by simp only; omega)]
      simp only [List.flatMap_cons, stepsAt, this, stp_zero, List.nil_append]
      exact h2
    · rw [if_neg c1]
      by_cases c2 : k = 11
      · rw [if_pos c2]
        have : stpN (⟨k, a, b, s, e, l⟩, p, w) = 0 := by unfold stpN; rw [if_pos (by simp only; omega)]
        simp only [List.flatMap_cons, stepsAt, this, stp_zero, List.nil_append]
        exact h1
      · rw [if_neg c2]
        simp only [List.flatMap_cons, List.flatMap_nil, List.append_nil, stepsAt]
        exact stp_pair _ _ _ (stpN_le _)
theorem plsL_pair (k : Int) : ∀ (l : List Tm) (p : List Int) (w : Bool) (i : Nat), ((Tm.plsL k l p w i).flatMap stepsAt).Pairwise ordR
  | [], _, _, _ => by simp [Tm.plsL]
  | y :: l, p, w, i => by
    have h1 := pls_pair y (p ++ [(i : Int)]) (kidW k y w)
    have h2 := plsL_pair k l p w (i + 1)
    simp only [Tm.plsL, List.flatMap_append]
    refine List.pairwise_append.2 ⟨h1, h2, fun a ha b hb => .inr ?_⟩
    obtain ⟨x, hx, ea⟩ := mem_steps ha
    obtain ⟨z, hz, eb⟩ := mem_steps hb
    obtain ⟨s, e1⟩ := pls_ext _ _ _ x hx
    obtain ⟨j, s', hj, e2⟩ := plsL_ext _ _ _ _ _ z hz
    exact ⟨p, i, j, s, s', by rw [ea, e1]; simp, by rw [eb, e2], by omega⟩
end
theorem enabled_pair (t : Tm) : t.enabled.Pairwise ordR := pls_pair _ _ _
theorem enabled_next (t : Tm) (i : Nat) (h : i + 1 < t.enabled.length) : ordR t.enabled[i] t.enabled[i + 1] :=
  List.pairwise_iff_getElem.1 (enabled_pair t) i (i + 1) (by omega) h (by omega)
theorem sp_its (l m : List Int) (hl : l.length ≤ 137438953472) : Am.Spec Try.prog 27 [.sl (encI l), .sl (encI m)] (.bool (decide (l = m))) := by
  by_cases hlm : l.length = m.length
  · have hlm' : (l.length : Int) = m.length := by omega
    refine Am.Spec.of_W (W := W27) Try.func27 (by kernel_rfl) (by kernel_rfl) (by kernel_rfl) Try.ntmps27 W27_eq (rs := [.tmp 4]) (by kernel_rfl) (by simp) ?_
    intro vs
    simp [W27, W27_rs, W27_b1, W27_b3, W27_b4, W27_b5, W27_b7, W27_k2, W27_l6, hlm']
    refine sLoop_intro (fun i => i ≤ m.length ∧ ∀ j, j < i → l[j]? = m[j]?) (fun i => m.length - i) (fun i => [(0, .sl (encI l)), (1, .sl (encI m)), (5, .int .i64 (i : Nat))]) (fun _ => []) 0 (by simp) (by simp) (by simp) ?_
    rintro L i vt ⟨hi, hj⟩ hL
    by_cases h : i < m.length
    · have h' : (i : Int) < m.length := by omega
      have hl2 : i < l.length := by omega
      obtain ⟨a, ha⟩ : ∃ a, l[i] = a := ⟨_, rfl⟩
      obtain ⟨b, hb⟩ : ∃ b, m[i] = b := ⟨_, rfl⟩
      by_cases e : a = b
      · simp [W27, W27_rs, W27_b1, W27_b3, W27_b4, W27_b5, W27_b7, W27_k2, W27_l6, h, hl2, hlm, ha, hb, e]
        rw [wrap64 (by omega) (by omega)]
        refine hL _ _ _ (i + 1) ⟨h, fun j hj2 => ?_⟩ (by omega) (by simp) (by simp)
        by_cases ej : j = i
        · rw [ej, List.getElem?_eq_getElem hl2, List.getElem?_eq_getElem h, ha, hb, e]
        · exact hj j (by omega)
      · have hne : l ≠ m := fun e2 => e (by subst e2; rw [← ha, ← hb])
        simp [W27, W27_rs, W27_b1, W27_b3, W27_b4, W27_b5, W27_b7, W27_k2, W27_l6, h, hl2, hlm, ha, hb, e, retW_eq, hne]
    · have e : l = m := by
        refine List.ext_getElem? fun j => ?_
        by_cases hj2 : j < i
        · exact hj j hj2
        · rw [List.getElem?_eq_none (by omega), List.getElem?_eq_none (by omega)]
      have h' : ¬ (i : Int) < m.length := by omega
      simp [W27, W27_rs, W27_b1, W27_b3, W27_b4, W27_b5, W27_b7, W27_k2, W27_l6, h, hlm, retW_eq, e]
  · have hne : l ≠ m := fun e => hlm (by rw [e])
    have hlm' : ¬ (l.length : Int) = m.length := by omega
    refine Am.Spec.of_W (W := W27) Try.func27 (by kernel_rfl) (by kernel_rfl) (by kernel_rfl) Try.ntmps27 W27_eq (rs := [.tmp 4]) (by kernel_rfl) (by simp) ?_
    intro vs
    simp [W27, W27_rs, W27_b1, W27_b3, W27_b4, W27_b5, W27_b7, W27_k2, W27_l6, hlm, hlm', hne, retW_eq]
end Go.Proofs.Ytkagfenchknjjaa
set_option linter.unusedVariables false
set_option linter.unusedSimpArgs false
namespace Go.Proofs.Ytkagfenchknjjaa
open Go Go.Am Go.RowKit

theorem enabled_bound (t : Tm) (h : t.wt ≤ 5040) : t.enabled.length ≤ 100000 ∧ ∀ x ∈ t.enabled, x.2.1.length ≤ 100000 := by
  have hn := t.norm_wt
  have h1 := t.norm.pls_len [] (decide (0 < t.norm.waits.length))
  have h2 := steps_len (t.norm.pls [] (decide (0 < t.norm.waits.length)))
  have h3 := t.norm.pls_path [] (decide (0 < t.norm.waits.length))
  refine ⟨by unfold Tm.enabled Tm.enabledN; omega, fun x hx => ?_⟩
  obtain ⟨y, hy, e⟩ := mem_steps hx
  have := h3 y hy
  rw [e]
  simp at this
  omega
@[simp] theorem rd_S0 (x : Stp3) : readA (encS x) 0 1 false = some (.int .i64 x.1) := rfl
@[simp] theorem rd_S1 (x : Stp3) : readA (encS x) 1 1 false = some (.sl (encI x.2.1)) := rfl
@[simp] theorem rd_S2 (x : Stp3) : readA (encS x) 2 1 false = some (.int .i64 x.2.2) := rfl
@[simp] theorem rd_Sall (x : Stp3) : readA (encS x) 0 3 true = some (.agg (encS x)) := rfl
@[simp] theorem encS_cells (x : Stp3) : (∀ c ∈ encS x, c.cell = true) ↔ True := ⟨fun _ => trivial, fun _ => encS_cell x⟩
@[simp] theorem set_S0 (x : Stp3) (a b c : AV) : setL [a, b, c] 0 (encS x) = encS x := by rw [setL_whole (by simp)]
theorem encI_get (p : List Int) (i : Nat) : (encI p)[i]? = (p[i]?).map fun n => [.int .i64 n] := by simp [encI]
theorem few_one (r : Rw3) : few3 [r] = decide (r.sz 0 ≤ 40) := by simp [few3]
theorem ord_body (r : Rw3) (v2 : Nat) (l : List Stp3) (i : Nat) (hi : i + 1 < l.length) (hb : l.length ≤ 100000) (ho : ordR l[i] l[i + 1]) (hp : l[i].2.1.length ≤ 100000 ∧ l[i + 1].2.1.length ≤ 100000) (Φ : Exit → St → Prop) (L : St → Prop) (vt : Nat → Nat)
    (hL : ∀ T H vs, Am.subT T [(5, .sl (l.map encS)), (6, .int .i64 (i + 2 : Nat))] → L ⟨Am.look T, hls H vs, noG⟩) :
    W10_b48 Try.prog Φ L ⟨Am.look (Am.insT (Am.insT (Am.insT (Am.insT [(5, .sl (l.map encS)), (6, .int .i64 (i + 1 : Nat))] 21 (.int .i64 (i + 1 : Nat))) 22 (.sl (l.map encS))) 23 (.int .i64 l.length)) 24 (.bool true)), hls [] vt, noG⟩ := by
  have hi0 : i < l.length := by omega
  obtain ⟨a, ha⟩ : ∃ a, l[i] = a := ⟨_, rfl⟩
  obtain ⟨b, hb'⟩ : ∃ b, l[i + 1] = b := ⟨_, rfl⟩
  rw [ha, hb'] at ho hp
  have hspec := sp_its a.2.1 b.2.1 (by omega)
  have hw1 : IntKind.wrap .i64 (i : Int) = i := wrap64 (by omega) (by omega)
  have hw2 : IntKind.wrap .i64 ((i : Int) + 1 + 1) = i + 1 + 1 := wrap64 (by omega) (by omega)
  have h1' : (i : Int) < l.length := by omega
  have h2' : (i : Int) + 1 < l.length := by omega
  have hi2 : ((i + 2 : Nat) : Int) = i + 1 + 1 := by omega
  have hix : ixRows (l.map encS) ((i : Int) + 1) 3 = some (.elt (encS b) 0) := by
    rw [show (i : Int) + 1 = ((i + 1 : Nat) : Int) by omega, ixRows_nat]
    simp [hi, hb']
  rcases ho with ⟨e, e1, e2⟩ | ⟨pre, x, y, r1, s1, e1, e2, hxy⟩
  · simp [e] at hspec
    simp [W10, W10_rs, W10_b1, W10_b2, W10_b5, W10_b9, W10_b10, W10_b28, W10_b46, W10_b48, W10_b52, W10_b54, W10_k3, W10_k4, W10_k27, W10_c6, W10_c7, W10_c8, W10_c11, W10_c12, W10_c13, W10_c14, W10_c15, W10_c16, W10_c17, W10_c18, W10_c19, W10_c20, W10_c21, W10_c22, W10_c23, W10_c24, W10_c25, W10_c26, W10_c29, W10_c30, W10_c31, W10_c32, W10_c33, W10_c34, W10_c35, W10_c36, W10_c37, W10_c38, W10_c39, W10_c40, W10_c41, W10_c42, W10_c43, W10_c44, W10_c47, W10_c50, W10_c51, W10_c53, W10_c55, W10_l45, W10_l49, hi, hi0, ha, hb', hw1, hix]
    refine scall_pure hspec (by simp [e]) (by simp) ?_
    simp [W10, W10_rs, W10_b1, W10_b2, W10_b5, W10_b9, W10_b10, W10_b28, W10_b46, W10_b48, W10_b52, W10_b54, W10_k3, W10_k4, W10_k27, W10_c6, W10_c7, W10_c8, W10_c11, W10_c12, W10_c13, W10_c14, W10_c15, W10_c16, W10_c17, W10_c18, W10_c19, W10_c20, W10_c21, W10_c22, W10_c23, W10_c24, W10_c25, W10_c26, W10_c29, W10_c30, W10_c31, W10_c32, W10_c33, W10_c34, W10_c35, W10_c36, W10_c37, W10_c38, W10_c39, W10_c40, W10_c41, W10_c42, W10_c43, W10_c44, W10_c47, W10_c50, W10_c51, W10_c53, W10_c55, W10_l45, W10_l49, e1, e2, hw2]
    exact hL _ _ _ (by simp [hi2])
  · have hne : a.2.1 ≠ b.2.1 := by
      rw [e1, e2]
      intro e
      have := List.append_cancel_left e
      simp at this
      omega
    simp [hne] at hspec
    simp [W10, W10_rs, W10_b1, W10_b2, W10_b5, W10_b9, W10_b10, W10_b28, W10_b46, W10_b48, W10_b52, W10_b54, W10_k3, W10_k4, W10_k27, W10_c6, W10_c7, W10_c8, W10_c11, W10_c12, W10_c13, W10_c14, W10_c15, W10_c16, W10_c17, W10_c18, W10_c19, W10_c20, W10_c21, W10_c22, W10_c23, W10_c24, W10_c25, W10_c26, W10_c29, W10_c30, W10_c31, W10_c32, W10_c33, W10_c34, W10_c35, W10_c36, W10_c37, W10_c38, W10_c39, W10_c40, W10_c41, W10_c42, W10_c43, W10_c44, W10_c47, W10_c50, W10_c51, W10_c53, W10_c55, W10_l45, W10_l49, hi, hi0, ha, hb', hw1, hix]
    refine scall_pure hspec (by simp) (by simp) ?_
    simp [W10, W10_rs, W10_b1, W10_b2, W10_b5, W10_b9, W10_b10, W10_b28, W10_b46, W10_b48, W10_b52, W10_b54, W10_k3, W10_k4, W10_k27, W10_c6, W10_c7, W10_c8, W10_c11, W10_c12, W10_c13, W10_c14, W10_c15, W10_c16, W10_c17, W10_c18, W10_c19, W10_c20, W10_c21, W10_c22, W10_c23, W10_c24, W10_c25, W10_c26, W10_c29, W10_c30, W10_c31, W10_c32, W10_c33, W10_c34, W10_c35, W10_c36, W10_c37, W10_c38, W10_c39, W10_c40, W10_c41, W10_c42, W10_c43, W10_c44, W10_c47, W10_c50, W10_c51, W10_c53, W10_c55, W10_l45, W10_l49]
    refine sLoop_intro (fun k => k ≤ pre.length) (fun k => pre.length - k) (fun k => [(5, .sl (l.map encS)), (6, .int .i64 ((i : Int) + 1)), (7, .ref 7 (vt 7 + 1) (.p 0)), (8, .ref 8 (vt 8 + 1) (.p 0)), (9, .int .i64 (k : Nat))])
      (fun k => [(7, .box (vt 7 + 1) 43 (encS a)), (8, .box (vt 8 + 1) 43 (encS b))]) 0 (by simp) (by simp) (by simp) ?_
    intro K k vu hk hK
    have ea : a.2.1.length = pre.length + (r1.length + 1) := by rw [e1]; simp
    have eb : b.2.1.length = pre.length + (s1.length + 1) := by rw [e2]; simp
    have k1 : k < a.2.1.length := by omega
    have k2 : k < b.2.1.length := by omega
    by_cases h : k < pre.length
    · have g1 : a.2.1[k] = pre[k] := by simp [e1, h]
      have g2 : b.2.1[k] = pre[k] := by simp [e2, h]
      simp [W10, W10_rs, W10_b1, W10_b2, W10_b5, W10_b9, W10_b10, W10_b28, W10_b46, W10_b48, W10_b52, W10_b54, W10_k3, W10_k4, W10_k27, W10_c6, W10_c7, W10_c8, W10_c11, W10_c12, W10_c13, W10_c14, W10_c15, W10_c16, W10_c17, W10_c18, W10_c19, W10_c20, W10_c21, W10_c22, W10_c23, W10_c24, W10_c25, W10_c26, W10_c29, W10_c30, W10_c31, W10_c32, W10_c33, W10_c34, W10_c35, W10_c36, W10_c37, W10_c38, W10_c39, W10_c40, W10_c41, W10_c42, W10_c43, W10_c44, W10_c47, W10_c50, W10_c51, W10_c53, W10_c55, W10_l45, W10_l49, k1, k2, g1, g2]
      rw [wrap64 (by omega) (by omega)]
      exact hK _ _ _ (k + 1) (by omega) (by omega) (by simp) (by simp)
    · obtain rfl : k = pre.length := by omega
      have g1 : a.2.1[pre.length] = x := by simp [e1]
      have g2 : b.2.1[pre.length] = y := by simp [e2]
      have h1 : ¬ x = y := by omega
      have h2 : ¬ y < x := by omega
      have h3 : ¬ a.2.1.length ≤ pre.length := by omega
      have h4 : ¬ b.2.1.length ≤ pre.length := by omega
      simp [W10, W10_rs, W10_b1, W10_b2, W10_b5, W10_b9, W10_b10, W10_b28, W10_b46, W10_b48, W10_b52, W10_b54, W10_k3, W10_k4, W10_k27, W10_c6, W10_c7, W10_c8, W10_c11, W10_c12, W10_c13, W10_c14, W10_c15, W10_c16, W10_c17, W10_c18, W10_c19, W10_c20, W10_c21, W10_c22, W10_c23, W10_c24, W10_c25, W10_c26, W10_c29, W10_c30, W10_c31, W10_c32, W10_c33, W10_c34, W10_c35, W10_c36, W10_c37, W10_c38, W10_c39, W10_c40, W10_c41, W10_c42, W10_c43, W10_c44, W10_c47, W10_c50, W10_c51, W10_c53, W10_c55, W10_l45, W10_l49, k1, k2, g1, g2, h1, h2, h3, h4, hw2]
      exact hL _ _ _ (by simp [hi2])
theorem sp_ord1 (r : Rw3) (w : Int) (t : Tm) (l : List Stp3) (hfew : Am.Spec Try.prog 21 [.agg [.int .i64 0, .int .i64 0, .sl ([r].map encR3)]] (.bool true)) (hmk : Am.Spec Try.prog 23 [.agg (encR3 r), .int .i64 w] (.agg (encT t)))
    (hen : Am.Spec Try.prog 24 [.agg (encT t)] (.sl (l.map encS))) (hb : l.length ≤ 100000 ∧ ∀ x ∈ l, x.2.1.length ≤ 100000) (hx : ∀ i (h : i + 1 < l.length), ordR l[i] l[i + 1]) :
    Am.Spec Try.prog 10 [.agg (encR3 r), .int .i64 w] (.bool true) := by
  refine Am.Spec.of_W (W := W10) Try.func10 (by kernel_rfl) (by kernel_rfl) (by kernel_rfl) Try.ntmps10 W10_eq (rs := [.tmp 4]) (by kernel_rfl) (by simp) ?_
  intro vs
  simp [W10, W10_rs, W10_b1, W10_b2, W10_b5, W10_b9, W10_b10, W10_b28, W10_b46, W10_b48, W10_b52, W10_b54, W10_k3, W10_k4, W10_k27, W10_c6, W10_c7, W10_c8, W10_c11, W10_c12, W10_c13, W10_c14, W10_c15, W10_c16, W10_c17, W10_c18, W10_c19, W10_c20, W10_c21, W10_c22, W10_c23, W10_c24, W10_c25, W10_c26, W10_c29, W10_c30, W10_c31, W10_c32, W10_c33, W10_c34, W10_c35, W10_c36, W10_c37, W10_c38, W10_c39, W10_c40, W10_c41, W10_c42, W10_c43, W10_c44, W10_c47, W10_c50, W10_c51, W10_c53, W10_c55, W10_l45, W10_l49]
  refine scall_pure sp_kno (by simp) (by simp) ?_
  simp [W10, W10_rs, W10_b1, W10_b2, W10_b5, W10_b9, W10_b10, W10_b28, W10_b46, W10_b48, W10_b52, W10_b54, W10_k3, W10_k4, W10_k27, W10_c6, W10_c7, W10_c8, W10_c11, W10_c12, W10_c13, W10_c14, W10_c15, W10_c16, W10_c17, W10_c18, W10_c19, W10_c20, W10_c21, W10_c22, W10_c23, W10_c24, W10_c25, W10_c26, W10_c29, W10_c30, W10_c31, W10_c32, W10_c33, W10_c34, W10_c35, W10_c36, W10_c37, W10_c38, W10_c39, W10_c40, W10_c41, W10_c42, W10_c43, W10_c44, W10_c47, W10_c50, W10_c51, W10_c53, W10_c55, W10_l45, W10_l49]
  refine scall_pure hfew (by simp) (by simp) ?_
  simp [W10, W10_rs, W10_b1, W10_b2, W10_b5, W10_b9, W10_b10, W10_b28, W10_b46, W10_b48, W10_b52, W10_b54, W10_k3, W10_k4, W10_k27, W10_c6, W10_c7, W10_c8, W10_c11, W10_c12, W10_c13, W10_c14, W10_c15, W10_c16, W10_c17, W10_c18, W10_c19, W10_c20, W10_c21, W10_c22, W10_c23, W10_c24, W10_c25, W10_c26, W10_c29, W10_c30, W10_c31, W10_c32, W10_c33, W10_c34, W10_c35, W10_c36, W10_c37, W10_c38, W10_c39, W10_c40, W10_c41, W10_c42, W10_c43, W10_c44, W10_c47, W10_c50, W10_c51, W10_c53, W10_c55, W10_l45, W10_l49]
  refine scall_pure hmk (by simp) (by simp) ?_
  simp [W10, W10_rs, W10_b1, W10_b2, W10_b5, W10_b9, W10_b10, W10_b28, W10_b46, W10_b48, W10_b52, W10_b54, W10_k3, W10_k4, W10_k27, W10_c6, W10_c7, W10_c8, W10_c11, W10_c12, W10_c13, W10_c14, W10_c15, W10_c16, W10_c17, W10_c18, W10_c19, W10_c20, W10_c21, W10_c22, W10_c23, W10_c24, W10_c25, W10_c26, W10_c29, W10_c30, W10_c31, W10_c32, W10_c33, W10_c34, W10_c35, W10_c36, W10_c37, W10_c38, W10_c39, W10_c40, W10_c41, W10_c42, W10_c43, W10_c44, W10_c47, W10_c50, W10_c51, W10_c53, W10_c55, W10_l45, W10_l49]
  refine scall_pure hen (by simp) (by simp) ?_
  simp [W10, W10_rs, W10_b1, W10_b2, W10_b5, W10_b9, W10_b10, W10_b28, W10_b46, W10_b48, W10_b52, W10_b54, W10_k3, W10_k4, W10_k27, W10_c6, W10_c7, W10_c8, W10_c11, W10_c12, W10_c13, W10_c14, W10_c15, W10_c16, W10_c17, W10_c18, W10_c19, W10_c20, W10_c21, W10_c22, W10_c23, W10_c24, W10_c25, W10_c26, W10_c29, W10_c30, W10_c31, W10_c32, W10_c33, W10_c34, W10_c35, W10_c36, W10_c37, W10_c38, W10_c39, W10_c40, W10_c41, W10_c42, W10_c43, W10_c44, W10_c47, W10_c50, W10_c51, W10_c53, W10_c55, W10_l45]
  refine sLoop_intro (fun i => i + 1 ≤ l.length ∨ i = 0) (fun i => l.length - i) (fun i => [(5, .sl (l.map encS)), (6, .int .i64 (i + 1 : Nat))]) (fun _ => []) 0 (by simp) (by simp) (by simp) ?_
  rintro L i vt hi hL
  by_cases hi2 : i + 1 < l.length
  · have h' : (i : Int) + 1 < l.length := by omega
    simp [W10, W10_rs, W10_b1, W10_b2, W10_b5, W10_b9, W10_b10, W10_b28, W10_b46, W10_b52, W10_b54, W10_k3, W10_k4, W10_k27, W10_c6, W10_c7, W10_c8, W10_c11, W10_c12, W10_c13, W10_c14, W10_c15, W10_c16, W10_c17, W10_c18, W10_c19, W10_c20, W10_c21, W10_c22, W10_c23, W10_c24, W10_c25, W10_c26, W10_c29, W10_c30, W10_c31, W10_c32, W10_c33, W10_c34, W10_c35, W10_c36, W10_c37, W10_c38, W10_c39, W10_c40, W10_c41, W10_c42, W10_c43, W10_c44, W10_c47, W10_c50, W10_c51, W10_c53, W10_c55, W10_l45, W10_l49, hi2, h']
    exact ord_body r 0 l i hi2 hb.1 (hx i hi2) ⟨hb.2 _ (List.getElem_mem _), hb.2 _ (List.getElem_mem _)⟩ _ L vt fun T H vs hT => hL T H vs (i + 1) (by omega) (by omega) hT (by simp)
  · have h' : ¬ (i : Int) + 1 < l.length := by omega
    simp [W10, W10_rs, W10_b1, W10_b2, W10_b5, W10_b9, W10_b10, W10_b28, W10_b46, W10_b48, W10_b52, W10_b54, W10_k3, W10_k4, W10_k27, W10_c6, W10_c7, W10_c8, W10_c11, W10_c12, W10_c13, W10_c14, W10_c15, W10_c16, W10_c17, W10_c18, W10_c19, W10_c20, W10_c21, W10_c22, W10_c23, W10_c24, W10_c25, W10_c26, W10_c29, W10_c30, W10_c31, W10_c32, W10_c33, W10_c34, W10_c35, W10_c36, W10_c37, W10_c38, W10_c39, W10_c40, W10_c41, W10_c42, W10_c43, W10_c44, W10_c47, W10_c50, W10_c51, W10_c53, W10_c55, W10_l45, W10_l49, hi2, h', retW_eq]
theorem sp_ord (r : Rw3) (w : Int) : Am.Spec Try.prog 10 [.agg (encR3 r), .int .i64 w] (.bool true) := by
  have hfew := sp_fw3 (.int .i64 0) (.int .i64 0) [r] (by simp [maxLen]) (by simp [closed]) (by simp [closed])
  rw [few_one] at hfew
  by_cases h : r.sz 0 ≤ 40
  · rw [decide_eq_true h] at hfew
    have hwt := mkT_wt r w h
    exact sp_ord1 r w _ _ hfew (sp_mkT r w h) (sp_enb _ (by omega)) (enabled_bound _ hwt) (enabled_next _)
  · rw [decide_eq_false h] at hfew
    refine Am.Spec.of_W (W := W10) Try.func10 (by kernel_rfl) (by kernel_rfl) (by kernel_rfl) Try.ntmps10 W10_eq (rs := [.tmp 4]) (by kernel_rfl) (by simp) ?_
    intro vs
    simp [W10, W10_rs, W10_b1, W10_b2, W10_b5, W10_b9, W10_b10, W10_b28, W10_b46, W10_b48, W10_b52, W10_b54, W10_k3, W10_k4, W10_k27, W10_c6, W10_c7, W10_c8, W10_c11, W10_c12, W10_c13, W10_c14, W10_c15, W10_c16, W10_c17, W10_c18, W10_c19, W10_c20, W10_c21, W10_c22, W10_c23, W10_c24, W10_c25, W10_c26, W10_c29, W10_c30, W10_c31, W10_c32, W10_c33, W10_c34, W10_c35, W10_c36, W10_c37, W10_c38, W10_c39, W10_c40, W10_c41, W10_c42, W10_c43, W10_c44, W10_c47, W10_c50, W10_c51, W10_c53, W10_c55, W10_l45, W10_l49]
    refine scall_pure sp_kno (by simp) (by simp) ?_
    simp [W10, W10_rs, W10_b1, W10_b2, W10_b5, W10_b9, W10_b10, W10_b28, W10_b46, W10_b48, W10_b52, W10_b54, W10_k3, W10_k4, W10_k27, W10_c6, W10_c7, W10_c8, W10_c11, W10_c12, W10_c13, W10_c14, W10_c15, W10_c16, W10_c17, W10_c18, W10_c19, W10_c20, W10_c21, W10_c22, W10_c23, W10_c24, W10_c25, W10_c26, W10_c29, W10_c30, W10_c31, W10_c32, W10_c33, W10_c34, W10_c35, W10_c36, W10_c37, W10_c38, W10_c39, W10_c40, W10_c41, W10_c42, W10_c43, W10_c44, W10_c47, W10_c50, W10_c51, W10_c53, W10_c55, W10_l45, W10_l49]
    refine scall_pure hfew (by simp) (by simp) ?_
    simp [W10, W10_rs, W10_b1, W10_b2, W10_b5, W10_b9, W10_b10, W10_b28, W10_b46, W10_b48, W10_b52, W10_b54, W10_k3, W10_k4, W10_k27, W10_c6, W10_c7, W10_c8, W10_c11, W10_c12, W10_c13, W10_c14, W10_c15, W10_c16, W10_c17, W10_c18, W10_c19, W10_c20, W10_c21, W10_c22, W10_c23, W10_c24, W10_c25, W10_c26, W10_c29, W10_c30, W10_c31, W10_c32, W10_c33, W10_c34, W10_c35, W10_c36, W10_c37, W10_c38, W10_c39, W10_c40, W10_c41, W10_c42, W10_c43, W10_c44, W10_c47, W10_c50, W10_c51, W10_c53, W10_c55, W10_l45, W10_l49, retW_eq]
end Go.Proofs.Ytkagfenchknjjaa
