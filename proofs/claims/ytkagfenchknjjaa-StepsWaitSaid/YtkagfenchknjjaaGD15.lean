import Derived.Test.YtkagfenchknjjaaGD13
import Derived.Test.YtkagfenchknjjaaGC14
set_option linter.unusedVariables false
set_option linter.unusedSimpArgs false
namespace Go.Proofs.Ytkagfenchknjjaa
open Go Go.Am Go.RowKit

/-! Steps stand from left to right. -/
def pLt (p q : List Int) : Prop := ∃ pre x y r s, p = pre ++ x :: r ∧ q = pre ++ y :: s ∧ x < y
def ordR (a b : Stp3) : Prop := (a.2.1 = b.2.1 ∧ a.2.2 = 0 ∧ b.2.2 = 1) ∨ pLt a.2.1 b.2.1
mutual
theorem pls_ext : ∀ (t : Tm) (p : List Int) (w : Bool), ∀ x ∈ t.pls p w, ∃ s, x.2.1 = p ++ s
  | ⟨k, a, b, s, e, l⟩, p, w => by
    have h1 := plsL_ext k l p w 0
    have h2 : ∀ x ∈ Tm.pls1 k l p w, x ∈ Tm.plsL k l p w 0 := by
      intro x hx
      cases l with
      | nil => exact hx
      | cons y l =>
        simp only [Tm.pls1] at hx
        simp only [Tm.plsL, List.mem_append]
        exact Or.inl hx
    intro x hx
    simp only [Tm.pls, List.mem_cons] at hx
    rcases hx with rfl | hx
    · exact ⟨[], by simp⟩
    · split at hx
      · obtain ⟨j, s, -, h⟩ := h1 x (h2 x hx); exact ⟨_, h⟩
      · split at hx
        · obtain ⟨j, s, -, h⟩ := h1 x hx; exact ⟨_, h⟩
        · simp at hx
theorem plsL_ext (k : Int) : ∀ (l : List Tm) (p : List Int) (w : Bool) (i : Nat), ∀ x ∈ Tm.plsL k l p w i, ∃ (j : Nat) (s : List Int), i ≤ j ∧ x.2.1 = p ++ (j : Int) :: s
  | [], _, _, _ => by simp [Tm.plsL]
  | y :: l, p, w, i => by
    have h1 := pls_ext y (p ++ [(i : Int)]) (kidW k y w)
    have h2 := plsL_ext k l p w (i + 1)
    intro x hx
    simp only [Tm.plsL, List.mem_append] at hx
    rcases hx with hx | hx
    · obtain ⟨s, h⟩ := h1 x hx
      exact ⟨i, s, Nat.le_refl _, by rw [h]; simp⟩
    · obtain ⟨j, s, hj, h⟩ := h2 x hx
      exact ⟨j, s, by omega, h⟩
end
theorem mem_steps {l : List (Tm × List Int × Bool)} {a : Stp3} (h : a ∈ l.flatMap stepsAt) : ∃ x ∈ l, a.2.1 = x.2.1 := by
  obtain ⟨x, hx, ha⟩ := List.mem_flatMap.1 h
  refine ⟨x, hx, ?_⟩
  unfold stepsAt stp at ha
  obtain ⟨n, -, rfl⟩ := List.mem_map.1 ha
  rfl
theorem stp_pair (k : Int) (p : List Int) (n : Nat) (h : n ≤ 2) : (stp k p n).Pairwise ordR := by
  have : n = 0 ∨ n = 1 ∨ n = 2 := by omega
  rcases this with rfl | rfl | rfl
  · simp [stp]
  · simp [stp]
  · simp [stp, List.range_succ, ordR]
mutual
theorem pls_pair : ∀ (t : Tm) (p : List Int) (w : Bool), ((t.pls p w).flatMap stepsAt).Pairwise ordR
  | ⟨k, a, b, s, e, l⟩, p, w => by
    have h1 := plsL_pair k l p w 0
    have h2 : ((Tm.pls1 k l p w).flatMap stepsAt).Pairwise ordR := by
      cases l with
      | nil => simp [Tm.pls1]
      | cons y l => simp only [Tm.pls1]; exact pls_pair y _ _
    simp only [Tm.pls]
    by_cases c1 : k = 12 ∨ k = 7
    · rw [if_pos c1]
      have : stpN (⟨k, a, b, s, e, l⟩, p, w) = 0 := by unfold stpN; rw [if_pos (by simp only; omega)]
      simp only [List.flatMap_cons, stepsAt, this, stp_zero, List.nil_append]
      exact h2
    · rw [if_neg c1]
      by_cases c2 : k = 11
      · rw [if_pos c2]
        have : stpN (⟨k, a, b, s, e, l⟩, p, w) = 0 := by unfold stpN; rw [if_pos (by simp only; omega)]
        simp only [List.flatMap_cons, stepsAt, this, stp_zero, List.nil_append]
        exact h1
      · rw [if_neg c2]
        simp only [List.flatMap_cons, List.flatMap_nil, List.append_nil, stepsAt]
        exact stp_pair _ _ _ (stpN_le _)
theorem plsL_pair (k : Int) : ∀ (l : List Tm) (p : List Int) (w : Bool) (i : Nat), ((Tm.plsL k l p w i).flatMap stepsAt).Pairwise ordR
  | [], _, _, _ => by simp [Tm.plsL]
  | y :: l, p, w, i => by
    have h1 := pls_pair y (p ++ [(i : Int)]) (kidW k y w)
    have h2 := plsL_pair k l p w (i + 1)
    simp only [Tm.plsL, List.flatMap_append]
    refine List.pairwise_append.2 ⟨h1, h2, fun a ha b hb => .inr ?_⟩
    obtain ⟨x, hx, ea⟩ := mem_steps ha
    obtain ⟨z, hz, eb⟩ := mem_steps hb
    obtain ⟨s, e1⟩ := pls_ext _ _ _ x hx
    obtain ⟨j, s', hj, e2⟩ := plsL_ext _ _ _ _ _ z hz
    exact ⟨p, i, j, s, s', by rw [ea, e1]; simp, by rw [eb, e2], by omega⟩
end
theorem enabled_pair (t : Tm) : t.enabled.Pairwise ordR := pls_pair _ _ _
theorem enabled_next (t : Tm) (i : Nat) (h : i + 1 < t.enabled.length) : ordR t.enabled[i] t.enabled[i + 1] :=
  List.pairwise_iff_getElem.1 (enabled_pair t) i (i + 1) (by omega) h (by omega)
theorem sp_its (l m : List Int) (hl : l.length ≤ 137438953472) : Am.Spec Try.prog 27 [.sl (encI l), .sl (encI m)] (.bool (decide (l = m))) := by
  by_cases hlm : l.length = m.length
  · have hlm' : (l.length : Int) = m.length := by omega
    refine Am.Spec.of_W (W := W27) Try.func27 (by kernel_rfl) (by kernel_rfl) (by kernel_rfl) Try.ntmps27 W27_eq (rs := [.tmp 4]) (by kernel_rfl) (by simp) ?_
    intro vs
    simp [W27, W27_rs, W27_b1, W27_b3, W27_b4, W27_b5, W27_b7, W27_k2, W27_l6, hlm']
    refine sLoop_intro (fun i => i ≤ m.length ∧ ∀ j, j < i → l[j]? = m[j]?) (fun i => m.length - i) (fun i => [(0, .sl (encI l)), (1, .sl (encI m)), (5, .int .i64 (i : Nat))]) (fun _ => []) 0 (by simp) (by simp) (by simp) ?_
    rintro L i vt ⟨hi, hj⟩ hL
    by_cases h : i < m.length
    · have h' : (i : Int) < m.length := by omega
      have hl2 : i < l.length := by omega
      obtain ⟨a, ha⟩ : ∃ a, l[i] = a := ⟨_, rfl⟩
      obtain ⟨b, hb⟩ : ∃ b, m[i] = b := ⟨_, rfl⟩
      by_cases e : a = b
      · simp [W27, W27_rs, W27_b1, W27_b3, W27_b4, W27_b5, W27_b7, W27_k2, W27_l6, h, hl2, hlm, ha, hb, e]
        rw [wrap64 (by omega) (by omega)]
        refine hL _ _ _ (i + 1) ⟨h, fun j hj2 => ?_⟩ (by omega) (by simp) (by simp)
        by_cases ej : j = i
        · rw [ej, List.getElem?_eq_getElem hl2, List.getElem?_eq_getElem h, ha, hb, e]
        · exact hj j (by omega)
      · have hne : l ≠ m := fun e2 => e (by subst e2; rw [← ha, ← hb])
        simp [W27, W27_rs, W27_b1, W27_b3, W27_b4, W27_b5, W27_b7, W27_k2, W27_l6, h, hl2, hlm, ha, hb, e, retW_eq, hne]
    · have e : l = m := by
        refine List.ext_getElem? fun j => ?_
        by_cases hj2 : j < i
        · exact hj j hj2
        · rw [List.getElem?_eq_none (by omega), List.getElem?_eq_none (by omega)]
      have h' : ¬ (i : Int) < m.length := by omega
      simp [W27, W27_rs, W27_b1, W27_b3, W27_b4, W27_b5, W27_b7, W27_k2, W27_l6, h, hlm, retW_eq, e]
  · have hne : l ≠ m := fun e => hlm (by rw [e])
    have hlm' : ¬ (l.length : Int) = m.length := by omega
    refine Am.Spec.of_W (W := W27) Try.func27 (by kernel_rfl) (by kernel_rfl) (by kernel_rfl) Try.ntmps27 W27_eq (rs := [.tmp 4]) (by kernel_rfl) (by simp) ?_
    intro vs
    simp [W27, W27_rs, W27_b1, W27_b3, W27_b4, W27_b5, W27_b7, W27_k2, W27_l6, hlm, hlm', hne, retW_eq]
end Go.Proofs.Ytkagfenchknjjaa
set_option linter.unusedVariables false
set_option linter.unusedSimpArgs false
namespace Go.Proofs.Ytkagfenchknjjaa
open Go Go.Am Go.RowKit

theorem enabled_bound (t : Tm) (h : t.wt ≤ 5040) : t.enabled.length ≤ 100000 ∧ ∀ x ∈ t.enabled, x.2.1.length ≤ 100000 := by
  have hn := t.norm_wt
  have h1 := t.norm.pls_len [] (decide (0 < t.norm.waits.length))
  have h2 := steps_len (t.norm.pls [] (decide (0 < t.norm.waits.length)))
  have h3 := t.norm.pls_path [] (decide (0 < t.norm.waits.length))
  refine ⟨by unfold Tm.enabled Tm.enabledN; omega, fun x hx => ?_⟩
  obtain ⟨y, hy, e⟩ := mem_steps hx
  have := h3 y hy
  rw [e]
  simp at this
  omega
@[simp] theorem rd_S0 (x : Stp3) : readA (encS x) 0 1 false = some (.int .i64 x.1) := rfl
@[simp] theorem rd_S1 (x : Stp3) : readA (encS x) 1 1 false = some (.sl (encI x.2.1)) := rfl
@[simp] theorem rd_S2 (x : Stp3) : readA (encS x) 2 1 false = some (.int .i64 x.2.2) := rfl
@[simp] theorem rd_Sall (x : Stp3) : readA (encS x) 0 3 true = some (.agg (encS x)) := rfl
@[simp] theorem encS_cells (x : Stp3) : (∀ c ∈ encS x, c.cell = true) ↔ True := ⟨fun _ => trivial, fun _ => encS_cell x⟩
@[simp] theorem set_S0 (x : Stp3) (a b c : AV) : setL [a, b, c] 0 (encS x) = encS x := by rw [setL_whole (by simp)]
theorem encI_get (p : List Int) (i : Nat) : (encI p)[i]? = (p[i]?).map fun n => [.int .i64 n] := by simp [encI]
theorem few_one (r : Rw3) : few3 [r] = decide (r.sz 0 ≤ 40) := by simp [few3]
theorem ord_body (r : Rw3) (v2 : Nat) (l : List Stp3) (i : Nat) (hi : i + 1 < l.length) (hb : l.length ≤ 100000) (ho : ordR l[i] l[i + 1]) (hp : l[i].2.1.length ≤ 100000 ∧ l[i + 1].2.1.length ≤ 100000) (Φ : Exit → St → Prop) (L : St → Prop) (vt : Nat → Nat)
    (hL : ∀ T H vs, Am.subT T [(5, .sl (l.map encS)), (6, .int .i64 (i + 2 : Nat))] → L ⟨Am.look T, hls H vs, noG⟩) :
    W10_b48 Try.prog Φ L ⟨Am.look (Am.insT (Am.insT (Am.insT (Am.insT [(5, .sl (l.map encS)), (6, .int .i64 (i + 1 : Nat))] 21 (.int .i64 (i + 1 : Nat))) 22 (.sl (l.map encS))) 23 (.int .i64 l.length)) 24 (.bool true)), hls [] vt, noG⟩ := by
  have hi0 : i < l.length := by omega
  obtain ⟨a, ha⟩ : ∃ a, l[i] = a := ⟨_, rfl⟩
  obtain ⟨b, hb'⟩ : ∃ b, l[i + 1] = b := ⟨_, rfl⟩
  rw [ha, hb'] at ho hp
  have hspec := sp_its a.2.1 b.2.1 (by omega)
  have hw1 : IntKind.wrap .i64 (i : Int) = i := wrap64 (by omega) (by omega)
  have hw2 : IntKind.wrap .i64 ((i : Int) + 1 + 1) = i + 1 + 1 := wrap64 (by omega) (by omega)
  have h1' : (i : Int) < l.length := by omega
  have h2' : (i : Int) + 1 < l.length := by omega
  have hi2 : ((i + 2 : Nat) : Int) = i + 1 + 1 := by omega
  have hix : ixRows (l.map encS) ((i : Int) + 1) 3 = some (.elt (encS b) 0) := by
    rw [show (i : Int) + 1 = ((i + 1 : Nat) : Int) by omega, ixRows_nat]
    simp [hi, hb']
  rcases ho with ⟨e, e1, e2⟩ | ⟨pre, x, y, r1, s1, e1, e2, hxy⟩
  · simp [e] at hspec
    simp [W10, W10_rs, W10_b1, W10_b2, W10_b5, W10_b9, W10_b10, W10_b28, W10_b46, W10_b48, W10_b52, W10_b54, W10_k3, W10_k4, W10_k27, W10_c6, W10_c7, W10_c8, W10_c11, W10_c12, W10_c13, W10_c14, W10_c15, W10_c16, W10_c17, W10_c18, W10_c19, W10_c20, W10_c21, W10_c22, W10_c23, W10_c24, W10_c25, W10_c26, W10_c29, W10_c30, W10_c31, W10_c32, W10_c33, W10_c34, W10_c35, W10_c36, W10_c37, W10_c38, W10_c39, W10_c40, W10_c41, W10_c42, W10_c43, W10_c44, W10_c47, W10_c50, W10_c51, W10_c53, W10_c55, W10_l45, W10_l49, hi, hi0, ha, hb', hw1, hix]
    refine scall_pure hspec (by simp [e]) (by simp) ?_
    simp [W10, W10_rs, W10_b1, W10_b2, W10_b5, W10_b9, W10_b10, W10_b28, W10_b46, W10_b48, W10_b52, W10_b54, W10_k3, W10_k4, W10_k27, W10_c6, W10_c7, W10_c8, W10_c11, W10_c12, W10_c13, W10_c14, W10_c15, W10_c16, W10_c17, W10_c18, W10_c19, W10_c20, W10_c21, W10_c22, W10_c23, W10_c24, W10_c25, W10_c26, W10_c29, W10_c30, W10_c31, W10_c32, W10_c33, W10_c34, W10_c35, W10_c36, W10_c37, W10_c38, W10_c39, W10_c40, W10_c41, W10_c42, W10_c43, W10_c44, W10_c47, W10_c50, W10_c51, W10_c53, W10_c55, W10_l45, W10_l49, e1, e2, hw2]
    exact hL _ _ _ (by simp [hi2])
  · have hne : a.2.1 ≠ b.2.1 := by
      rw [e1, e2]
      intro e
      have := List.append_cancel_left e
      simp at this
      omega
    simp [hne] at hspec
    simp [W10, W10_rs, W10_b1, W10_b2, W10_b5, W10_b9, W10_b10, W10_b28, W10_b46, W10_b48, W10_b52, W10_b54, W10_k3, W10_k4, W10_k27, W10_c6, W10_c7, W10_c8, W10_c11, W10_c12, W10_c13, W10_c14, W10_c15, W10_c16, W10_c17, W10_c18, W10_c19, W10_c20, W10_c21, W10_c22, W10_c23, W10_c24, W10_c25, W10_c26, W10_c29, W10_c30, W10_c31, W10_c32, W10_c33, W10_c34, W10_c35, W10_c36, W10_c37, W10_c38, W10_c39, W10_c40, W10_c41, W10_c42, W10_c43, W10_c44, W10_c47, W10_c50, W10_c51, W10_c53, W10_c55, W10_l45, W10_l49, hi, hi0, ha, hb', hw1, hix]
    refine scall_pure hspec (by simp) (by simp) ?_
    simp [W10, W10_rs, W10_b1, W10_b2, W10_b5, W10_b9, W10_b10, W10_b28, W10_b46, W10_b48, W10_b52, W10_b54, W10_k3, W10_k4, W10_k27, W10_c6, W10_c7, W10_c8, W10_c11, W10_c12, W10_c13, W10_c14, W10_c15, W10_c16, W10_c17, W10_c18, W10_c19, W10_c20, W10_c21, W10_c22, W10_c23, W10_c24, W10_c25, W10_c26, W10_c29, W10_c30, W10_c31, W10_c32, W10_c33, W10_c34, W10_c35, W10_c36, W10_c37, W10_c38, W10_c39, W10_c40, W10_c41, W10_c42, W10_c43, W10_c44, W10_c47, W10_c50, W10_c51, W10_c53, W10_c55, W10_l45, W10_l49]
    refine sLoop_intro (fun k => k ≤ pre.length) (fun k => pre.length - k) (fun k => [(5, .sl (l.map encS)), (6, .int .i64 ((i : Int) + 1)), (7, .ref 7 (vt 7 + 1) (.p 0)), (8, .ref 8 (vt 8 + 1) (.p 0)), (9, .int .i64 (k : Nat))])
      (fun k => [(7, .box (vt 7 + 1) 43 (encS a)), (8, .box (vt 8 + 1) 43 (encS b))]) 0 (by simp) (by simp) (by simp) ?_
    intro K k vu hk hK
    have ea : a.2.1.length = pre.length + (r1.length + 1) := by rw [e1]; simp
    have eb : b.2.1.length = pre.length + (s1.length + 1) := by rw [e2]; simp
    have k1 : k < a.2.1.length := by omega
    have k2 : k < b.2.1.length := by omega
    by_cases h : k < pre.length
    · have g1 : a.2.1[k] = pre[k] := by simp [e1, h]
      have g2 : b.2.1[k] = pre[k] := by simp [e2, h]
      simp [W10, W10_rs, W10_b1, W10_b2, W10_b5, W10_b9, W10_b10, W10_b28, W10_b46, W10_b48, W10_b52, W10_b54, W10_k3, W10_k4, W10_k27, W10_c6, W10_c7, W10_c8, W10_c11, W10_c12, W10_c13, W10_c14, W10_c15, W10_c16, W10_c17, W10_c18, W10_c19, W10_c20, W10_c21, W10_c22, W10_c23, W10_c24, W10_c25, W10_c26, W10_c29, W10_c30, W10_c31, W10_c32, W10_c33, W10_c34, W10_c35, W10_c36, W10_c37, W10_c38, W10_c39, W10_c40, W10_c41, W10_c42, W10_c43, W10_c44, W10_c47, W10_c50, W10_c51, W10_c53, W10_c55, W10_l45, W10_l49, k1, k2, g1, g2]
      rw [wrap64 (by omega) (by omega)]
      exact hK _ _ _ (k + 1) (by omega) (by omega) (by simp) (by simp)
    · obtain rfl : k = pre.length := by omega
      have g1 : a.2.1[pre.length] = x := by simp [e1]
      have g2 : b.2.1[pre.length] = y := by simp [e2]
      have h1 : ¬ x = y := by omega
      have h2 : ¬ y < x := by omega
      have h3 : ¬ a.2.1.length ≤ pre.length := by omega
      have h4 : ¬ b.2.1.length ≤ pre.length := by omega
      simp [W10, W10_rs, W10_b1, W10_b2, W10_b5, W10_b9, W10_b10, W10_b28, W10_b46, W10_b48, W10_b52, W10_b54, W10_k3, W10_k4, W10_k27, W10_c6, W10_c7, W10_c8, W10_c11, W10_c12, W10_c13, W10_c14, W10_c15, W10_c16, W10_c17, W10_c18, W10_c19, W10_c20, W10_c21, W10_c22, W10_c23, W10_c24, W10_c25, W10_c26, W10_c29, W10_c30, W10_c31, W10_c32, W10_c33, W10_c34, W10_c35, W10_c36, W10_c37, W10_c38, W10_c39, W10_c40, W10_c41, W10_c42, W10_c43, W10_c44, W10_c47, W10_c50, W10_c51, W10_c53, W10_c55, W10_l45, W10_l49, k1, k2, g1, g2, h1, h2, h3, h4, hw2]
      exact hL _ _ _ (by simp [hi2])
theorem sp_ord1 (r : Rw3) (w : Int) (t : Tm) (l : List Stp3) (hfew : Am.Spec Try.prog 21 [.agg [.int .i64 0, .int .i64 0, .sl ([r].map encR3)]] (.bool true)) (hmk : Am.Spec Try.prog 23 [.agg (encR3 r), .int .i64 w] (.agg (encT t)))
    (hen : Am.Spec Try.prog 24 [.agg (encT t)] (.sl (l.map encS))) (hb : l.length ≤ 100000 ∧ ∀ x ∈ l, x.2.1.length ≤ 100000) (hx : ∀ i (h : i + 1 < l.length), ordR l[i] l[i + 1]) :
    Am.Spec Try.prog 10 [.agg (encR3 r), .int .i64 w] (.bool true) := by
  refine Am.Spec.of_W (W := W10) Try.func10 (by kernel_rfl) (by kernel_rfl) (by kernel_rfl) Try.ntmps10 W10_eq (rs := [.tmp 4]) (by kernel_rfl) (by simp) ?_
  intro vs
  simp [W10, W10_rs, W10_b1, W10_b2, W10_b5, W10_b9, W10_b10, W10_b28, W10_b46, W10_b48, W10_b52, W10_b54, W10_k3, W10_k4, W10_k27, W10_c6, W10_c7, W10_c8, W10_c11, W10_c12, W10_c13, W10_c14, W10_c15, W10_c16, W10_c17, W10_c18, W10_c19, W10_c20, W10_c21, W10_c22, W10_c23, W10_c24, W10_c25, W10_c26, W10_c29, W10_c30, W10_c31, W10_c32, W10_c33, W10_c34, W10_c35, W10_c36, W10_c37, W10_c38, W10_c39, W10_c40, W10_c41, W10_c42, W10_c43, W10_c44, W10_c47, W10_c50, W10_c51, W10_c53, W10_c55, W10_l45, W10_l49]
  refine scall_pure sp_kno (by simp) (by simp) ?_
  simp [W10, W10_rs, W10_b1, W10_b2, W10_b5, W10_b9, W10_b10, W10_b28, W10_b46, W10_b48, W10_b52, W10_b54, W10_k3, W10_k4, W10_k27, W10_c6, W10_c7, W10_c8, W10_c11, W10_c12, W10_c13, W10_c14, W10_c15, W10_c16, W10_c17, W10_c18, W10_c19, W10_c20, W10_c21, W10_c22, W10_c23, W10_c24, W10_c25, W10_c26, W10_c29, W10_c30, W10_c31, W10_c32, W10_c33, W10_c34, W10_c35, W10_c36, W10_c37, W10_c38, W10_c39, W10_c40, W10_c41, W10_c42, W10_c43, W10_c44, W10_c47, W10_c50, W10_c51, W10_c53, W10_c55, W10_l45, W10_l49]
  refine scall_pure hfew (by simp) (by simp) ?_
  simp [W10, W10_rs, W10_b1, W10_b2, W10_b5, W10_b9, W10_b10, W10_b28, W10_b46, W10_b48, W10_b52, W10_b54, W10_k3, W10_k4, W10_k27, W10_c6, W10_c7, W10_c8, W10_c11, W10_c12, W10_c13, W10_c14, W10_c15, W10_c16, W10_c17, W10_c18, W10_c19, W10_c20, W10_c21, W10_c22, W10_c23, W10_c24, W10_c25, W10_c26, W10_c29, W10_c30, W10_c31, W10_c32, W10_c33, W10_c34, W10_c35, W10_c36, W10_c37, W10_c38, W10_c39, W10_c40, W10_c41, W10_c42, W10_c43, W10_c44, W10_c47, W10_c50, W10_c51, W10_c53, W10_c55, W10_l45, W10_l49]
  refine scall_pure hmk (by simp) (by simp) ?_
  simp [W10, W10_rs, W10_b1, W10_b2, W10_b5, W10_b9, W10_b10, W10_b28, W10_b46, W10_b48, W10_b52, W10_b54, W10_k3, W10_k4, W10_k27, W10_c6, W10_c7, W10_c8, W10_c11, W10_c12, W10_c13, W10_c14, W10_c15, W10_c16, W10_c17, W10_c18, W10_c19, W10_c20, W10_c21, W10_c22, W10_c23, W10_c24, W10_c25, W10_c26, W10_c29, W10_c30, W10_c31, W10_c32, W10_c33, W10_c34, W10_c35, W10_c36, W10_c37, W10_c38, W10_c39, W10_c40, W10_c41, W10_c42, W10_c43, W10_c44, W10_c47, W10_c50, W10_c51, W10_c53, W10_c55, W10_l45, W10_l49]
  refine scall_pure hen (by simp) (by simp) ?_
  simp [W10, W10_rs, W10_b1, W10_b2, W10_b5, W10_b9, W10_b10, W10_b28, W10_b46, W10_b48, W10_b52, W10_b54, W10_k3, W10_k4, W10_k27, W10_c6, W10_c7, W10_c8, W10_c11, W10_c12, W10_c13, W10_c14, W10_c15, W10_c16, W10_c17, W10_c18, W10_c19, W10_c20, W10_c21, W10_c22, W10_c23, W10_c24, W10_c25, W10_c26, W10_c29, W10_c30, W10_c31, W10_c32, W10_c33, W10_c34, W10_c35, W10_c36, W10_c37, W10_c38, W10_c39, W10_c40, W10_c41, W10_c42, W10_c43, W10_c44, W10_c47, W10_c50, W10_c51, W10_c53, W10_c55, W10_l45]
  refine sLoop_intro (fun i => i + 1 ≤ l.length ∨ i = 0) (fun i => l.length - i) (fun i => [(5, .sl (l.map encS)), (6, .int .i64 (i + 1 : Nat))]) (fun _ => []) 0 (by simp) (by simp) (by simp) ?_
  rintro L i vt hi hL
  by_cases hi2 : i + 1 < l.length
  · have h' : (i : Int) + 1 < l.length := by omega
    simp [W10, W10_rs, W10_b1, W10_b2, W10_b5, W10_b9, W10_b10, W10_b28, W10_b46, W10_b52, W10_b54, W10_k3, W10_k4, W10_k27, W10_c6, W10_c7, W10_c8, W10_c11, W10_c12, W10_c13, W10_c14, W10_c15, W10_c16, W10_c17, W10_c18, W10_c19, W10_c20, W10_c21, W10_c22, W10_c23, W10_c24, W10_c25, W10_c26, W10_c29, W10_c30, W10_c31, W10_c32, W10_c33, W10_c34, W10_c35, W10_c36, W10_c37, W10_c38, W10_c39, W10_c40, W10_c41, W10_c42, W10_c43, W10_c44, W10_c47, W10_c50, W10_c51, W10_c53, W10_c55, W10_l45, W10_l49, hi2, h']
    exact ord_body r 0 l i hi2 hb.1 (hx i hi2) ⟨hb.2 _ (List.getElem_mem _), hb.2 _ (List.getElem_mem _)⟩ _ L vt fun T H vs hT => hL T H vs (i + 1) (by omega) (by omega) hT (by simp)
  · have h' : ¬ (i : Int) + 1 < l.length := by omega
    simp [W10, W10_rs, W10_b1, W10_b2, W10_b5, W10_b9, W10_b10, W10_b28, W10_b46, W10_b48, W10_b52, W10_b54, W10_k3, W10_k4, W10_k27, W10_c6, W10_c7, W10_c8, W10_c11, W10_c12, W10_c13, W10_c14, W10_c15, W10_c16, W10_c17, W10_c18, W10_c19, W10_c20, W10_c21, W10_c22, W10_c23, W10_c24, W10_c25, W10_c26, W10_c29, W10_c30, W10_c31, W10_c32, W10_c33, W10_c34, W10_c35, W10_c36, W10_c37, W10_c38, W10_c39, W10_c40, W10_c41, W10_c42, W10_c43, W10_c44, W10_c47, W10_c50, W10_c51, W10_c53, W10_c55, W10_l45, W10_l49, hi2, h', retW_eq]
theorem sp_ord (r : Rw3) (w : Int) : Am.Spec Try.prog 10 [.agg (encR3 r), .int .i64 w] (.bool true) := by
  have hfew := sp_fw3 (.int .i64 0) (.int .i64 0) [r] (by simp [maxLen]) (by simp [closed]) (by simp [closed])
  rw [few_one] at hfew
  by_cases h : r.sz 0 ≤ 40
  · rw [decide_eq_true h] at hfew
    have hwt := mkT_wt r w h
    exact sp_ord1 r w _ _ hfew (sp_mkT r w h) (sp_enb _ (by omega)) (enabled_bound _ hwt) (enabled_next _)
  · rw [decide_eq_false h] at hfew
    refine Am.Spec.of_W (W := W10) Try.func10 (by kernel_rfl) (by kernel_rfl) (by kernel_rfl) Try.ntmps10 W10_eq (rs := [.tmp 4]) (by kernel_rfl) (by simp) ?_
    intro vs
    simp [W10, W10_rs, W10_b1, W10_b2, W10_b5, W10_b9, W10_b10, W10_b28, W10_b46, W10_b48, W10_b52, W10_b54, W10_k3, W10_k4, W10_k27, W10_c6, W10_c7, W10_c8, W10_c11, W10_c12, W10_c13, W10_c14, W10_c15, W10_c16, W10_c17, W10_c18, W10_c19, W10_c20, W10_c21, W10_c22, W10_c23, W10_c24, W10_c25, W10_c26, W10_c29, W10_c30, W10_c31, W10_c32, W10_c33, W10_c34, W10_c35, W10_c36, W10_c37, W10_c38, W10_c39, W10_c40, W10_c41, W10_c42, W10_c43, W10_c44, W10_c47, W10_c50, W10_c51, W10_c53, W10_c55, W10_l45, W10_l49]
    refine scall_pure sp_kno (by simp) (by simp) ?_
    simp [W10, W10_rs, W10_b1, W10_b2, W10_b5, W10_b9, W10_b10, W10_b28, W10_b46, W10_b48, W10_b52, W10_b54, W10_k3, W10_k4, W10_k27, W10_c6, W10_c7, W10_c8, W10_c11, W10_c12, W10_c13, W10_c14, W10_c15, W10_c16, W10_c17, W10_c18, W10_c19, W10_c20, W10_c21, W10_c22, W10_c23, W10_c24, W10_c25, W10_c26, W10_c29, W10_c30, W10_c31, W10_c32, W10_c33, W10_c34, W10_c35, W10_c36, W10_c37, W10_c38, W10_c39, W10_c40, W10_c41, W10_c42, W10_c43, W10_c44, W10_c47, W10_c50, W10_c51, W10_c53, W10_c55, W10_l45, W10_l49]
    refine scall_pure hfew (by simp) (by simp) ?_
    simp [W10, W10_rs, W10_b1, W10_b2, W10_b5, W10_b9, W10_b10, W10_b28, W10_b46, W10_b48, W10_b52, W10_b54, W10_k3, W10_k4, W10_k27, W10_c6, W10_c7, W10_c8, W10_c11, W10_c12, W10_c13, W10_c14, W10_c15, W10_c16, W10_c17, W10_c18, W10_c19, W10_c20, W10_c21, W10_c22, W10_c23, W10_c24, W10_c25, W10_c26, W10_c29, W10_c30, W10_c31, W10_c32, W10_c33, W10_c34, W10_c35, W10_c36, W10_c37, W10_c38, W10_c39, W10_c40, W10_c41, W10_c42, W10_c43, W10_c44, W10_c47, W10_c50, W10_c51, W10_c53, W10_c55, W10_l45, W10_l49, retW_eq]
end Go.Proofs.Ytkagfenchknjjaa
set_option linter.unusedVariables false
set_option linter.unusedSimpArgs false
namespace Go.Proofs.Ytkagfenchknjjaa
open Go Go.Am Go.RowKit

/-! What stands deeper may do the same, further down. -/
def shX (p0 : List Int) (x : Tm × List Int × Bool) : Tm × List Int × Bool := (x.1, p0 ++ x.2.1, x.2.2)
def shS (p0 : List Int) (x : Stp3) : Stp3 := (x.1, p0 ++ x.2.1, x.2.2)
mutual
theorem pls_shift (p0 : List Int) : ∀ (t : Tm) (p : List Int) (w : Bool), t.pls (p0 ++ p) w = (t.pls p w).map (shX p0)
  | ⟨k, a, b, s, e, l⟩, p, w => by
    have h1 := plsL_shift p0 k l p w 0
    have h2 : Tm.pls1 k l (p0 ++ p) w = (Tm.pls1 k l p w).map (shX p0) := by
      cases l with
      | nil => rfl
      | cons y l => simp only [Tm.pls1]; rw [List.append_assoc]; exact pls_shift p0 y _ _
    simp only [Tm.pls, List.map_cons]
    split
    · rw [h2]; rfl
    · split
      · rw [h1]; rfl
      · rfl
theorem plsL_shift (p0 : List Int) (k : Int) : ∀ (l : List Tm) (p : List Int) (w : Bool) (i : Nat), Tm.plsL k l (p0 ++ p) w i = (Tm.plsL k l p w i).map (shX p0)
  | [], _, _, _ => rfl
  | y :: l, p, w, i => by
    simp only [Tm.plsL, List.map_append]
    rw [List.append_assoc, pls_shift p0 y, plsL_shift p0 k l]
end
theorem steps_shift (p0 : List Int) (l : List (Tm × List Int × Bool)) : (l.map (shX p0)).flatMap stepsAt = (l.flatMap stepsAt).map (shS p0) := by
  induction l with
  | nil => rfl
  | cons x l ih =>
    simp only [List.map_cons, List.flatMap_cons, List.map_append, ih]
    congr 1
    unfold stepsAt stp
    rw [show stpN (shX p0 x) = stpN x from rfl, List.map_map]
    rfl
def blk (t : Tm) : Tm := .of 7 [t]
theorem blk_norm (t : Tm) : (blk t).norm = if t.norm.kind = 0 then .skip else .of 7 [t.norm] := by
  rw [Tm.norm_one (x := t) rfl]; rfl
theorem en_skip {n : Tm} (h : n.kind = 0) : n.enabledN = [] := by
  have hk : n.kidsP = 0 := by simp [Tm.kidsP, h]
  unfold Tm.enabledN
  rw [Tm.pls_eq, hk]
  simp [Tm.plsL, stepsAt, stpN, h, stp_zero]
theorem of7_pls (n : Tm) (w : Bool) : (Tm.of 7 [n]).pls [] w = (Tm.of 7 [n], [], w) :: n.pls [0] (decide (0 < n.waits.length)) := by simp [Tm.of, Tm.pls, Tm.pls1, kidW]
theorem enabled_blk (t : Tm) : (blk t).enabled = t.enabled.map (shS [0]) := by
  unfold Tm.enabled
  rw [blk_norm]
  by_cases h : t.norm.kind = 0
  · rw [if_pos h, en_skip h, en_skip rfl]; rfl
  · rw [if_neg h]
    generalize t.norm = n
    have := pls_shift [0] n [] (decide (0 < n.waits.length))
    simp only [List.append_nil] at this
    unfold Tm.enabledN
    rw [of7_pls, List.flatMap_cons, this, steps_shift]
    simp [stepsAt, stpN, stp_zero, Tm.of]
def blks (t : Tm) : Nat → Tm
  | 0 => t
  | n + 1 => blk (blks t n)
theorem blks_enabled (t : Tm) : ∀ n, (blks t n).enabled = t.enabled.map (shS (List.replicate n 0))
  | 0 => by
    have : shS [] = id := by funext x; simp [shS]
    simp [blks, this]
  | n + 1 => by
    rw [blks, enabled_blk, blks_enabled t n, List.map_map]
    congr 1
theorem blks_norm (t : Tm) : ∀ n, (blks t n).norm.kind = 0 ↔ t.norm.kind = 0
  | 0 => Iff.rfl
  | n + 1 => by
    rw [blks, blk_norm, ← blks_norm t n]
    by_cases h : (blks t n).norm.kind = 0
    · simp [h, Tm.skip, Tm.of]
    · simp [h, Tm.of]
theorem blks_status (t : Tm) (n : Nat) : (blks t n).status = t.status := by
  unfold Tm.status
  simp only [blks_norm, blks_enabled, List.map_eq_nil_iff]
theorem blks_wt (t : Tm) : ∀ n, (blks t n).wt = t.wt + 2 * n
  | 0 => rfl
  | n + 1 => by
    have := blks_wt t n
    rw [blks, blk, Tm.of, Tm.wt, Ex.zero_wt, Tm.wts, Tm.wts]; omega
end Go.Proofs.Ytkagfenchknjjaa
set_option linter.unusedVariables false
set_option linter.unusedSimpArgs false
namespace Go.Proofs.Ytkagfenchknjjaa
open Go Go.Am Go.RowKit

/-! A wait beside: exits that are in no block go, nothing else. -/
def exW (w : Bool) (n : Tm) (x : Tm × List Int × Bool) : Prop := True
/-- The second is the first, further down, but some exits. -/
inductive Sub (z : List Int) : List Stp3 → List Stp3 → Prop
  | nil : Sub z [] []
  | keep (a : Stp3) {p q : List Stp3} : Sub z p q → Sub z (a :: p) (shS z a :: q)
  | drop (a : Stp3) {p q : List Stp3} : a.1 = 8 → Sub z p q → Sub z (a :: p) q
theorem Sub.app {z : List Int} {p q p' q' : List Stp3} (h : Sub z p q) (k : Sub z p' q') : Sub z (p ++ p') (q ++ q') := by
  induction h with
  | nil => exact k
  | keep a _ ih => exact .keep a ih
  | drop a e _ ih => exact .drop a e ih
theorem Sub.refl (z : List Int) : ∀ p : List Stp3, Sub z p (p.map (shS z))
  | [] => .nil
  | a :: p => .keep a (Sub.refl z p)
theorem sub_at (x : Tm) (p : List Int) (w : Bool) (z : List Int) : Sub z (stepsAt (x, p, w)) (stepsAt (x, z ++ p, true)) := by
  by_cases hk : x.kind = 8
  · cases w
    · have e1 : stepsAt (x, p, false) = [(8, p, 0)] := by simp [stepsAt, stpN, hk, stp]
      have e2 : stepsAt (x, z ++ p, true) = [] := by simp [stepsAt, stpN, hk, stp]
      rw [e1, e2]
      exact .drop _ rfl .nil
    · have e1 : stepsAt (x, p, true) = [] := by simp [stepsAt, stpN, hk, stp]
      have e2 : stepsAt (x, z ++ p, true) = [] := by simp [stepsAt, stpN, hk, stp]
      rw [e1, e2]
      exact .nil
  · have : stepsAt (x, z ++ p, true) = (stepsAt (x, p, w)).map (shS z) := by
      have hn : stpN (x, z ++ p, true) = stpN (x, p, w) := by simp [stpN, hk]
      unfold stepsAt
      rw [hn]
      simp [stp, shS]
    rw [this]
    exact Sub.refl z _
mutual
theorem pls_sub (z : List Int) : ∀ (t : Tm) (p : List Int) (w : Bool), Sub z ((t.pls p w).flatMap stepsAt) ((t.pls (z ++ p) true).flatMap stepsAt)
  | ⟨k, a, b, s, e, l⟩, p, w => by
    have h1 := plsL_sub z k l p w 0
    have h2 : Sub z ((Tm.pls1 k l p w).flatMap stepsAt) ((Tm.pls1 k l (z ++ p) true).flatMap stepsAt) := by
      cases l with
      | nil => exact .nil
      | cons y l =>
        simp only [Tm.pls1]
        rw [List.append_assoc]
        by_cases hk : k = 7
        · subst hk
          have := pls_shift z y (p ++ [0]) (decide (0 < y.waits.length))
          simp only [kidW, if_true]
          rw [this, steps_shift]
          exact Sub.refl z _
        · simp only [kidW, if_neg hk]
          exact pls_sub z y _ _
    have h0 := sub_at ⟨k, a, b, s, e, l⟩ p w z
    simp only [Tm.pls, List.flatMap_cons]
    refine h0.app ?_
    split
    · exact h2
    · split
      · exact h1
      · exact .nil
theorem plsL_sub (z : List Int) (k : Int) : ∀ (l : List Tm) (p : List Int) (w : Bool) (i : Nat), Sub z ((Tm.plsL k l p w i).flatMap stepsAt) ((Tm.plsL k l (z ++ p) true i).flatMap stepsAt)
  | [], _, _, _ => .nil
  | y :: l, p, w, i => by
    simp only [Tm.plsL, List.flatMap_append]
    refine Sub.app ?_ (plsL_sub z k l p w (i + 1))
    rw [List.append_assoc]
    by_cases hk : k = 7
    · subst hk
      have := pls_shift z y (p ++ [(i : Int)]) (decide (0 < y.waits.length))
      simp only [kidW, if_true]
      rw [this, steps_shift]
      exact Sub.refl z _
    · simp only [kidW, if_neg hk]
      exact pls_sub z y _ _
end
def wtT0 : Tm := ⟨14, 0, -1, ⟨#[112, 97, 121]⟩, .zero, []⟩
def besW (t : Tm) : Tm := .of 11 [t, wtT0]
theorem bes_norm (t : Tm) : (besW t).norm = .of 11 [t.norm, wtT0] := by
  rw [Tm.norm_two (x := t) (y := wtT0) rfl]
  have h : wtT0.norm = wtT0 := Tm.norm_else (by simp [wtT0]) (by simp [wtT0])
  rw [h]
  simp [besW, Tm.of, wtT0]
theorem bes_waits (n : Tm) : 0 < (Tm.of 11 [n, wtT0]).waits.length := by
  unfold Tm.waits
  rw [Tm.act_eq]
  have hk : (Tm.of 11 [n, wtT0]).kidsA = [n, wtT0] := by simp [Tm.kidsA, Tm.of]
  rw [hk]
  have ha : wtT0.act = [wtT0] := by rw [Tm.act_eq]; simp [Tm.kidsA, wtT0, Tm.acts]
  simp only [Tm.acts, ha, List.filterMap_cons, List.filterMap_append, List.append_nil]
  simp [Tm.of, wtT0]
theorem bes_enabled (t : Tm) : Sub [0] t.enabled (besW t).enabled := by
  unfold Tm.enabled Tm.enabledN
  rw [bes_norm, decide_eq_true (bes_waits t.norm)]
  generalize t.norm = n
  have := pls_sub [0] n [] (decide (0 < n.waits.length))
  have e : ((Tm.of 11 [n, wtT0]).pls [] true).flatMap stepsAt = (n.pls [0] true).flatMap stepsAt := by
    simp [Tm.of, Tm.pls, Tm.plsL, kidW, wtT0, stepsAt, stpN, stp]
  rw [e]
  exact this
end Go.Proofs.Ytkagfenchknjjaa
set_option linter.unusedVariables false
set_option linter.unusedSimpArgs false
namespace Go.Proofs.Ytkagfenchknjjaa
open Go Go.Am Go.RowKit

@[simp] theorem occ_tup' (cs : List AV) : occ (.tup cs) = occL cs := by simp [occ]
@[simp] theorem encI_cells (p : List Int) : (∀ x ∈ encI p, x.length = 1 ∧ ∀ c ∈ x, c.cell = true) ↔ True := ⟨fun _ => trivial, fun _ => encI_cell p⟩
theorem sub_mem {z : List Int} {p q : List Stp3} (h : Sub z p q) : ∀ b ∈ q, ∃ a ∈ p, b = shS z a := by
  induction h with
  | nil => simp
  | keep a _ ih =>
    intro b hb
    rcases List.mem_cons.1 hb with rfl | hb
    · exact ⟨a, by simp, rfl⟩
    · obtain ⟨c, hc, e⟩ := ih b hb; exact ⟨c, by simp [hc], e⟩
  | drop a _ _ ih =>
    intro b hb
    obtain ⟨c, hc, e⟩ := ih b hb; exact ⟨c, by simp [hc], e⟩
def mat (a b : Stp3) : Prop := b.1 = a.1 ∧ b.2.2 = a.2.2 ∧ b.2.1 = 0 :: a.2.1
theorem sub_step {a : Stp3} {p q : List Stp3} (h : Sub [0] (a :: p) q) (ho : ∀ x ∈ p, ordR a x) :
    (∀ b q', q = b :: q' → mat a b → Sub [0] p q') ∧ ((∀ b q', q = b :: q' → ¬ mat a b) → a.1 = 8 ∧ Sub [0] p q) := by
  cases h with
  | keep _ h =>
    refine ⟨fun b q' e _ => ?_, fun hn => ?_⟩
    · cases e; exact h
    · exact absurd ⟨rfl, rfl, rfl⟩ (hn _ _ rfl)
  | drop _ e8 h =>
    refine ⟨fun b q' e hm => ?_, fun _ => ⟨e8, h⟩⟩
    exfalso
    obtain ⟨c, hc, rfl⟩ := sub_mem h b (by rw [e]; simp)
    obtain ⟨-, m2, m3⟩ := hm
    have m3 : c.2.1 = a.2.1 := by simpa [shS] using m3
    have m2 : c.2.2 = a.2.2 := m2
    rcases ho c hc with ⟨-, o1, o2⟩ | ⟨pre, x, y, r, s, o1, o2, o3⟩
    · omega
    · rw [o1, o2] at m3
      have := List.append_cancel_left m3
      simp at this
      omega
theorem wai_body (l q : List Stp3) (i k : Nat) (hi : i < l.length) (hl : l.length ≤ 100000) (hq : q.length ≤ 100000) (hk : k ≤ q.length) (hp : ∀ x ∈ l, x.2.1.length ≤ 100000) (hpq : ∀ x ∈ q, x.2.1.length ≤ 100000)
    (hs : Sub [0] (l.drop i) (q.drop k)) (ho : ∀ x ∈ l.drop (i + 1), ordR l[i] x) (Φ : Exit → St → Prop) (L : St → Prop) (vt : Nat → Nat)
    (hL : ∀ T H vs k', k' ≤ q.length → Sub [0] (l.drop (i + 1)) (q.drop k') → Am.subT T [(5, .sl (l.map encS)), (6, .sl (q.map encS)), (7, .int .i64 (k' : Nat)), (8, .int .i64 (i + 1 : Nat))] → L ⟨Am.look T, hls H vs, noG⟩)
    (T : List (Nat × AV)) (h5 : Am.look T 5 = .sl (l.map encS)) (h6 : Am.look T 6 = .sl (q.map encS)) (h7 : Am.look T 7 = .int .i64 (k : Nat)) (h8 : Am.look T 8 = .int .i64 (i : Nat)) :
    W9_b43 Try.prog Φ L ⟨Am.look T, hls [] vt, noG⟩ := by
  have hi' : (i : Int) < l.length := by omega
  have hpa := hp _ (List.getElem_mem hi)
  rw [List.drop_eq_getElem_cons hi] at hs
  obtain ⟨s1, s2⟩ := sub_step hs ho
  obtain ⟨a, hg⟩ : ∃ a, l[i] = a := ⟨_, rfl⟩
  rw [hg] at s1 s2 hpa
  have hwi : IntKind.wrap .i64 ((i : Int) + 1) = i + 1 := wrap64 (by omega) (by omega)
  have hL2 : ∀ T H vs, Sub [0] (l.drop (i + 1)) (q.drop k) → Am.subT T [(5, .sl (l.map encS)), (6, .sl (q.map encS)), (7, .int .i64 (k : Nat)), (8, .int .i64 ((i : Int) + 1))] → L ⟨Am.look T, hls H vs, noG⟩ := fun T H vs h1 h2 => hL T H vs k hk h1 (by simpa using h2)
  by_cases hkq : k < q.length
  · have hkq' : (k : Int) < q.length := by omega
    have hpb := hpq _ (List.getElem_mem hkq)
    have hd := List.drop_eq_getElem_cons hkq
    obtain ⟨b, hgb⟩ : ∃ b, q[k] = b := ⟨_, rfl⟩
    rw [hgb] at hd hpb
    have hno : ¬ mat a b → a.1 = 8 ∧ Sub [0] (l.drop (i + 1)) (q.drop k) := fun hm => s2 fun b' q' e => by rw [hd] at e; cases e; exact hm
    by_cases c1 : b.1 = a.1
    · by_cases c2 : b.2.2 = a.2.2
      · have hspec := sp_its b.2.1 (0 :: a.2.1) (by omega)
        by_cases c3 : b.2.1 = 0 :: a.2.1
        · have hnx := s1 b _ hd ⟨c1, c2, c3⟩
          have hwk : IntKind.wrap .i64 ((k : Int) + 1) = k + 1 := wrap64 (by omega) (by omega)
          rw [decide_eq_true c3] at hspec
          simp [W9, W9_rs, W9_b1, W9_b2, W9_b5, W9_b6, W9_b7, W9_b43, W9_b48, W9_b50, W9_k3, W9_k4, W9_c8, W9_c9, W9_c10, W9_c11, W9_c12, W9_c13, W9_c14, W9_c15, W9_c16, W9_c17, W9_c18, W9_c19, W9_c20, W9_c21, W9_c22, W9_c23, W9_c24, W9_c25, W9_c26, W9_c27, W9_c28, W9_c29, W9_c30, W9_c31, W9_c32, W9_c33, W9_c34, W9_c35, W9_c36, W9_c37, W9_c38, W9_c39, W9_c40, W9_c41, W9_c42, W9_c45, W9_c46, W9_c47, W9_c49, W9_c51, W9_l44, h5, h6, h7, h8, hi, hi', hkq, hkq', hg, hgb, c1, c2]
          rw [decide_eq_true (by omega)]
          simp [W9, W9_rs, W9_b1, W9_b2, W9_b5, W9_b6, W9_b7, W9_b43, W9_b48, W9_b50, W9_k3, W9_k4, W9_c8, W9_c9, W9_c10, W9_c11, W9_c12, W9_c13, W9_c14, W9_c15, W9_c16, W9_c17, W9_c18, W9_c19, W9_c20, W9_c21, W9_c22, W9_c23, W9_c24, W9_c25, W9_c26, W9_c27, W9_c28, W9_c29, W9_c30, W9_c31, W9_c32, W9_c33, W9_c34, W9_c35, W9_c36, W9_c37, W9_c38, W9_c39, W9_c40, W9_c41, W9_c42, W9_c45, W9_c46, W9_c47, W9_c49, W9_c51, W9_l44]
          refine scall0_pure hspec (by simp [encI]) (by simp) ?_
          simp [W9, W9_rs, W9_b1, W9_b2, W9_b5, W9_b6, W9_b7, W9_b43, W9_b48, W9_b50, W9_k3, W9_k4, W9_c8, W9_c9, W9_c10, W9_c11, W9_c12, W9_c13, W9_c14, W9_c15, W9_c16, W9_c17, W9_c18, W9_c19, W9_c20, W9_c21, W9_c22, W9_c23, W9_c24, W9_c25, W9_c26, W9_c27, W9_c28, W9_c29, W9_c30, W9_c31, W9_c32, W9_c33, W9_c34, W9_c35, W9_c36, W9_c37, W9_c38, W9_c39, W9_c40, W9_c41, W9_c42, W9_c45, W9_c46, W9_c47, W9_c49, W9_c51, W9_l44, h5, h6, h7, h8, hwk, hwi]
          exact hL _ _ _ (k + 1) hkq hnx (by simp [h5, h6])
        · obtain ⟨e8, hnx⟩ := hno fun m => c3 m.2.2
          have c1' : b.1 = 8 := by rw [← e8]; exact c1
          rw [decide_eq_false c3] at hspec
          simp [W9, W9_rs, W9_b1, W9_b2, W9_b5, W9_b6, W9_b7, W9_b43, W9_b48, W9_b50, W9_k3, W9_k4, W9_c8, W9_c9, W9_c10, W9_c11, W9_c12, W9_c13, W9_c14, W9_c15, W9_c16, W9_c17, W9_c18, W9_c19, W9_c20, W9_c21, W9_c22, W9_c23, W9_c24, W9_c25, W9_c26, W9_c27, W9_c28, W9_c29, W9_c30, W9_c31, W9_c32, W9_c33, W9_c34, W9_c35, W9_c36, W9_c37, W9_c38, W9_c39, W9_c40, W9_c41, W9_c42, W9_c45, W9_c46, W9_c47, W9_c49, W9_c51, W9_l44, h5, h6, h7, h8, hi, hi', hkq, hkq', hg, hgb, c1', c2, e8]
          rw [decide_eq_true (by omega)]
          simp [W9, W9_rs, W9_b1, W9_b2, W9_b5, W9_b6, W9_b7, W9_b43, W9_b48, W9_b50, W9_k3, W9_k4, W9_c8, W9_c9, W9_c10, W9_c11, W9_c12, W9_c13, W9_c14, W9_c15, W9_c16, W9_c17, W9_c18, W9_c19, W9_c20, W9_c21, W9_c22, W9_c23, W9_c24, W9_c25, W9_c26, W9_c27, W9_c28, W9_c29, W9_c30, W9_c31, W9_c32, W9_c33, W9_c34, W9_c35, W9_c36, W9_c37, W9_c38, W9_c39, W9_c40, W9_c41, W9_c42, W9_c45, W9_c46, W9_c47, W9_c49, W9_c51, W9_l44]
          refine scall0_pure hspec (by simp [encI]) (by simp) ?_
          simp [W9, W9_rs, W9_b1, W9_b2, W9_b5, W9_b6, W9_b7, W9_b43, W9_b48, W9_b50, W9_k3, W9_k4, W9_c8, W9_c9, W9_c10, W9_c11, W9_c12, W9_c13, W9_c14, W9_c15, W9_c16, W9_c17, W9_c18, W9_c19, W9_c20, W9_c21, W9_c22, W9_c23, W9_c24, W9_c25, W9_c26, W9_c27, W9_c28, W9_c29, W9_c30, W9_c31, W9_c32, W9_c33, W9_c34, W9_c35, W9_c36, W9_c37, W9_c38, W9_c39, W9_c40, W9_c41, W9_c42, W9_c45, W9_c46, W9_c47, W9_c49, W9_c51, W9_l44, h5, h6, h7, h8, hwi, hi, hg, e8]
          exact hL2 _ _ _ hnx (by simp [h5, h6, h7])
      · obtain ⟨e8, hnx⟩ := hno fun m => c2 m.2.1
        simp [W9, W9_rs, W9_b1, W9_b2, W9_b5, W9_b6, W9_b7, W9_b43, W9_b48, W9_b50, W9_k3, W9_k4, W9_c8, W9_c9, W9_c10, W9_c11, W9_c12, W9_c13, W9_c14, W9_c15, W9_c16, W9_c17, W9_c18, W9_c19, W9_c20, W9_c21, W9_c22, W9_c23, W9_c24, W9_c25, W9_c26, W9_c27, W9_c28, W9_c29, W9_c30, W9_c31, W9_c32, W9_c33, W9_c34, W9_c35, W9_c36, W9_c37, W9_c38, W9_c39, W9_c40, W9_c41, W9_c42, W9_c45, W9_c46, W9_c47, W9_c49, W9_c51, W9_l44, h5, h6, h7, h8, hi, hi', hkq, hkq', hg, hgb, c1, c2, e8, hwi]
        exact hL2 _ _ _ hnx (by simp [h5, h6, h7])
    · obtain ⟨e8, hnx⟩ := hno fun m => c1 m.1
      have c1' : ¬ b.1 = 8 := by rw [← e8]; exact c1
      simp [W9, W9_rs, W9_b1, W9_b2, W9_b5, W9_b6, W9_b7, W9_b43, W9_b48, W9_b50, W9_k3, W9_k4, W9_c8, W9_c9, W9_c10, W9_c11, W9_c12, W9_c13, W9_c14, W9_c15, W9_c16, W9_c17, W9_c18, W9_c19, W9_c20, W9_c21, W9_c22, W9_c23, W9_c24, W9_c25, W9_c26, W9_c27, W9_c28, W9_c29, W9_c30, W9_c31, W9_c32, W9_c33, W9_c34, W9_c35, W9_c36, W9_c37, W9_c38, W9_c39, W9_c40, W9_c41, W9_c42, W9_c45, W9_c46, W9_c47, W9_c49, W9_c51, W9_l44, h5, h6, h7, h8, hi, hi', hkq, hkq', hg, hgb, c1', e8, hwi]
      exact hL2 _ _ _ hnx (by simp [h5, h6, h7])
  · have hkq' : ¬ (k : Int) < q.length := by omega
    obtain ⟨e8, hnx⟩ := s2 fun b q' e => by rw [List.drop_of_length_le (by omega)] at e; cases e
    simp [W9, W9_rs, W9_b1, W9_b2, W9_b5, W9_b6, W9_b7, W9_b43, W9_b48, W9_b50, W9_k3, W9_k4, W9_c8, W9_c9, W9_c10, W9_c11, W9_c12, W9_c13, W9_c14, W9_c15, W9_c16, W9_c17, W9_c18, W9_c19, W9_c20, W9_c21, W9_c22, W9_c23, W9_c24, W9_c25, W9_c26, W9_c27, W9_c28, W9_c29, W9_c30, W9_c31, W9_c32, W9_c33, W9_c34, W9_c35, W9_c36, W9_c37, W9_c38, W9_c39, W9_c40, W9_c41, W9_c42, W9_c45, W9_c46, W9_c47, W9_c49, W9_c51, W9_l44, h5, h6, h7, h8, hi, hi', hkq, hkq', hg, e8, hwi]
    exact hL2 _ _ _ hnx (by simp [h5, h6, h7])
theorem encT_wt0 : encT wtT0 = [.int .i64 14, .int .i64 0, .int .i64 (-1), .str ⟨#[112, 97, 121]⟩, .int .i64 0, .int .i64 0, .str ⟨#[]⟩, .sl [], .sl []] := by simp [wtT0, encT_mk, Ex.zero, encE_mk]
theorem encT_bes (t : Tm) : encT (besW t) = [.int .i64 11, .int .i64 0, .int .i64 0, .str ⟨#[]⟩, .int .i64 0, .int .i64 0, .str ⟨#[]⟩, .sl [], .sl [encT t, [.int .i64 14, .int .i64 0, .int .i64 (-1), .str ⟨#[112, 97, 121]⟩, .int .i64 0, .int .i64 0, .str ⟨#[]⟩, .sl [], .sl []]]] := by
  rw [besW, encT_of]; simp [encT_wt0]
theorem sub_len {z : List Int} {p q : List Stp3} (h : Sub z p q) : q.length ≤ p.length := by
  induction h with
  | nil => simp
  | keep a _ ih => simpa using ih
  | drop a _ _ ih => simp; omega
theorem wai_go (r : Rw3) (t : Tm) (l q : List Stp3) (hfew : Am.Spec Try.prog 21 [.agg [.int .i64 0, .int .i64 0, .sl ([r].map encR3)]] (.bool true)) (hmk : Am.Spec Try.prog 23 [.agg (encR3 r), .int .i64 0] (.agg (encT t)))
    (hl : l.length ≤ 100000) (hp : ∀ x ∈ l, x.2.1.length ≤ 100000) (hpq : ∀ x ∈ q, x.2.1.length ≤ 100000) (hs : Sub [0] l q) (ho : l.Pairwise ordR)
    (hen : Am.Spec Try.prog 24 [.agg (encT t)] (.sl (l.map encS))) (hen2 : Am.Spec Try.prog 24 [.agg (encT (besW t))] (.sl (q.map encS))) :
    Am.Spec Try.prog 9 [.agg (encR3 r)] (.bool true) := by
  have hql := sub_len hs
  refine Am.Spec.of_W (W := W9) Try.func9 (by kernel_rfl) (by kernel_rfl) (by kernel_rfl) Try.ntmps9 W9_eq (rs := [.tmp 2]) (by kernel_rfl) (by simp) ?_
  intro vs
  simp [W9, W9_rs, W9_b1, W9_b2, W9_b5, W9_b6, W9_b7, W9_b43, W9_b48, W9_b50, W9_k3, W9_k4, W9_c8, W9_c9, W9_c10, W9_c11, W9_c12, W9_c13, W9_c14, W9_c15, W9_c16, W9_c17, W9_c18, W9_c19, W9_c20, W9_c21, W9_c22, W9_c23, W9_c24, W9_c25, W9_c26, W9_c27, W9_c28, W9_c29, W9_c30, W9_c31, W9_c32, W9_c33, W9_c34, W9_c35, W9_c36, W9_c37, W9_c38, W9_c39, W9_c40, W9_c41, W9_c42, W9_c45, W9_c46, W9_c47, W9_c49, W9_c51, W9_l44]
  refine scall_pure sp_kno (by simp) (by simp) ?_
  simp [W9, W9_rs, W9_b1, W9_b2, W9_b5, W9_b6, W9_b7, W9_b43, W9_b48, W9_b50, W9_k3, W9_k4, W9_c8, W9_c9, W9_c10, W9_c11, W9_c12, W9_c13, W9_c14, W9_c15, W9_c16, W9_c17, W9_c18, W9_c19, W9_c20, W9_c21, W9_c22, W9_c23, W9_c24, W9_c25, W9_c26, W9_c27, W9_c28, W9_c29, W9_c30, W9_c31, W9_c32, W9_c33, W9_c34, W9_c35, W9_c36, W9_c37, W9_c38, W9_c39, W9_c40, W9_c41, W9_c42, W9_c45, W9_c46, W9_c47, W9_c49, W9_c51, W9_l44]
  refine scall_pure hfew (by simp) (by simp) ?_
  simp [W9, W9_rs, W9_b1, W9_b2, W9_b5, W9_b6, W9_b7, W9_b43, W9_b48, W9_b50, W9_k3, W9_k4, W9_c8, W9_c9, W9_c10, W9_c11, W9_c12, W9_c13, W9_c14, W9_c15, W9_c16, W9_c17, W9_c18, W9_c19, W9_c20, W9_c21, W9_c22, W9_c23, W9_c24, W9_c25, W9_c26, W9_c27, W9_c28, W9_c29, W9_c30, W9_c31, W9_c32, W9_c33, W9_c34, W9_c35, W9_c36, W9_c37, W9_c38, W9_c39, W9_c40, W9_c41, W9_c42, W9_c45, W9_c46, W9_c47, W9_c49, W9_c51, W9_l44]
  refine scall_pure hmk (by simp) (by simp) ?_
  simp [W9, W9_rs, W9_b1, W9_b2, W9_b5, W9_b6, W9_b7, W9_b43, W9_b48, W9_b50, W9_k3, W9_k4, W9_c8, W9_c9, W9_c10, W9_c11, W9_c12, W9_c13, W9_c14, W9_c15, W9_c16, W9_c17, W9_c18, W9_c19, W9_c20, W9_c21, W9_c22, W9_c23, W9_c24, W9_c25, W9_c26, W9_c27, W9_c28, W9_c29, W9_c30, W9_c31, W9_c32, W9_c33, W9_c34, W9_c35, W9_c36, W9_c37, W9_c38, W9_c39, W9_c40, W9_c41, W9_c42, W9_c45, W9_c46, W9_c47, W9_c49, W9_c51, W9_l44]
  refine scall0_pure hen (by simp) (by simp) ?_
  simp [W9, W9_rs, W9_b1, W9_b2, W9_b5, W9_b6, W9_b7, W9_b43, W9_b48, W9_b50, W9_k3, W9_k4, W9_c8, W9_c9, W9_c10, W9_c11, W9_c12, W9_c13, W9_c14, W9_c15, W9_c16, W9_c17, W9_c18, W9_c19, W9_c20, W9_c21, W9_c22, W9_c23, W9_c24, W9_c25, W9_c26, W9_c27, W9_c28, W9_c29, W9_c30, W9_c31, W9_c32, W9_c33, W9_c34, W9_c35, W9_c36, W9_c37, W9_c38, W9_c39, W9_c40, W9_c41, W9_c42, W9_c45, W9_c46, W9_c47, W9_c49, W9_c51, W9_l44]
  refine scall0_pure hen2 (by simp [encT_bes]) (by simp) ?_
  simp [W9, W9_rs, W9_b1, W9_b2, W9_b5, W9_b6, W9_b7, W9_b43, W9_b48, W9_b50, W9_k3, W9_k4, W9_c8, W9_c9, W9_c10, W9_c11, W9_c12, W9_c13, W9_c14, W9_c15, W9_c16, W9_c17, W9_c18, W9_c19, W9_c20, W9_c21, W9_c22, W9_c23, W9_c24, W9_c25, W9_c26, W9_c27, W9_c28, W9_c29, W9_c30, W9_c31, W9_c32, W9_c33, W9_c34, W9_c35, W9_c36, W9_c37, W9_c38, W9_c39, W9_c40, W9_c41, W9_c42, W9_c45, W9_c46, W9_c47, W9_c49, W9_c51]
  refine sLoop_intro (fun a : Nat × Nat => a.1 ≤ l.length ∧ a.2 ≤ q.length ∧ Sub [0] (l.drop a.1) (q.drop a.2)) (fun a => l.length - a.1) (fun a => [(5, .sl (l.map encS)), (6, .sl (q.map encS)), (7, .int .i64 (a.2 : Nat)), (8, .int .i64 (a.1 : Nat))]) (fun _ => []) (0, 0) (by simpa using hs) (by simp) (by simp) ?_
  rintro L ⟨i, k⟩ vt ⟨hi, hk, hs⟩ hL
  simp only at hi hk hs hL ⊢
  by_cases h : i < l.length
  · have h' : (i : Int) < l.length := by omega
    simp [W9, W9_rs, W9_b1, W9_b2, W9_b5, W9_b6, W9_b7, W9_b48, W9_b50, W9_k3, W9_k4, W9_c8, W9_c9, W9_c10, W9_c11, W9_c12, W9_c13, W9_c14, W9_c15, W9_c16, W9_c17, W9_c18, W9_c19, W9_c20, W9_c21, W9_c22, W9_c23, W9_c24, W9_c25, W9_c26, W9_c27, W9_c28, W9_c29, W9_c30, W9_c31, W9_c32, W9_c33, W9_c34, W9_c35, W9_c36, W9_c37, W9_c38, W9_c39, W9_c40, W9_c41, W9_c42, W9_c45, W9_c46, W9_c47, W9_c49, W9_c51, W9_l44, h, h']
    refine wai_body l q i k h hl (by omega) hk hp hpq hs (fun x hx => ?_) _ L vt (fun T H vs k' hk' hs' hT => hL T H vs (i + 1, k') ⟨h, hk', hs'⟩ (by simp only; omega) hT (by simp)) _ (by simp) (by simp) (by simp) (by simp)
    have := List.pairwise_iff_getElem.1 ho
    obtain ⟨j, hj, rfl⟩ := List.getElem_of_mem hx
    rw [List.getElem_drop]
    rw [List.length_drop] at hj
    exact this i (i + 1 + j) h (by omega) (by omega)
  · have h' : ¬ (i : Int) < l.length := by omega
    have hkq : k = q.length := by
      rw [List.drop_of_length_le (by omega)] at hs
      have := sub_len hs
      simp at this
      omega
    simp [W9, W9_rs, W9_b1, W9_b2, W9_b5, W9_b6, W9_b7, W9_b43, W9_b48, W9_b50, W9_k3, W9_k4, W9_c8, W9_c9, W9_c10, W9_c11, W9_c12, W9_c13, W9_c14, W9_c15, W9_c16, W9_c17, W9_c18, W9_c19, W9_c20, W9_c21, W9_c22, W9_c23, W9_c24, W9_c25, W9_c26, W9_c27, W9_c28, W9_c29, W9_c30, W9_c31, W9_c32, W9_c33, W9_c34, W9_c35, W9_c36, W9_c37, W9_c38, W9_c39, W9_c40, W9_c41, W9_c42, W9_c45, W9_c46, W9_c47, W9_c49, W9_c51, W9_l44, h, h', hkq, retW_eq]
theorem sp_wai (r : Rw3) : Am.Spec Try.prog 9 [.agg (encR3 r)] (.bool true) := by
  have hfew := sp_fw3 (.int .i64 0) (.int .i64 0) [r] (by simp [maxLen]) (by simp [closed]) (by simp [closed])
  rw [few_one] at hfew
  by_cases h : r.sz 0 ≤ 40
  · rw [decide_eq_true h] at hfew
    have hwt := mkT_wt r 0 h
    have hb := enabled_bound _ hwt
    have hs := bes_enabled (mkT r 0)
    have hbw : (besW (mkT r 0)).wt ≤ 5100 := by simp only [besW, Tm.of, Tm.wt, Tm.wts, Ex.zero_wt, wtT0]; omega
    refine wai_go r (mkT r 0) _ _ hfew (sp_mkT r 0 h) hb.1 hb.2 ?_ hs (enabled_pair _) (sp_enb _ (by omega)) (sp_enb _ (by omega))
    intro x hx
    have hn := (besW (mkT r 0)).norm_wt
    obtain ⟨y, hy, e⟩ := mem_steps hx
    have := (besW (mkT r 0)).norm.pls_path [] _ y hy
    rw [e]
    simp at this
    omega
  · rw [decide_eq_false h] at hfew
    refine Am.Spec.of_W (W := W9) Try.func9 (by kernel_rfl) (by kernel_rfl) (by kernel_rfl) Try.ntmps9 W9_eq (rs := [.tmp 2]) (by kernel_rfl) (by simp) ?_
    intro vs
    simp [W9, W9_rs, W9_b1, W9_b2, W9_b5, W9_b6, W9_b7, W9_b43, W9_b48, W9_b50, W9_k3, W9_k4, W9_c8, W9_c9, W9_c10, W9_c11, W9_c12, W9_c13, W9_c14, W9_c15, W9_c16, W9_c17, W9_c18, W9_c19, W9_c20, W9_c21, W9_c22, W9_c23, W9_c24, W9_c25, W9_c26, W9_c27, W9_c28, W9_c29, W9_c30, W9_c31, W9_c32, W9_c33, W9_c34, W9_c35, W9_c36, W9_c37, W9_c38, W9_c39, W9_c40, W9_c41, W9_c42, W9_c45, W9_c46, W9_c47, W9_c49, W9_c51, W9_l44]
    refine scall_pure sp_kno (by simp) (by simp) ?_
    simp [W9, W9_rs, W9_b1, W9_b2, W9_b5, W9_b6, W9_b7, W9_b43, W9_b48, W9_b50, W9_k3, W9_k4, W9_c8, W9_c9, W9_c10, W9_c11, W9_c12, W9_c13, W9_c14, W9_c15, W9_c16, W9_c17, W9_c18, W9_c19, W9_c20, W9_c21, W9_c22, W9_c23, W9_c24, W9_c25, W9_c26, W9_c27, W9_c28, W9_c29, W9_c30, W9_c31, W9_c32, W9_c33, W9_c34, W9_c35, W9_c36, W9_c37, W9_c38, W9_c39, W9_c40, W9_c41, W9_c42, W9_c45, W9_c46, W9_c47, W9_c49, W9_c51, W9_l44]
    refine scall_pure hfew (by simp) (by simp) ?_
    simp [W9, W9_rs, W9_b1, W9_b2, W9_b5, W9_b6, W9_b7, W9_b43, W9_b48, W9_b50, W9_k3, W9_k4, W9_c8, W9_c9, W9_c10, W9_c11, W9_c12, W9_c13, W9_c14, W9_c15, W9_c16, W9_c17, W9_c18, W9_c19, W9_c20, W9_c21, W9_c22, W9_c23, W9_c24, W9_c25, W9_c26, W9_c27, W9_c28, W9_c29, W9_c30, W9_c31, W9_c32, W9_c33, W9_c34, W9_c35, W9_c36, W9_c37, W9_c38, W9_c39, W9_c40, W9_c41, W9_c42, W9_c45, W9_c46, W9_c47, W9_c49, W9_c51, W9_l44, retW_eq]
end Go.Proofs.Ytkagfenchknjjaa
