import Derived.Test.YtkagfenchknjjaaGD14
set_option linter.unusedVariables false
set_option linter.unusedSimpArgs false
namespace Go.Proofs.Ytkagfenchknjjaa
open Go Go.Am Go.RowKit

/-! Rows, pairs have two parts, blocks one. -/
mutual
def okN : Tm → Bool
  | ⟨k, _, _, _, _, l⟩ => (!(decide (k = 12) || decide (k = 11)) || decide (l.length = 2)) && ((!decide (k = 7) || decide (l.length = 1)) && okNs l)
def okNs : List Tm → Bool
  | [] => true
  | x :: l => okN x && okNs l
end
theorem okN_eq (t : Tm) : okN t = ((!(decide (t.kind = 12) || decide (t.kind = 11)) || decide (t.l.length = 2)) && ((!decide (t.kind = 7) || decide (t.l.length = 1)) && okNs t.l)) := by cases t; rfl
theorem okNs_mem : ∀ {l : List Tm}, okNs l = true → ∀ x ∈ l, okN x = true
  | y :: l, h, x, hx => by
    simp only [okNs, Bool.and_eq_true] at h
    rcases List.mem_cons.1 hx with rfl | hx
    · exact h.1
    · exact okNs_mem h.2 x hx
theorem okN_two {t : Tm} (h : okN t = true) (hk : t.kind = 12 ∨ t.kind = 11) : ∃ x y, t.l = [x, y] ∧ okN x = true ∧ okN y = true := by
  rw [okN_eq] at h
  have hl : t.l.length = 2 := by rcases hk with hk | hk <;> simp [hk] at h <;> exact h.1
  have hm : okNs t.l = true := by simp at h; exact h.2.2
  rcases hh : t.l with _ | ⟨x, _ | ⟨y, _ | ⟨z, l⟩⟩⟩ <;> simp [hh] at hl
  rw [hh] at hm
  exact ⟨x, y, rfl, okNs_mem hm x (by simp), okNs_mem hm y (by simp)⟩
theorem okN_one {t : Tm} (h : okN t = true) (hk : t.kind = 7) : ∃ x, t.l = [x] ∧ okN x = true := by
  rw [okN_eq] at h
  have hl : t.l.length = 1 := by simp [hk] at h; exact h.1
  have hm : okNs t.l = true := by simp at h; exact h.2.2
  rcases hh : t.l with _ | ⟨x, _ | ⟨y, l⟩⟩ <;> simp [hh] at hl
  rw [hh] at hm
  exact ⟨x, rfl, okNs_mem hm x (by simp)⟩
theorem norm_leaf {t : Tm} (h : okN t = true) (h1 : t.kind ≠ 12) (h2 : t.kind ≠ 11) (h3 : t.kind ≠ 7) : t.norm = t := by
  rcases hh : t.l with _ | ⟨x, _ | ⟨y, _ | ⟨z, l⟩⟩⟩
  · exact Tm.norm_else (by simp [hh]) (by simp [hh])
  · rw [Tm.norm_one hh, if_neg h3]
  · rw [Tm.norm_two hh, if_neg h1, if_neg h2]
  · exact Tm.norm_else (by simp [hh]) (by simp [hh])
theorem sp_n5 (t : Tm) (h : okN t = true) : Am.Spec Try.prog 22 [.agg (encT t)] (.agg (encT t.norm)) := by
  by_cases k12 : t.kind = 12
  · obtain ⟨x, y, hl, hx, hy⟩ := okN_two h (.inl k12)
    have ix := sp_n5 x hx
    have iy := sp_n5 y hy
    rw [Tm.norm_two hl, if_pos k12]
    by_cases h0 : x.norm.kind = 0
    · rw [if_pos h0]
      refine Am.Spec.of_W (W := W22) Try.func22 (by kernel_rfl) (by kernel_rfl) (by kernel_rfl) Try.ntmps22 W22_eq (rs := [.cell 2 34]) (by kernel_rfl) (by simp) ?_
      intro vs
      simp [W22, W22_rs, W22_c1, W22_c4, W22_c8, W22_c9, W22_c10, W22_c11, W22_c12, W22_c16, W22_b2, W22_b3, W22_b5, W22_b6, W22_b7, W22_b13, W22_b14, W22_b15, W22_b17, W22_b18, W22_b19, W22_b20, k12, hl]
      refine scall_pure ix (by simp) (by simp) ?_
      simp [W22, W22_rs, W22_c1, W22_c4, W22_c8, W22_c9, W22_c10, W22_c11, W22_c12, W22_c16, W22_b2, W22_b3, W22_b5, W22_b6, W22_b7, W22_b13, W22_b14, W22_b15, W22_b17, W22_b18, W22_b19, W22_b20, h0, hl]
      refine scall_pure iy (by simp) (by simp) ?_
      simp [W22, W22_rs, W22_c1, W22_c4, W22_c8, W22_c9, W22_c10, W22_c11, W22_c12, W22_c16, W22_b2, W22_b3, W22_b5, W22_b6, W22_b7, W22_b13, W22_b14, W22_b15, W22_b17, W22_b18, W22_b19, W22_b20, retW_eq]
    · rw [if_neg h0]
      refine Am.Spec.of_W (W := W22) Try.func22 (by kernel_rfl) (by kernel_rfl) (by kernel_rfl) Try.ntmps22 W22_eq (rs := [.cell 2 34]) (by kernel_rfl) (by simp) ?_
      intro vs
      simp [W22, W22_rs, W22_c1, W22_c4, W22_c8, W22_c9, W22_c10, W22_c11, W22_c12, W22_c16, W22_b2, W22_b3, W22_b5, W22_b6, W22_b7, W22_b13, W22_b14, W22_b15, W22_b17, W22_b18, W22_b19, W22_b20, k12, hl]
      refine scall_pure ix (by simp) (by simp) ?_
      simp [W22, W22_rs, W22_c1, W22_c4, W22_c8, W22_c9, W22_c10, W22_c11, W22_c12, W22_c16, W22_b2, W22_b3, W22_b5, W22_b6, W22_b7, W22_b13, W22_b14, W22_b15, W22_b17, W22_b18, W22_b19, W22_b20, h0, hl, retW_eq, encT_of]
  · by_cases k11 : t.kind = 11
    · obtain ⟨x, y, hl, hx, hy⟩ := okN_two h (.inr k11)
      have ix := sp_n5 x hx
      have iy := sp_n5 y hy
      rw [Tm.norm_two hl, if_neg k12, if_pos k11]
      by_cases h0 : x.norm.kind = 0
      · by_cases h1 : y.norm.kind = 0
        · rw [if_pos ⟨h0, h1⟩]
          refine Am.Spec.of_W (W := W22) Try.func22 (by kernel_rfl) (by kernel_rfl) (by kernel_rfl) Try.ntmps22 W22_eq (rs := [.cell 2 34]) (by kernel_rfl) (by simp) ?_
          intro vs
          simp [W22, W22_rs, W22_c1, W22_c4, W22_c8, W22_c9, W22_c10, W22_c11, W22_c12, W22_c16, W22_b2, W22_b3, W22_b5, W22_b6, W22_b7, W22_b13, W22_b14, W22_b15, W22_b17, W22_b18, W22_b19, W22_b20, k11, hl]
          refine scall0_pure ix (by simp) (by simp) ?_
          simp [W22, W22_rs, W22_c1, W22_c4, W22_c8, W22_c9, W22_c10, W22_c11, W22_c12, W22_c16, W22_b2, W22_b3, W22_b5, W22_b6, W22_b7, W22_b13, W22_b14, W22_b15, W22_b17, W22_b18, W22_b19, W22_b20, hl]
          refine scall0_pure iy (by simp) (by simp) ?_
          simp [W22, W22_rs, W22_c1, W22_c4, W22_c8, W22_c9, W22_c10, W22_c11, W22_c12, W22_c16, W22_b2, W22_b3, W22_b5, W22_b6, W22_b7, W22_b13, W22_b14, W22_b15, W22_b17, W22_b18, W22_b19, W22_b20, h0, h1, hl, retW_eq, encT_skip]
        · rw [if_neg fun e => h1 e.2]
          refine Am.Spec.of_W (W := W22) Try.func22 (by kernel_rfl) (by kernel_rfl) (by kernel_rfl) Try.ntmps22 W22_eq (rs := [.cell 2 34]) (by kernel_rfl) (by simp) ?_
          intro vs
          simp [W22, W22_rs, W22_c1, W22_c4, W22_c8, W22_c9, W22_c10, W22_c11, W22_c12, W22_c16, W22_b2, W22_b3, W22_b5, W22_b6, W22_b7, W22_b13, W22_b14, W22_b15, W22_b17, W22_b18, W22_b19, W22_b20, k11, hl]
          refine scall0_pure ix (by simp) (by simp) ?_
          simp [W22, W22_rs, W22_c1, W22_c4, W22_c8, W22_c9, W22_c10, W22_c11, W22_c12, W22_c16, W22_b2, W22_b3, W22_b5, W22_b6, W22_b7, W22_b13, W22_b14, W22_b15, W22_b17, W22_b18, W22_b19, W22_b20, hl]
          refine scall0_pure iy (by simp) (by simp) ?_
          simp [W22, W22_rs, W22_c1, W22_c4, W22_c8, W22_c9, W22_c10, W22_c11, W22_c12, W22_c16, W22_b2, W22_b3, W22_b5, W22_b6, W22_b7, W22_b13, W22_b14, W22_b15, W22_b17, W22_b18, W22_b19, W22_b20, h0, h1, hl, retW_eq, encT_of]
      · rw [if_neg fun e => h0 e.1]
        refine Am.Spec.of_W (W := W22) Try.func22 (by kernel_rfl) (by kernel_rfl) (by kernel_rfl) Try.ntmps22 W22_eq (rs := [.cell 2 34]) (by kernel_rfl) (by simp) ?_
        intro vs
        simp [W22, W22_rs, W22_c1, W22_c4, W22_c8, W22_c9, W22_c10, W22_c11, W22_c12, W22_c16, W22_b2, W22_b3, W22_b5, W22_b6, W22_b7, W22_b13, W22_b14, W22_b15, W22_b17, W22_b18, W22_b19, W22_b20, k11, hl]
        refine scall0_pure ix (by simp) (by simp) ?_
        simp [W22, W22_rs, W22_c1, W22_c4, W22_c8, W22_c9, W22_c10, W22_c11, W22_c12, W22_c16, W22_b2, W22_b3, W22_b5, W22_b6, W22_b7, W22_b13, W22_b14, W22_b15, W22_b17, W22_b18, W22_b19, W22_b20, hl]
        refine scall0_pure iy (by simp) (by simp) ?_
        simp [W22, W22_rs, W22_c1, W22_c4, W22_c8, W22_c9, W22_c10, W22_c11, W22_c12, W22_c16, W22_b2, W22_b3, W22_b5, W22_b6, W22_b7, W22_b13, W22_b14, W22_b15, W22_b17, W22_b18, W22_b19, W22_b20, h0, hl, retW_eq, encT_of]
    · by_cases k7 : t.kind = 7
      · obtain ⟨x, hl, hx⟩ := okN_one h k7
        have ix := sp_n5 x hx
        rw [Tm.norm_one hl, if_pos k7]
        by_cases h0 : x.norm.kind = 0
        · rw [if_pos h0]
          refine Am.Spec.of_W (W := W22) Try.func22 (by kernel_rfl) (by kernel_rfl) (by kernel_rfl) Try.ntmps22 W22_eq (rs := [.cell 2 34]) (by kernel_rfl) (by simp) ?_
          intro vs
          simp [W22, W22_rs, W22_c1, W22_c4, W22_c8, W22_c9, W22_c10, W22_c11, W22_c12, W22_c16, W22_b2, W22_b3, W22_b5, W22_b6, W22_b7, W22_b13, W22_b14, W22_b15, W22_b17, W22_b18, W22_b19, W22_b20, k7, hl]
          refine scall_pure ix (by simp) (by simp) ?_
          simp [W22, W22_rs, W22_c1, W22_c4, W22_c8, W22_c9, W22_c10, W22_c11, W22_c12, W22_c16, W22_b2, W22_b3, W22_b5, W22_b6, W22_b7, W22_b13, W22_b14, W22_b15, W22_b17, W22_b18, W22_b19, W22_b20, h0, hl, retW_eq, encT_skip]
        · rw [if_neg h0]
          refine Am.Spec.of_W (W := W22) Try.func22 (by kernel_rfl) (by kernel_rfl) (by kernel_rfl) Try.ntmps22 W22_eq (rs := [.cell 2 34]) (by kernel_rfl) (by simp) ?_
          intro vs
          simp [W22, W22_rs, W22_c1, W22_c4, W22_c8, W22_c9, W22_c10, W22_c11, W22_c12, W22_c16, W22_b2, W22_b3, W22_b5, W22_b6, W22_b7, W22_b13, W22_b14, W22_b15, W22_b17, W22_b18, W22_b19, W22_b20, k7, hl]
          refine scall_pure ix (by simp) (by simp) ?_
          simp [W22, W22_rs, W22_c1, W22_c4, W22_c8, W22_c9, W22_c10, W22_c11, W22_c12, W22_c16, W22_b2, W22_b3, W22_b5, W22_b6, W22_b7, W22_b13, W22_b14, W22_b15, W22_b17, W22_b18, W22_b19, W22_b20, h0, hl, retW_eq, encT_of]
      · rw [norm_leaf h k12 k11 k7]
        refine Am.Spec.of_W (W := W22) Try.func22 (by kernel_rfl) (by kernel_rfl) (by kernel_rfl) Try.ntmps22 W22_eq (rs := [.cell 2 34]) (by kernel_rfl) (by simp) ?_
        intro vs
        simp [W22, W22_rs, W22_c1, W22_c4, W22_c8, W22_c9, W22_c10, W22_c11, W22_c12, W22_c16, W22_b2, W22_b3, W22_b5, W22_b6, W22_b7, W22_b13, W22_b14, W22_b15, W22_b17, W22_b18, W22_b19, W22_b20, k12, k11, k7, retW_eq]
termination_by SizeOf.sizeOf t
decreasing_by all_goals exact Tm.lt_of_mem (by simp [hl])
theorem sp_s7 (l m : List Stp3) (hl : l.length ≤ 137438953472) (hp : ∀ x ∈ l, x.2.1.length ≤ 137438953472) : Am.Spec Try.prog 28 [.sl (l.map encS), .sl (m.map encS)] (.bool (decide (l = m))) := by
  by_cases hlm : l.length = m.length
  · have hlm' : (l.length : Int) = m.length := by omega
    refine Am.Spec.of_W (W := W28) Try.func28 (by kernel_rfl) (by kernel_rfl) (by kernel_rfl) Try.ntmps28 W28_eq (rs := [.tmp 4]) (by kernel_rfl) (by simp) ?_
    intro vs
    simp [W28, W28_rs, W28_b1, W28_b3, W28_b4, W28_b28, W28_b30, W28_k2, W28_c5, W28_c6, W28_c7, W28_c8, W28_c9, W28_c10, W28_c11, W28_c12, W28_c13, W28_c14, W28_c15, W28_c16, W28_c17, W28_c18, W28_c19, W28_c20, W28_c21, W28_c22, W28_c23, W28_c24, W28_c25, W28_c26, W28_c27, W28_l29, hlm']
    refine sLoop_intro (fun i => i ≤ m.length ∧ ∀ j, j < i → l[j]? = m[j]?) (fun i => m.length - i) (fun i => [(0, .sl (l.map encS)), (1, .sl (m.map encS)), (5, .int .i64 (i : Nat))]) (fun _ => []) 0 (by simp) (by simp) (by simp) ?_
    rintro L i vt ⟨hi, hj⟩ hL
    by_cases h : i < m.length
    · have h' : (i : Int) < m.length := by omega
      have hl2 : i < l.length := by omega
      have hpa := hp _ (List.getElem_mem hl2)
      obtain ⟨a, ha⟩ : ∃ a, l[i] = a := ⟨_, rfl⟩
      obtain ⟨b, hb⟩ : ∃ b, m[i] = b := ⟨_, rfl⟩
      have hnn : a ≠ b → l ≠ m := fun e e2 => e (by subst e2; rw [← ha, ← hb])
      rw [ha] at hpa
      have hits := sp_its a.2.1 b.2.1 hpa
      by_cases c1 : a.1 = b.1
      · by_cases c2 : a.2.2 = b.2.2
        · by_cases c3 : a.2.1 = b.2.1
          · have e : a = b := by obtain ⟨a1, a2, a3⟩ := a; obtain ⟨b1, b2, b3⟩ := b; simp_all
            rw [decide_eq_true c3] at hits
            simp [W28, W28_rs, W28_b1, W28_b3, W28_b4, W28_b28, W28_b30, W28_k2, W28_c5, W28_c6, W28_c7, W28_c8, W28_c9, W28_c10, W28_c11, W28_c12, W28_c13, W28_c14, W28_c15, W28_c16, W28_c17, W28_c18, W28_c19, W28_c20, W28_c21, W28_c22, W28_c23, W28_c24, W28_c25, W28_c26, W28_c27, W28_l29, h, hl2, hlm, ha, hb, c1, c2]
            refine scall0_pure hits (by simp) (by simp) ?_
            simp [W28, W28_rs, W28_b1, W28_b3, W28_b4, W28_b28, W28_b30, W28_k2, W28_c5, W28_c6, W28_c7, W28_c8, W28_c9, W28_c10, W28_c11, W28_c12, W28_c13, W28_c14, W28_c15, W28_c16, W28_c17, W28_c18, W28_c19, W28_c20, W28_c21, W28_c22, W28_c23, W28_c24, W28_c25, W28_c26, W28_c27, W28_l29]
            rw [wrap64 (by omega) (by omega)]
            refine hL _ _ _ (i + 1) ⟨h, fun j hj2 => ?_⟩ (by omega) (by simp) (by simp)
            by_cases ej : j = i
            · rw [ej, List.getElem?_eq_getElem hl2, List.getElem?_eq_getElem h, ha, hb, e]
            · exact hj j (by omega)
          · have hne := hnn fun e => c3 (by rw [e])
            rw [decide_eq_false c3] at hits
            simp [W28, W28_rs, W28_b1, W28_b3, W28_b4, W28_b28, W28_b30, W28_k2, W28_c5, W28_c6, W28_c7, W28_c8, W28_c9, W28_c10, W28_c11, W28_c12, W28_c13, W28_c14, W28_c15, W28_c16, W28_c17, W28_c18, W28_c19, W28_c20, W28_c21, W28_c22, W28_c23, W28_c24, W28_c25, W28_c26, W28_c27, W28_l29, h, hl2, hlm, ha, hb, c1, c2]
            refine scall0_pure hits (by simp) (by simp) ?_
            simp [W28, W28_rs, W28_b1, W28_b3, W28_b4, W28_b28, W28_b30, W28_k2, W28_c5, W28_c6, W28_c7, W28_c8, W28_c9, W28_c10, W28_c11, W28_c12, W28_c13, W28_c14, W28_c15, W28_c16, W28_c17, W28_c18, W28_c19, W28_c20, W28_c21, W28_c22, W28_c23, W28_c24, W28_c25, W28_c26, W28_c27, W28_l29, retW_eq, hne]
        · have hne := hnn fun e => c2 (by rw [e])
          simp [W28, W28_rs, W28_b1, W28_b3, W28_b4, W28_b28, W28_b30, W28_k2, W28_c5, W28_c6, W28_c7, W28_c8, W28_c9, W28_c10, W28_c11, W28_c12, W28_c13, W28_c14, W28_c15, W28_c16, W28_c17, W28_c18, W28_c19, W28_c20, W28_c21, W28_c22, W28_c23, W28_c24, W28_c25, W28_c26, W28_c27, W28_l29, h, hl2, hlm, ha, hb, c1, c2, retW_eq, hne]
      · have hne := hnn fun e => c1 (by rw [e])
        simp [W28, W28_rs, W28_b1, W28_b3, W28_b4, W28_b28, W28_b30, W28_k2, W28_c5, W28_c6, W28_c7, W28_c8, W28_c9, W28_c10, W28_c11, W28_c12, W28_c13, W28_c14, W28_c15, W28_c16, W28_c17, W28_c18, W28_c19, W28_c20, W28_c21, W28_c22, W28_c23, W28_c24, W28_c25, W28_c26, W28_c27, W28_l29, h, hl2, hlm, ha, hb, c1, retW_eq, hne]
    · have e : l = m := by
        refine List.ext_getElem? fun j => ?_
        by_cases hj2 : j < i
        · exact hj j hj2
        · rw [List.getElem?_eq_none (by omega), List.getElem?_eq_none (by omega)]
      have h' : ¬ (i : Int) < m.length := by omega
      simp [W28, W28_rs, W28_b1, W28_b3, W28_b4, W28_b28, W28_b30, W28_k2, W28_c5, W28_c6, W28_c7, W28_c8, W28_c9, W28_c10, W28_c11, W28_c12, W28_c13, W28_c14, W28_c15, W28_c16, W28_c17, W28_c18, W28_c19, W28_c20, W28_c21, W28_c22, W28_c23, W28_c24, W28_c25, W28_c26, W28_c27, W28_l29, h, hlm, retW_eq, e]
  · have hne : l ≠ m := fun e => hlm (by rw [e])
    have hlm' : ¬ (l.length : Int) = m.length := by omega
    refine Am.Spec.of_W (W := W28) Try.func28 (by kernel_rfl) (by kernel_rfl) (by kernel_rfl) Try.ntmps28 W28_eq (rs := [.tmp 4]) (by kernel_rfl) (by simp) ?_
    intro vs
    simp [W28, W28_rs, W28_b1, W28_b3, W28_b4, W28_b28, W28_b30, W28_k2, W28_c5, W28_c6, W28_c7, W28_c8, W28_c9, W28_c10, W28_c11, W28_c12, W28_c13, W28_c14, W28_c15, W28_c16, W28_c17, W28_c18, W28_c19, W28_c20, W28_c21, W28_c22, W28_c23, W28_c24, W28_c25, W28_c26, W28_c27, W28_l29, hlm, hlm', hne, retW_eq]
end Go.Proofs.Ytkagfenchknjjaa
set_option linter.unusedVariables false
set_option linter.unusedSimpArgs false
namespace Go.Proofs.Ytkagfenchknjjaa
open Go Go.Am Go.RowKit

/-! What is made of a raw one has as many parts as it should. -/
mutual
def okQ : Pr → Bool
  | ⟨k, _, _, _, l⟩ => (!(decide (k = 12) || decide (k = 11)) || decide (l.length = 2)) && ((!decide (k = 7) || decide (l.length = 1)) && okQs l)
def okQs : List Pr → Bool
  | [] => true
  | x :: l => okQ x && okQs l
end
theorem okQ_ite {c : Prop} [Decidable c] {x y : Pr} (h1 : okQ x = true) (h2 : okQ y = true) : okQ (if c then x else y) = true := by split <;> assumption
theorem okQ_prOf (k a b : Int) (e : List Rw2) (p q : Pr) (hp : okQ p = true) (hq : okQ q = true) : okQ (prOf k a b e p q) = true := by
  unfold prOf
  repeat' apply okQ_ite
  all_goals simp [okQ, okQs, Pr.of, Pr.skip, hp, hq]
theorem okQ_pr (x : Rw3) (d : Nat) : okQ (x.pr d) = true := by
  have ih : ∀ y ∈ x.l, ∀ d, okQ (y.pr d) = true := fun y hy d => okQ_pr y d
  have hs : okQ .skip = true := by simp [Pr.skip, Pr.of, okQ, okQs]
  have hp : ∀ i, okQ (x.part i d) = true := fun i => by
    unfold Rw3.part
    split
    · cases h : x.l[i]? with
      | none => exact hs
      | some y => exact ih y (List.mem_of_getElem? h) _
    · exact hs
  rw [x.pr_eq]
  exact okQ_prOf _ _ _ _ _ _ (hp 0) (hp 1)
termination_by SizeOf.sizeOf x
decreasing_by exact Rw3.lt_of_mem hy
theorem lowP0_kind (V S D : List ByteArray) (k : Int) (s t : ByteArray) (e : Ex) (l : List Tm) : (lowP0 V S D k s t e l).kind = k ∧ (lowP0 V S D k s t e l).l = l := by
  unfold lowP0
  repeat' split
  all_goals simp_all
mutual
theorem okN_low (V S D : List ByteArray) : ∀ x : Pr, okQ x = true → okN (lowP V S D x) = true
  | ⟨k, s, t, e, l⟩, h => by
    have h0 := lowP0_kind V S D k s t e (lowPs V S D l)
    have hn := okNs_low V S D l
    have hl : (lowPs V S D l).length = l.length := by rw [lowPs_map]; simp
    rw [okN_eq, lowP, h0.1, h0.2, hl]
    simp only [okQ, Bool.and_eq_true] at h
    simp only [Bool.and_eq_true]
    exact ⟨h.1, h.2.1, hn h.2.2⟩
theorem okNs_low (V S D : List ByteArray) : ∀ l : List Pr, okQs l = true → okNs (lowPs V S D l) = true
  | [], _ => rfl
  | x :: l, h => by
    simp only [okQs, Bool.and_eq_true] at h
    simp only [lowPs, okNs, Bool.and_eq_true]
    exact ⟨okN_low V S D x h.1, okNs_low V S D l h.2⟩
end
mutual
theorem okN_wt (bits : Int) : ∀ (t : Tm) (k : Nat) (p : Bool), okN t = true → okN (wtT bits t k p).1 = true
  | ⟨kd, a, b, nm, e, l⟩, k, p, h => by
    have h1 := okNs_wt bits l (if kd = 1 then k + 1 else k) (p || decide (kd = 3))
    unfold wtT
    split
    · simp [okN, okNs]
    · simp only [okN, Bool.and_eq_true, wtTs_len] at h ⊢
      exact ⟨h.1, h.2.1, h1 h.2.2⟩
theorem okNs_wt (bits : Int) : ∀ (l : List Tm) (k : Nat) (p : Bool), okNs l = true → okNs (wtTs bits l k p).1 = true
  | [], k, p, _ => rfl
  | x :: l, k, p, h => by
    simp only [okNs, Bool.and_eq_true] at h
    simp only [wtTs, okNs, Bool.and_eq_true]
    exact ⟨okN_wt bits x k p h.1, okNs_wt bits l _ p h.2⟩
end
theorem okN_mk (r : Rw3) (waits : Int) : okN (mkT r waits) = true := by
  unfold mkT
  split
  · simp [askT, okN, okNs]
  · refine okN_wt _ _ _ _ ?_
    unfold re4T
    split
    · simp [Tmz, okN, okNs]
    · have := okN_low (mkProg r).V (mkProg r).stacks (mkProg r).D (r.pr 0) (okQ_pr r 0)
      simp only [ppr, mkProg, List.map_cons, List.getElem?_cons_zero, Option.getD_some] at this ⊢
      exact this
/-! What stands behind does not matter. -/
def rowE (a : Tm) : List Stp3 := (a.norm.pls [0] (decide (0 < a.norm.waits.length))).flatMap stepsAt
theorem seq_waits (n b : Tm) : (Tm.of 12 [n, b]).waits = n.waits := by
  unfold Tm.waits
  rw [Tm.act_eq (Tm.of 12 [n, b])]
  have hk : (Tm.of 12 [n, b]).kidsA = [n] := by simp [Tm.kidsA, Tm.of]
  rw [hk]
  simp only [Tm.acts, List.append_nil, List.filterMap_cons]
  simp [Tm.of]
theorem row_enabled (a b : Tm) (h : a.norm.kind ≠ 0) : (Tm.of 12 [a, b]).enabled = rowE a := by
  have hn : (Tm.of 12 [a, b]).norm = Tm.of 12 [a.norm, b] := by
    rw [Tm.norm_two (x := a) (y := b) rfl, if_pos (show (Tm.of 12 [a, b]).kind = 12 from rfl), if_neg h]
  unfold Tm.enabled Tm.enabledN rowE
  rw [hn, seq_waits]
  simp [Tm.of, Tm.pls, Tm.pls1, kidW, stepsAt, stpN, stp]
end Go.Proofs.Ytkagfenchknjjaa
set_option linter.unusedVariables false
set_option linter.unusedSimpArgs false
namespace Go.Proofs.Ytkagfenchknjjaa
open Go Go.Am Go.RowKit

def aN (t : Tm) : Nat := if t.kind = 12 ∨ t.kind = 7 then 1 else if t.kind = 11 then 2 else 0
theorem sp_a5 (t : Tm) : Am.Spec Try.prog 26 [.agg (encT t)] (.int .i64 (aN t : Nat)) := by
  by_cases k1 : t.kind = 12
  · refine Am.Spec.of_W (W := W26) Try.func26 (by kernel_rfl) (by kernel_rfl) (by kernel_rfl) Try.ntmps26 W26_eq (rs := [.tmp 2]) (by kernel_rfl) (by simp) ?_
    intro vs
    simp [W26, W26_rs, W26_b1, W26_b2, W26_b3, W26_b4, W26_b6, W26_k5, k1, aN, retW_eq]
  · by_cases k2 : t.kind = 7
    · refine Am.Spec.of_W (W := W26) Try.func26 (by kernel_rfl) (by kernel_rfl) (by kernel_rfl) Try.ntmps26 W26_eq (rs := [.tmp 2]) (by kernel_rfl) (by simp) ?_
      intro vs
      simp [W26, W26_rs, W26_b1, W26_b2, W26_b3, W26_b4, W26_b6, W26_k5, k1, k2, aN, retW_eq]
    · by_cases k3 : t.kind = 11
      · refine Am.Spec.of_W (W := W26) Try.func26 (by kernel_rfl) (by kernel_rfl) (by kernel_rfl) Try.ntmps26 W26_eq (rs := [.tmp 2]) (by kernel_rfl) (by simp) ?_
        intro vs
        simp [W26, W26_rs, W26_b1, W26_b2, W26_b3, W26_b4, W26_b6, W26_k5, k1, k2, k3, aN, retW_eq]
      · refine Am.Spec.of_W (W := W26) Try.func26 (by kernel_rfl) (by kernel_rfl) (by kernel_rfl) Try.ntmps26 W26_eq (rs := [.tmp 2]) (by kernel_rfl) (by simp) ?_
        intro vs
        simp [W26, W26_rs, W26_b1, W26_b2, W26_b3, W26_b4, W26_b6, W26_k5, k1, k2, k3, aN, retW_eq]
theorem okN_mem {t : Tm} (h : okN t = true) : ∀ x ∈ t.l, okN x = true := by
  rw [okN_eq] at h
  simp only [Bool.and_eq_true] at h
  exact okNs_mem h.2.2
def wk (t : Tm) (i : Nat) : List Int := (t.l.take i).flatMap Tm.waits
theorem acts_waits : ∀ l : List Tm, ((Tm.acts l).filterMap fun x => if x.kind = 14 then some x.a else none) = l.flatMap Tm.waits
  | [] => rfl
  | x :: l => by
    rw [Tm.acts_cons, List.filterMap_append, acts_waits l, List.flatMap_cons]
    rfl
theorem waits_eq (t : Tm) (h : okN t = true) : t.waits = if t.kind = 14 then [t.a] else wk t (aN t) := by
  have e : t.waits = ((t :: Tm.acts t.kidsA).filterMap fun x => if x.kind = 14 then some x.a else none) := by unfold Tm.waits; rw [Tm.act_eq]
  have e2 := acts_waits t.kidsA
  by_cases k14 : t.kind = 14
  · have hk : t.kidsA = [] := by simp [Tm.kidsA, k14]
    rw [e, hk, if_pos k14]
    simp [Tm.acts, k14]
  · rw [e, List.filterMap_cons, if_neg k14, if_neg k14]
    simp only
    rw [e2]
    have hk : t.kidsA = t.l.take (aN t) := by
      unfold Tm.kidsA aN
      by_cases k12 : t.kind = 12
      · simp [k12]
      · by_cases k7 : t.kind = 7
        · obtain ⟨x, hl, -⟩ := okN_one h k7; simp [k7, hl]
        · by_cases k11 : t.kind = 11
          · obtain ⟨x, y, hl, -⟩ := okN_two h (.inr k11); simp [k11, hl]
          · simp [k12, k7, k11]
    rw [hk, wk]
@[simp] theorem encI_cells' (p : List Int) : (∀ x ∈ encI p, x.length = 1 ∧ ∀ c ∈ x, c.cell = true) ↔ True := ⟨fun _ => trivial, fun _ => encI_cell p⟩
end Go.Proofs.Ytkagfenchknjjaa
set_option linter.unusedVariables false
set_option linter.unusedSimpArgs false
namespace Go.Proofs.Ytkagfenchknjjaa
open Go Go.Am Go.RowKit

theorem of_ok2 (k : Int) (x y : Tm) (hx : okN x = true) (hy : okN y = true) (hk : k ≠ 7) : okN (Tm.of k [x, y]) = true := by simp [Tm.of, okN, okNs, hx, hy, hk]
theorem of_ok1 (x : Tm) (hx : okN x = true) : okN (Tm.of 7 [x]) = true := by simp [Tm.of, okN, okNs, hx]
theorem okN_norm (t : Tm) (h : okN t = true) : okN t.norm = true := by
  by_cases k12 : t.kind = 12
  · obtain ⟨x, y, hl, hx, hy⟩ := okN_two h (.inl k12)
    have ix := okN_norm x hx
    have iy := okN_norm y hy
    rw [Tm.norm_two hl, if_pos k12]
    split
    · exact iy
    · exact of_ok2 12 _ _ ix hy (by omega)
  · by_cases k11 : t.kind = 11
    · obtain ⟨x, y, hl, hx, hy⟩ := okN_two h (.inr k11)
      have ix := okN_norm x hx
      have iy := okN_norm y hy
      rw [Tm.norm_two hl, if_neg k12, if_pos k11]
      split
      · rfl
      · exact of_ok2 11 _ _ ix iy (by omega)
    · by_cases k7 : t.kind = 7
      · obtain ⟨x, hl, hx⟩ := okN_one h k7
        have ix := okN_norm x hx
        rw [Tm.norm_one hl, if_pos k7]
        split
        · rfl
        · exact of_ok1 _ ix
      · rw [norm_leaf h k12 k11 k7]; exact h
termination_by SizeOf.sizeOf t
decreasing_by all_goals exact Tm.lt_of_mem (by simp [hl])
theorem par_waits (a b : Tm) : (Tm.of 11 [a, b]).waits = a.waits ++ b.waits := by
  have e : (Tm.of 11 [a, b]).waits = ((Tm.of 11 [a, b] :: Tm.acts (Tm.of 11 [a, b]).kidsA).filterMap fun x => if x.kind = 14 then some x.a else none) := by unfold Tm.waits; rw [Tm.act_eq]
  rw [e, List.filterMap_cons, if_neg (by simp [Tm.of])]
  simp only
  rw [acts_waits]
  simp [Tm.kidsA, Tm.of]
theorem blk_waits (a : Tm) : (Tm.of 7 [a]).waits = a.waits := by
  have e : (Tm.of 7 [a]).waits = ((Tm.of 7 [a] :: Tm.acts (Tm.of 7 [a]).kidsA).filterMap fun x => if x.kind = 14 then some x.a else none) := by unfold Tm.waits; rw [Tm.act_eq]
  rw [e, List.filterMap_cons, if_neg (by simp [Tm.of])]
  simp only
  rw [acts_waits]
  simp [Tm.kidsA, Tm.of]
/-- What is left may do something, or waits for something. -/
theorem live (t : Tm) (h : okN t = true) (h0 : t.norm.kind ≠ 0) (p : List Int) : (t.norm.pls p false).flatMap stepsAt ≠ [] ∨ t.norm.waits ≠ [] := by
  by_cases k12 : t.kind = 12
  · obtain ⟨x, y, hl, hx, hy⟩ := okN_two h (.inl k12)
    have ix := live x hx
    have iy := live y hy
    rw [Tm.norm_two hl, if_pos k12] at h0 ⊢
    by_cases hx0 : x.norm.kind = 0
    · rw [if_pos hx0] at h0 ⊢
      exact iy h0 p
    · rw [if_neg hx0, seq_waits]
      refine (ix hx0 (p ++ [0])).imp (fun h e => h ?_) id
      simp [Tm.of, Tm.pls, Tm.pls1, kidW] at e
      simpa using e.2
  · by_cases k11 : t.kind = 11
    · obtain ⟨x, y, hl, hx, hy⟩ := okN_two h (.inr k11)
      have ix := live x hx
      have iy := live y hy
      rw [Tm.norm_two hl, if_neg k12, if_pos k11] at h0 ⊢
      by_cases hxy : x.norm.kind = 0 ∧ y.norm.kind = 0
      · rw [if_pos hxy] at h0; exact absurd rfl h0
      · rw [if_neg hxy, par_waits]
        by_cases hx0 : x.norm.kind = 0
        · have hy0 : y.norm.kind ≠ 0 := fun e => hxy ⟨hx0, e⟩
          refine (iy hy0 (p ++ [1])).imp (fun h e => h ?_) (fun h e => h (List.append_eq_nil_iff.1 e).2)
          simp [Tm.of, Tm.pls, Tm.plsL, kidW] at e
          simpa using e.2.2
        · refine (ix hx0 (p ++ [0])).imp (fun h e => h ?_) (fun h e => h (List.append_eq_nil_iff.1 e).1)
          simp [Tm.of, Tm.pls, Tm.plsL, kidW] at e
          simpa using e.2.1
    · by_cases k7 : t.kind = 7
      · obtain ⟨x, hl, hx⟩ := okN_one h k7
        have ix := live x hx
        rw [Tm.norm_one hl, if_pos k7] at h0 ⊢
        by_cases hx0 : x.norm.kind = 0
        · rw [if_pos hx0] at h0; exact absurd rfl h0
        · rw [if_neg hx0, blk_waits]
          by_cases hwx : x.norm.waits = []
          · left
            intro e
            simp [Tm.of, Tm.pls, Tm.pls1, kidW, hwx] at e
            rcases ix hx0 (p ++ [0]) with h | h
            · exact h (by simpa using e.2)
            · exact h hwx
          · exact .inr hwx
      · rw [norm_leaf h k12 k11 k7] at h0 ⊢
        by_cases k14 : t.kind = 14
        · right; rw [waits_eq t h, if_pos k14]; simp
        · left
          have hk : t.kidsP = 0 := by simp [Tm.kidsP, k12, k7, k11]
          rw [Tm.pls_eq, hk]
          have : stpN (t, p, false) ≠ 0 := by
            unfold stpN
            rw [if_neg (by simp only; omega)]
            split
            · simp
            · split <;> simp
          simp [Tm.plsL, stepsAt, stp]
          exact this
termination_by SizeOf.sizeOf t
decreasing_by all_goals exact Tm.lt_of_mem (by simp [hl])
theorem en_skip' {n : Tm} (h : n.kind = 0) : n.enabledN = [] := by
  have hk : n.kidsP = 0 := by simp [Tm.kidsP, h]
  unfold Tm.enabledN
  rw [Tm.pls_eq, hk]
  simp [Tm.plsL, stepsAt, stpN, h, stp_zero]
end Go.Proofs.Ytkagfenchknjjaa
set_option linter.unusedVariables false
set_option linter.unusedSimpArgs false
namespace Go.Proofs.Ytkagfenchknjjaa
open Go Go.Am Go.RowKit

/-! Nothing waits. -/
mutual
def noW : Tm → Bool
  | ⟨k, _, _, _, _, l⟩ => !decide (k = 14) && noWs l
def noWs : List Tm → Bool
  | [] => true
  | x :: l => noW x && noWs l
end
mutual
def noQ : Pr → Bool
  | ⟨k, _, _, _, l⟩ => !decide (k = 14) && noQs l
def noQs : List Pr → Bool
  | [] => true
  | x :: l => noQ x && noQs l
end
theorem noW_eq (t : Tm) : noW t = (!decide (t.kind = 14) && noWs t.l) := by cases t; rfl
theorem noWs_mem : ∀ {l : List Tm}, noWs l = true → ∀ x ∈ l, noW x = true
  | y :: l, h, x, hx => by
    simp only [noWs, Bool.and_eq_true] at h
    rcases List.mem_cons.1 hx with rfl | hx
    · exact h.1
    · exact noWs_mem h.2 x hx
theorem noW_mem {t : Tm} (h : noW t = true) : ∀ x ∈ t.l, noW x = true := by
  rw [noW_eq] at h; simp only [Bool.and_eq_true] at h; exact noWs_mem h.2
theorem noQ_ite {c : Prop} [Decidable c] {x y : Pr} (h1 : noQ x = true) (h2 : noQ y = true) : noQ (if c then x else y) = true := by split <;> assumption
theorem noQ_prOf (k a b : Int) (e : List Rw2) (p q : Pr) (hp : noQ p = true) (hq : noQ q = true) : noQ (prOf k a b e p q) = true := by
  unfold prOf
  repeat' apply noQ_ite
  all_goals simp [noQ, noQs, Pr.of, Pr.skip, hp, hq]
theorem noQ_pr (x : Rw3) (d : Nat) : noQ (x.pr d) = true := by
  have ih : ∀ y ∈ x.l, ∀ d, noQ (y.pr d) = true := fun y hy d => noQ_pr y d
  have hs : noQ .skip = true := by simp [Pr.skip, Pr.of, noQ, noQs]
  have hp : ∀ i, noQ (x.part i d) = true := fun i => by
    unfold Rw3.part
    split
    · cases h : x.l[i]? with
      | none => exact hs
      | some y => exact ih y (List.mem_of_getElem? h) _
    · exact hs
  rw [x.pr_eq]
  exact noQ_prOf _ _ _ _ _ _ (hp 0) (hp 1)
termination_by SizeOf.sizeOf x
decreasing_by exact Rw3.lt_of_mem hy
mutual
theorem noW_low (V S D : List ByteArray) : ∀ x : Pr, noQ x = true → noW (lowP V S D x) = true
  | ⟨k, s, t, e, l⟩, h => by
    have h0 := lowP0_kind V S D k s t e (lowPs V S D l)
    have hn := noWs_low V S D l
    rw [noW_eq, lowP, h0.1, h0.2]
    simp only [noQ, Bool.and_eq_true] at h
    simp only [Bool.and_eq_true]
    exact ⟨h.1, hn h.2⟩
theorem noWs_low (V S D : List ByteArray) : ∀ l : List Pr, noQs l = true → noWs (lowPs V S D l) = true
  | [], _ => rfl
  | x :: l, h => by
    simp only [noQs, Bool.and_eq_true] at h
    simp only [lowPs, noWs, Bool.and_eq_true]
    exact ⟨noW_low V S D x h.1, noWs_low V S D l h.2⟩
end
theorem wbit0 (k : Nat) : wbit 0 k = false := by
  unfold wbit
  have : wsh 0 k = 0 := by unfold wsh; simp
  rw [this]
  simp [within]
mutual
theorem noW_wt : ∀ (t : Tm) (k : Nat) (p : Bool), noW t = true → noW (wtT 0 t k p).1 = true
  | ⟨kd, a, b, nm, e, l⟩, k, p, h => by
    have h1 := noWs_wt l (if kd = 1 then k + 1 else k) (p || decide (kd = 3))
    unfold wtT
    rw [if_neg (by simp [wbit0])]
    simp only [noW, Bool.and_eq_true] at h ⊢
    exact ⟨h.1, h1 h.2⟩
theorem noWs_wt : ∀ (l : List Tm) (k : Nat) (p : Bool), noWs l = true → noWs (wtTs 0 l k p).1 = true
  | [], k, p, _ => rfl
  | x :: l, k, p, h => by
    simp only [noWs, Bool.and_eq_true] at h
    simp only [wtTs, noWs, Bool.and_eq_true]
    exact ⟨noW_wt x k p h.1, noWs_wt l _ p h.2⟩
end
theorem noW_mk (r : Rw3) : noW (mkT r 0) = true := by
  unfold mkT
  split
  · simp [askT, noW, noWs]
  · refine noW_wt _ _ _ ?_
    unfold re4T
    split
    · simp [Tmz, noW, noWs]
    · have := noW_low (mkProg r).V (mkProg r).stacks (mkProg r).D (r.pr 0) (noQ_pr r 0)
      simp only [ppr, mkProg, List.map_cons, List.getElem?_cons_zero, Option.getD_some] at this ⊢
      exact this
theorem noW_waits (t : Tm) (h : noW t = true) (hk : okN t = true) : t.waits = [] := by
  have ih : ∀ y ∈ t.l, y.waits = [] := fun y hy => noW_waits y (noW_mem h y hy) (okN_mem hk y hy)
  rw [waits_eq t hk, if_neg (by rw [noW_eq] at h; simp at h; exact h.1), wk]
  rw [List.flatMap_eq_nil_iff]
  intro x hx
  exact ih x (List.mem_of_mem_take hx)
termination_by SizeOf.sizeOf t
decreasing_by exact Tm.lt_of_mem hy
theorem noW_norm (t : Tm) (h : okN t = true) (hw : noW t = true) : noW t.norm = true := by
  by_cases k12 : t.kind = 12
  · obtain ⟨x, y, hl, hx, hy⟩ := okN_two h (.inl k12)
    have wx := noW_mem hw x (by simp [hl])
    have wy := noW_mem hw y (by simp [hl])
    have ix := noW_norm x hx wx
    have iy := noW_norm y hy wy
    rw [Tm.norm_two hl, if_pos k12]
    split
    · exact iy
    · simp [Tm.of, noW, noWs, ix, wy]
  · by_cases k11 : t.kind = 11
    · obtain ⟨x, y, hl, hx, hy⟩ := okN_two h (.inr k11)
      have ix := noW_norm x hx (noW_mem hw x (by simp [hl]))
      have iy := noW_norm y hy (noW_mem hw y (by simp [hl]))
      rw [Tm.norm_two hl, if_neg k12, if_pos k11]
      split
      · rfl
      · simp [Tm.of, noW, noWs, ix, iy]
    · by_cases k7 : t.kind = 7
      · obtain ⟨x, hl, hx⟩ := okN_one h k7
        have ix := noW_norm x hx (noW_mem hw x (by simp [hl]))
        rw [Tm.norm_one hl, if_pos k7]
        split
        · rfl
        · simp [Tm.of, noW, noWs, ix]
      · rw [norm_leaf h k12 k11 k7]; exact hw
termination_by SizeOf.sizeOf t
decreasing_by all_goals exact Tm.lt_of_mem (by simp [hl])
structure Free (t : Tm) : Prop where
  ok : okN t = true
  no : noW t = true
theorem Free.waits {t : Tm} (h : Free t) : t.norm.waits = [] := noW_waits _ (noW_norm t h.ok h.no) (okN_norm t h.ok)
theorem Free.en {t : Tm} (h : Free t) : t.enabled = (t.norm.pls [] false).flatMap stepsAt := by
  unfold Tm.enabled Tm.enabledN
  rw [h.waits]; simp
theorem par_enabled {a b : Tm} (ha : Free a) (hb : Free b) : (Tm.of 11 [a, b]).enabled = a.enabled.map (shS [0]) ++ b.enabled.map (shS [1]) := by
  by_cases h0 : a.norm.kind = 0 ∧ b.norm.kind = 0
  · have hn : (Tm.of 11 [a, b]).norm = .skip := by
      rw [Tm.norm_two (x := a) (y := b) rfl, if_neg (show (Tm.of 11 [a, b]).kind ≠ 12 by simp [Tm.of]), if_pos (show (Tm.of 11 [a, b]).kind = 11 from rfl), if_pos h0]
    have e1 : a.enabled = [] := en_skip' h0.1
    have e2 : b.enabled = [] := en_skip' h0.2
    rw [e1, e2]
    unfold Tm.enabled
    rw [hn, en_skip' rfl]
    rfl
  · have hn : (Tm.of 11 [a, b]).norm = .of 11 [a.norm, b.norm] := by
      rw [Tm.norm_two (x := a) (y := b) rfl, if_neg (show (Tm.of 11 [a, b]).kind ≠ 12 by simp [Tm.of]), if_pos (show (Tm.of 11 [a, b]).kind = 11 from rfl), if_neg h0]
    rw [ha.en, hb.en]
    unfold Tm.enabled Tm.enabledN
    rw [hn, par_waits, ha.waits, hb.waits]
    have e1 := pls_shift [0] a.norm [] false
    have e2 := pls_shift [1] b.norm [] false
    simp only [List.append_nil] at e1 e2
    rw [← steps_shift, ← steps_shift, ← e1, ← e2]
    simp [Tm.of, Tm.pls, Tm.plsL, kidW, stepsAt, stpN, stp]
theorem seq_enabled {a b : Tm} (ha : Free a) : (Tm.of 12 [a, b]).enabled = if a.norm.kind = 0 then b.enabled else a.enabled.map (shS [0]) := by
  by_cases h0 : a.norm.kind = 0
  · have hn : (Tm.of 12 [a, b]).norm = b.norm := by rw [Tm.norm_two (x := a) (y := b) rfl, if_pos (show (Tm.of 12 [a, b]).kind = 12 from rfl), if_pos h0]
    rw [if_pos h0]
    unfold Tm.enabled
    rw [hn]
  · rw [if_neg h0, row_enabled a b h0, rowE, ha.en, ha.waits]
    have e1 := pls_shift [0] a.norm [] false
    simp only [List.append_nil] at e1
    rw [← steps_shift, ← e1]
    rfl
end Go.Proofs.Ytkagfenchknjjaa
set_option linter.unusedVariables false
set_option linter.unusedSimpArgs false
namespace Go.Proofs.Ytkagfenchknjjaa
open Go Go.Am Go.RowKit

@[simp] theorem shS_1' (z : List Int) (a : Stp3) : (shS z a).1 = a.1 := rfl
@[simp] theorem shS_2' (z : List Int) (a : Stp3) : (shS z a).2.1 = z ++ a.2.1 := rfl
@[simp] theorem shS_3' (z : List Int) (a : Stp3) : (shS z a).2.2 = a.2.2 := rfl
theorem par_k32 (p q two : List Stp3) (i : Nat) (sd : Int) (x : Stp3) (hi : i < two.length) (hn : two.length ≤ 1000000) (hx : two[i] = shS [sd] x) (hxl : x.2.1.length ≤ 100000) (v5 v6 v11 : Nat) (B5 B6 : List AV) (Φ : Exit → St → Prop) (L : St → Prop) (vt : Nat → Nat)
    (hL : ∀ T H vs, Am.subT T [(5, .ref 5 v5 (.p 0)), (6, .ref 6 v6 (.p 0)), (7, .sl (p.map encS)), (8, .sl (q.map encS)), (9, .sl (two.map encS)), (10, .int .i64 (i + 1 : Nat))] →
      subA H [(5, .box v5 34 B5), (6, .box v6 34 B6)] → L ⟨Am.look T, hls H vs, noG⟩)
    (T : List (Nat × AV)) (h5 : Am.look T 5 = .ref 5 v5 (.p 0)) (h6 : Am.look T 6 = .ref 6 v6 (.p 0)) (h7 : Am.look T 7 = .sl (p.map encS)) (h8 : Am.look T 8 = .sl (q.map encS)) (h9 : Am.look T 9 = .sl (two.map encS))
    (h10 : Am.look T 10 = .int .i64 (i : Nat)) (h11 : Am.look T 11 = .ref 11 v11 (.p 0)) (h12 : Am.look T 12 = .int .i64 sd) :
    W4_k32 Try.prog Φ L ⟨Am.look T, hls [(5, .box v5 34 B5), (6, .box v6 34 B6), (11, .box v11 43 (encS x))] vt, noG⟩ := by
  have hi' : (i : Int) < two.length := by omega
  have hits := sp_its ([sd] ++ x.2.1) (sd :: x.2.1) (by simp; omega)
  rw [decide_eq_true (by simp)] at hits
  simp [W4, W4_rs, W4_b1, W4_b2, W4_b3, W4_b5, W4_b6, W4_b10, W4_b11, W4_b33, W4_b34, W4_b35, W4_b37, W4_b43, W4_b45, W4_c4, W4_c7, W4_c8, W4_c12, W4_c13, W4_c14, W4_c15, W4_c16, W4_c17, W4_c18, W4_c19, W4_c20, W4_c21, W4_c22, W4_c23, W4_c24, W4_c25, W4_c26, W4_c27, W4_c28, W4_c29, W4_c30, W4_c31, W4_c38, W4_c39, W4_c40, W4_c41, W4_c42, W4_c44, W4_c46, W4_k9, W4_k32, W4_l36, h5, h6, h7, h8, h9, h10, h11, h12, hi, hx]
  rw [decide_eq_true (by omega)]
  simp [W4, W4_rs, W4_b1, W4_b2, W4_b3, W4_b5, W4_b6, W4_b10, W4_b11, W4_b33, W4_b34, W4_b35, W4_b37, W4_b43, W4_b45, W4_c4, W4_c7, W4_c8, W4_c12, W4_c13, W4_c14, W4_c15, W4_c16, W4_c17, W4_c18, W4_c19, W4_c20, W4_c21, W4_c22, W4_c23, W4_c24, W4_c25, W4_c26, W4_c27, W4_c28, W4_c29, W4_c30, W4_c31, W4_c38, W4_c39, W4_c40, W4_c41, W4_c42, W4_c44, W4_c46, W4_k9, W4_k32, W4_l36]
  refine scall0_pure hits (by simp [encI]) (by simp) ?_
  simp [W4, W4_rs, W4_b1, W4_b2, W4_b3, W4_b5, W4_b6, W4_b10, W4_b11, W4_b33, W4_b34, W4_b35, W4_b37, W4_b43, W4_b45, W4_c4, W4_c7, W4_c8, W4_c12, W4_c13, W4_c14, W4_c15, W4_c16, W4_c17, W4_c18, W4_c19, W4_c20, W4_c21, W4_c22, W4_c23, W4_c24, W4_c25, W4_c26, W4_c27, W4_c28, W4_c29, W4_c30, W4_c31, W4_c38, W4_c39, W4_c40, W4_c41, W4_c42, W4_c44, W4_c46, W4_k9, W4_k32, W4_l36, h10]
  rw [wrap64 (by omega) (by omega)]
  exact hL _ _ _ (by simp [h5, h6, h7, h8, h9]) (by simp)
theorem par_go (r s : Rw3) (a b : Tm) (p q row : List Stp3) (hfew : Am.Spec Try.prog 21 [.agg [.int .i64 0, .int .i64 0, .sl ([r, s].map encR3)]] (.bool true)) (ha : Am.Spec Try.prog 23 [.agg (encR3 r), .int .i64 0] (.agg (encT a))) (hb : Am.Spec Try.prog 23 [.agg (encR3 s), .int .i64 0] (.agg (encT b)))
    (hea : Am.Spec Try.prog 24 [.agg (encT a)] (.sl (p.map encS))) (heb : Am.Spec Try.prog 24 [.agg (encT b)] (.sl (q.map encS)))
    (hpa : Am.Spec Try.prog 24 [.agg (encT (Tm.of 11 [a, b]))] (.sl ((p.map (shS [0]) ++ q.map (shS [1])).map encS))) (hro : Am.Spec Try.prog 24 [.agg (encT (Tm.of 12 [a, b]))] (.sl (row.map encS)))
    (hn : Am.Spec Try.prog 22 [.agg (encT a)] (.agg (encT a.norm))) (hr0 : a.norm.kind = 0 → row = q) (hr1 : a.norm.kind ≠ 0 → row.length = p.length)
    (hp : p.length ≤ 100000 ∧ ∀ x ∈ p, x.2.1.length ≤ 100000) (hq : q.length ≤ 100000 ∧ ∀ x ∈ q, x.2.1.length ≤ 100000) :
    Am.Spec Try.prog 4 [.agg (encR3 r), .agg (encR3 s)] (.bool true) := by
  obtain ⟨two, htwo⟩ : ∃ two, p.map (shS [0]) ++ q.map (shS [1]) = two := ⟨_, rfl⟩
  have h2l : two.length = p.length + q.length := by rw [← htwo]; simp
  have h2l' : (two.length : Int) = p.length + q.length := by omega
  have g1 : ∀ i (h : i < p.length), two[i]'(by omega) = shS [0] p[i] := fun i h => by subst htwo; rw [List.getElem_append_left (by simpa using h)]; simp
  have g2 : ∀ i (h : i < two.length) (h2 : ¬ i < p.length), two[i] = shS [1] (q[i - p.length]'(by omega)) := fun i h h2 => by subst htwo; rw [List.getElem_append_right (by simpa using h2)]; simp
  rw [htwo] at hpa
  rw [encT_of] at hpa hro
  have hwl : IntKind.wrap .i64 ((p.length : Int) + q.length) = two.length := by rw [wrap64 (by omega) (by omega)]; omega
  refine Am.Spec.of_W (W := W4) Try.func4 (by kernel_rfl) (by kernel_rfl) (by kernel_rfl) Try.ntmps4 W4_eq (rs := [.tmp 4]) (by kernel_rfl) (by simp) ?_
  intro vs
  simp [W4, W4_rs, W4_b1, W4_b2, W4_b3, W4_b5, W4_b6, W4_b10, W4_b11, W4_b33, W4_b34, W4_b35, W4_b37, W4_b43, W4_b45, W4_c4, W4_c7, W4_c8, W4_c12, W4_c13, W4_c14, W4_c15, W4_c16, W4_c17, W4_c18, W4_c19, W4_c20, W4_c21, W4_c22, W4_c23, W4_c24, W4_c25, W4_c26, W4_c27, W4_c28, W4_c29, W4_c30, W4_c31, W4_c38, W4_c39, W4_c40, W4_c41, W4_c42, W4_c44, W4_c46, W4_k9, W4_k32, W4_l36]
  refine scall_pure sp_kno (by simp) (by simp) ?_
  simp [W4, W4_rs, W4_b1, W4_b2, W4_b3, W4_b5, W4_b6, W4_b10, W4_b11, W4_b33, W4_b34, W4_b35, W4_b37, W4_b43, W4_b45, W4_c4, W4_c7, W4_c8, W4_c12, W4_c13, W4_c14, W4_c15, W4_c16, W4_c17, W4_c18, W4_c19, W4_c20, W4_c21, W4_c22, W4_c23, W4_c24, W4_c25, W4_c26, W4_c27, W4_c28, W4_c29, W4_c30, W4_c31, W4_c38, W4_c39, W4_c40, W4_c41, W4_c42, W4_c44, W4_c46, W4_k9, W4_k32, W4_l36]
  refine scall_pure hfew (by simp) (by simp) ?_
  simp [W4, W4_rs, W4_b1, W4_b2, W4_b3, W4_b5, W4_b6, W4_b10, W4_b11, W4_b33, W4_b34, W4_b35, W4_b37, W4_b43, W4_b45, W4_c4, W4_c7, W4_c8, W4_c12, W4_c13, W4_c14, W4_c15, W4_c16, W4_c17, W4_c18, W4_c19, W4_c20, W4_c21, W4_c22, W4_c23, W4_c24, W4_c25, W4_c26, W4_c27, W4_c28, W4_c29, W4_c30, W4_c31, W4_c38, W4_c39, W4_c40, W4_c41, W4_c42, W4_c44, W4_c46, W4_k9, W4_k32, W4_l36]
  refine scall0_pure ha (by simp) (by simp) ?_
  simp [W4, W4_rs, W4_b1, W4_b2, W4_b3, W4_b5, W4_b6, W4_b10, W4_b11, W4_b33, W4_b34, W4_b35, W4_b37, W4_b43, W4_b45, W4_c4, W4_c7, W4_c8, W4_c12, W4_c13, W4_c14, W4_c15, W4_c16, W4_c17, W4_c18, W4_c19, W4_c20, W4_c21, W4_c22, W4_c23, W4_c24, W4_c25, W4_c26, W4_c27, W4_c28, W4_c29, W4_c30, W4_c31, W4_c38, W4_c39, W4_c40, W4_c41, W4_c42, W4_c44, W4_c46, W4_k9, W4_k32, W4_l36]
  refine scall0_pure hb (by simp) (by simp) ?_
  simp [W4, W4_rs, W4_b1, W4_b2, W4_b3, W4_b5, W4_b6, W4_b10, W4_b11, W4_b33, W4_b34, W4_b35, W4_b37, W4_b43, W4_b45, W4_c4, W4_c7, W4_c8, W4_c12, W4_c13, W4_c14, W4_c15, W4_c16, W4_c17, W4_c18, W4_c19, W4_c20, W4_c21, W4_c22, W4_c23, W4_c24, W4_c25, W4_c26, W4_c27, W4_c28, W4_c29, W4_c30, W4_c31, W4_c38, W4_c39, W4_c40, W4_c41, W4_c42, W4_c44, W4_c46, W4_k9, W4_k32, W4_l36]
  refine scall0_pure hea (by simp) (by simp) ?_
  simp [W4, W4_rs, W4_b1, W4_b2, W4_b3, W4_b5, W4_b6, W4_b10, W4_b11, W4_b33, W4_b34, W4_b35, W4_b37, W4_b43, W4_b45, W4_c4, W4_c7, W4_c8, W4_c12, W4_c13, W4_c14, W4_c15, W4_c16, W4_c17, W4_c18, W4_c19, W4_c20, W4_c21, W4_c22, W4_c23, W4_c24, W4_c25, W4_c26, W4_c27, W4_c28, W4_c29, W4_c30, W4_c31, W4_c38, W4_c39, W4_c40, W4_c41, W4_c42, W4_c44, W4_c46, W4_k9, W4_k32, W4_l36]
  refine scall0_pure heb (by simp) (by simp) ?_
  simp [W4, W4_rs, W4_b1, W4_b2, W4_b3, W4_b5, W4_b6, W4_b10, W4_b11, W4_b33, W4_b34, W4_b35, W4_b37, W4_b43, W4_b45, W4_c4, W4_c7, W4_c8, W4_c12, W4_c13, W4_c14, W4_c15, W4_c16, W4_c17, W4_c18, W4_c19, W4_c20, W4_c21, W4_c22, W4_c23, W4_c24, W4_c25, W4_c26, W4_c27, W4_c28, W4_c29, W4_c30, W4_c31, W4_c38, W4_c39, W4_c40, W4_c41, W4_c42, W4_c44, W4_c46, W4_k9, W4_k32, W4_l36]
  refine scall_pure hpa (by simp) (by simp) ?_
  simp [W4, W4_rs, W4_b1, W4_b2, W4_b3, W4_b5, W4_b6, W4_b10, W4_b11, W4_b33, W4_b34, W4_b35, W4_b37, W4_b43, W4_b45, W4_c4, W4_c7, W4_c8, W4_c12, W4_c13, W4_c14, W4_c15, W4_c16, W4_c17, W4_c18, W4_c19, W4_c20, W4_c21, W4_c22, W4_c23, W4_c24, W4_c25, W4_c26, W4_c27, W4_c28, W4_c29, W4_c30, W4_c31, W4_c38, W4_c39, W4_c40, W4_c41, W4_c42, W4_c44, W4_c46, W4_k9, W4_k32, hwl]
  refine sLoop_intro (fun i => i ≤ two.length) (fun i => two.length - i) (fun i => [(5, .ref 5 (vs 5 + 1) (.p 0)), (6, .ref 6 (vs 6 + 1) (.p 0)), (7, .sl (p.map encS)), (8, .sl (q.map encS)), (9, .sl (two.map encS)), (10, .int .i64 (i : Nat))])
    (fun i => [(5, .box (vs 5 + 1) 34 (encT a)), (6, .box (vs 6 + 1) 34 (encT b))]) 0 (by simp) (by simp) (by simp) ?_
  intro L i vt hi hL
  by_cases h : i < two.length
  · have h' : (i : Int) < two.length := by omega
    by_cases hip : i < p.length
    · have hip' : (i : Int) < p.length := by omega
      simp [W4, W4_rs, W4_b1, W4_b2, W4_b3, W4_b5, W4_b6, W4_b10, W4_b11, W4_b33, W4_b34, W4_b35, W4_b37, W4_b43, W4_b45, W4_c4, W4_c7, W4_c8, W4_c12, W4_c13, W4_c14, W4_c15, W4_c16, W4_c17, W4_c18, W4_c19, W4_c20, W4_c21, W4_c22, W4_c23, W4_c24, W4_c25, W4_c26, W4_c27, W4_c28, W4_c29, W4_c30, W4_c31, W4_c38, W4_c39, W4_c40, W4_c41, W4_c42, W4_c44, W4_c46, W4_k9, W4_l36, h, h', hip, hip']
      have hq1 := hp.2 _ (List.getElem_mem hip)
      have hg1 := g1 i hip
      generalize p[i] = x at *
      refine par_k32 p q two i 0 x h (by omega) hg1 hq1 (vs 5 + 1) (vs 6 + 1) (vt 11 + 1) (encT a) (encT b) _ L vt (fun T H vs h1 h2 => hL T H vs (i + 1) h (by omega) h1 h2) _ ?_ ?_ ?_ ?_ ?_ ?_ ?_ ?_
      all_goals simp
    · have hip' : ¬ (i : Int) < p.length := by omega
      have hiq : i - p.length < q.length := by omega
      have hwq : IntKind.wrap .i64 ((i : Int) - p.length) = ((i - p.length : Nat) : Int) := by rw [wrap64 (by omega) (by omega)]; omega
      simp [W4, W4_rs, W4_b1, W4_b2, W4_b3, W4_b5, W4_b6, W4_b10, W4_b11, W4_b33, W4_b34, W4_b35, W4_b37, W4_b43, W4_b45, W4_c4, W4_c7, W4_c8, W4_c12, W4_c13, W4_c14, W4_c15, W4_c16, W4_c17, W4_c18, W4_c19, W4_c20, W4_c21, W4_c22, W4_c23, W4_c24, W4_c25, W4_c26, W4_c27, W4_c28, W4_c29, W4_c30, W4_c31, W4_c38, W4_c39, W4_c40, W4_c41, W4_c42, W4_c44, W4_c46, W4_k9, W4_l36, h, h', hip, hip', hwq, hiq]
      have hq1 := hq.2 _ (List.getElem_mem hiq)
      have hg1 := g2 i h hip
      generalize q[i - p.length] = x at *
      refine par_k32 p q two i 1 x h (by omega) hg1 hq1 (vs 5 + 1) (vs 6 + 1) (vt 11 + 1) (encT a) (encT b) _ L vt (fun T H vs h1 h2 => hL T H vs (i + 1) h (by omega) h1 h2) _ ?_ ?_ ?_ ?_ ?_ ?_ ?_ ?_
      all_goals simp
  · have h' : ¬ (i : Int) < two.length := by omega
    by_cases h0 : a.norm.kind = 0
    · have hs7 := sp_s7 row q (by rw [hr0 h0]; omega) (fun x hx => by rw [hr0 h0] at hx; have := hq.2 x hx; omega)
      rw [decide_eq_true (hr0 h0)] at hs7
      simp [W4, W4_rs, W4_b1, W4_b2, W4_b3, W4_b5, W4_b6, W4_b10, W4_b11, W4_b33, W4_b34, W4_b35, W4_b37, W4_b43, W4_b45, W4_c4, W4_c7, W4_c8, W4_c12, W4_c13, W4_c14, W4_c15, W4_c16, W4_c17, W4_c18, W4_c19, W4_c20, W4_c21, W4_c22, W4_c23, W4_c24, W4_c25, W4_c26, W4_c27, W4_c28, W4_c29, W4_c30, W4_c31, W4_c38, W4_c39, W4_c40, W4_c41, W4_c42, W4_c44, W4_c46, W4_k9, W4_k32, W4_l36, h, h']
      refine scall_pure hro (by simp) (by simp) ?_
      simp [W4, W4_rs, W4_b1, W4_b2, W4_b3, W4_b5, W4_b6, W4_b10, W4_b11, W4_b33, W4_b34, W4_b35, W4_b37, W4_b43, W4_b45, W4_c4, W4_c7, W4_c8, W4_c12, W4_c13, W4_c14, W4_c15, W4_c16, W4_c17, W4_c18, W4_c19, W4_c20, W4_c21, W4_c22, W4_c23, W4_c24, W4_c25, W4_c26, W4_c27, W4_c28, W4_c29, W4_c30, W4_c31, W4_c38, W4_c39, W4_c40, W4_c41, W4_c42, W4_c44, W4_c46, W4_k9, W4_k32, W4_l36]
      refine scall_pure hn (by simp) (by simp) ?_
      simp [W4, W4_rs, W4_b1, W4_b2, W4_b3, W4_b5, W4_b6, W4_b10, W4_b11, W4_b33, W4_b34, W4_b35, W4_b37, W4_b43, W4_b45, W4_c4, W4_c7, W4_c8, W4_c12, W4_c13, W4_c14, W4_c15, W4_c16, W4_c17, W4_c18, W4_c19, W4_c20, W4_c21, W4_c22, W4_c23, W4_c24, W4_c25, W4_c26, W4_c27, W4_c28, W4_c29, W4_c30, W4_c31, W4_c38, W4_c39, W4_c40, W4_c41, W4_c42, W4_c44, W4_c46, W4_k9, W4_k32, W4_l36, h0]
      refine scall_pure hs7 (by simp) (by simp) ?_
      simp [W4, W4_rs, W4_b1, W4_b2, W4_b3, W4_b5, W4_b6, W4_b10, W4_b11, W4_b33, W4_b34, W4_b35, W4_b37, W4_b43, W4_b45, W4_c4, W4_c7, W4_c8, W4_c12, W4_c13, W4_c14, W4_c15, W4_c16, W4_c17, W4_c18, W4_c19, W4_c20, W4_c21, W4_c22, W4_c23, W4_c24, W4_c25, W4_c26, W4_c27, W4_c28, W4_c29, W4_c30, W4_c31, W4_c38, W4_c39, W4_c40, W4_c41, W4_c42, W4_c44, W4_c46, W4_k9, W4_k32, W4_l36, retW_eq]
    · have hr1 := hr1 h0
      simp [W4, W4_rs, W4_b1, W4_b2, W4_b3, W4_b5, W4_b6, W4_b10, W4_b11, W4_b33, W4_b34, W4_b35, W4_b37, W4_b43, W4_b45, W4_c4, W4_c7, W4_c8, W4_c12, W4_c13, W4_c14, W4_c15, W4_c16, W4_c17, W4_c18, W4_c19, W4_c20, W4_c21, W4_c22, W4_c23, W4_c24, W4_c25, W4_c26, W4_c27, W4_c28, W4_c29, W4_c30, W4_c31, W4_c38, W4_c39, W4_c40, W4_c41, W4_c42, W4_c44, W4_c46, W4_k9, W4_k32, W4_l36, h, h']
      refine scall_pure hro (by simp) (by simp) ?_
      simp [W4, W4_rs, W4_b1, W4_b2, W4_b3, W4_b5, W4_b6, W4_b10, W4_b11, W4_b33, W4_b34, W4_b35, W4_b37, W4_b43, W4_b45, W4_c4, W4_c7, W4_c8, W4_c12, W4_c13, W4_c14, W4_c15, W4_c16, W4_c17, W4_c18, W4_c19, W4_c20, W4_c21, W4_c22, W4_c23, W4_c24, W4_c25, W4_c26, W4_c27, W4_c28, W4_c29, W4_c30, W4_c31, W4_c38, W4_c39, W4_c40, W4_c41, W4_c42, W4_c44, W4_c46, W4_k9, W4_k32, W4_l36]
      refine scall_pure hn (by simp) (by simp) ?_
      simp [W4, W4_rs, W4_b1, W4_b2, W4_b3, W4_b5, W4_b6, W4_b10, W4_b11, W4_b33, W4_b34, W4_b35, W4_b37, W4_b43, W4_b45, W4_c4, W4_c7, W4_c8, W4_c12, W4_c13, W4_c14, W4_c15, W4_c16, W4_c17, W4_c18, W4_c19, W4_c20, W4_c21, W4_c22, W4_c23, W4_c24, W4_c25, W4_c26, W4_c27, W4_c28, W4_c29, W4_c30, W4_c31, W4_c38, W4_c39, W4_c40, W4_c41, W4_c42, W4_c44, W4_c46, W4_k9, W4_k32, W4_l36, h0, hr1, retW_eq]
theorem few_two (r s : Rw3) : few3 [r, s] = decide (r.sz 0 + s.sz 0 ≤ 40) := by simp [few3]
theorem sp_par (r s : Rw3) : Am.Spec Try.prog 4 [.agg (encR3 r), .agg (encR3 s)] (.bool true) := by
  have hfew := sp_fw3 (.int .i64 0) (.int .i64 0) [r, s] (by simp [maxLen]) (by simp [closed]) (by simp [closed])
  rw [few_two] at hfew
  by_cases h : r.sz 0 + s.sz 0 ≤ 40
  · rw [decide_eq_true h] at hfew
    have z1 := r.sz_le 0
    have z2 := s.sz_le 0
    have w1 := mkT_wt r 0 (by omega)
    have w2 := mkT_wt s 0 (by omega)
    have fa : Free (mkT r 0) := ⟨okN_mk r 0, noW_mk r⟩
    have fb : Free (mkT s 0) := ⟨okN_mk s 0, noW_mk s⟩
    have wo : ∀ (k : Int) (a b : Tm), (Tm.of k [a, b]).wt = 2 + (a.wt + (b.wt + 0)) := fun k a b => by simp only [Tm.of, Tm.wt, Ex.zero_wt, Tm.wts]
    have hpa := sp_enb (Tm.of 11 [mkT r 0, mkT s 0]) (by rw [wo]; omega)
    have hro := sp_enb (Tm.of 12 [mkT r 0, mkT s 0]) (by rw [wo]; omega)
    rw [par_enabled fa fb] at hpa
    refine par_go r s _ _ _ _ _ hfew (sp_mkT r 0 (by omega)) (sp_mkT s 0 (by omega)) (sp_enb _ (by omega)) (sp_enb _ (by omega)) hpa hro (sp_n5 _ fa.ok) (fun h0 => ?_) (fun h0 => ?_) (enabled_bound _ w1) (enabled_bound _ w2)
    · rw [seq_enabled fa, if_pos h0]
    · rw [seq_enabled fa, if_neg h0]; simp
  · rw [decide_eq_false h] at hfew
    refine Am.Spec.of_W (W := W4) Try.func4 (by kernel_rfl) (by kernel_rfl) (by kernel_rfl) Try.ntmps4 W4_eq (rs := [.tmp 4]) (by kernel_rfl) (by simp) ?_
    intro vs
    simp [W4, W4_rs, W4_b1, W4_b2, W4_b3, W4_b5, W4_b6, W4_b10, W4_b11, W4_b33, W4_b34, W4_b35, W4_b37, W4_b43, W4_b45, W4_c4, W4_c7, W4_c8, W4_c12, W4_c13, W4_c14, W4_c15, W4_c16, W4_c17, W4_c18, W4_c19, W4_c20, W4_c21, W4_c22, W4_c23, W4_c24, W4_c25, W4_c26, W4_c27, W4_c28, W4_c29, W4_c30, W4_c31, W4_c38, W4_c39, W4_c40, W4_c41, W4_c42, W4_c44, W4_c46, W4_k9, W4_k32, W4_l36]
    refine scall_pure sp_kno (by simp) (by simp) ?_
    simp [W4, W4_rs, W4_b1, W4_b2, W4_b3, W4_b5, W4_b6, W4_b10, W4_b11, W4_b33, W4_b34, W4_b35, W4_b37, W4_b43, W4_b45, W4_c4, W4_c7, W4_c8, W4_c12, W4_c13, W4_c14, W4_c15, W4_c16, W4_c17, W4_c18, W4_c19, W4_c20, W4_c21, W4_c22, W4_c23, W4_c24, W4_c25, W4_c26, W4_c27, W4_c28, W4_c29, W4_c30, W4_c31, W4_c38, W4_c39, W4_c40, W4_c41, W4_c42, W4_c44, W4_c46, W4_k9, W4_k32, W4_l36]
    refine scall_pure hfew (by simp) (by simp) ?_
    simp [W4, W4_rs, W4_b1, W4_b2, W4_b3, W4_b5, W4_b6, W4_b10, W4_b11, W4_b33, W4_b34, W4_b35, W4_b37, W4_b43, W4_b45, W4_c4, W4_c7, W4_c8, W4_c12, W4_c13, W4_c14, W4_c15, W4_c16, W4_c17, W4_c18, W4_c19, W4_c20, W4_c21, W4_c22, W4_c23, W4_c24, W4_c25, W4_c26, W4_c27, W4_c28, W4_c29, W4_c30, W4_c31, W4_c38, W4_c39, W4_c40, W4_c41, W4_c42, W4_c44, W4_c46, W4_k9, W4_k32, W4_l36, retW_eq]
end Go.Proofs.Ytkagfenchknjjaa
set_option linter.unusedVariables false
set_option linter.unusedSimpArgs false
namespace Go.Proofs.Ytkagfenchknjjaa
open Go Go.Am Go.RowKit

/-! What stands at a path. -/
def folw : Tm → List Int → Option Tm
  | t, [] => some t
  | t, j :: p => if 0 ≤ j ∧ j < aN t then (match t.l[j.toNat]? with | some y => folw y p | none => none) else none
theorem folw_cons {t x : Tm} {j : Int} {p : List Int} (h : folw t (j :: p) = some x) : ∃ n : Nat, j = n ∧ n < aN t ∧ ∃ hl : n < t.l.length, folw t.l[n] p = some x := by
  unfold folw at h
  split at h
  · rename_i hj
    refine ⟨j.toNat, by omega, by omega, ?_⟩
    cases e : t.l[j.toNat]? with
    | none => rw [e] at h; simp at h
    | some y =>
      rw [e] at h
      obtain ⟨hl, rfl⟩ := List.getElem?_eq_some_iff.1 e
      exact ⟨hl, h⟩
  · simp at h
theorem folw_mk {t x : Tm} (n : Nat) (h1 : n < aN t) (hl : n < t.l.length) (p : List Int) (h : folw t.l[n] p = some x) : folw t ((n : Int) :: p) = some x := by
  unfold folw
  rw [if_pos (by omega)]
  simp [List.getElem?_eq_getElem hl, h]
theorem norm_norm (t : Tm) (h : okN t = true) : t.norm.norm = t.norm := by
  by_cases k12 : t.kind = 12
  · obtain ⟨x, y, hl, hx, hy⟩ := okN_two h (.inl k12)
    have ix := norm_norm x hx
    have iy := norm_norm y hy
    rw [Tm.norm_two hl, if_pos k12]
    by_cases hx0 : x.norm.kind = 0
    · rw [if_pos hx0]; exact iy
    · rw [if_neg hx0, Tm.norm_two (x := x.norm) (y := y) rfl, if_pos (show (Tm.of 12 [x.norm, y]).kind = 12 from rfl), ix, if_neg hx0]
  · by_cases k11 : t.kind = 11
    · obtain ⟨x, y, hl, hx, hy⟩ := okN_two h (.inr k11)
      have ix := norm_norm x hx
      have iy := norm_norm y hy
      rw [Tm.norm_two hl, if_neg k12, if_pos k11]
      by_cases h0 : x.norm.kind = 0 ∧ y.norm.kind = 0
      · rw [if_pos h0]; exact Tm.norm_else (by simp [Tm.skip, Tm.of]) (by simp [Tm.skip, Tm.of])
      · rw [if_neg h0, Tm.norm_two (x := x.norm) (y := y.norm) rfl, if_neg (show (Tm.of 11 [x.norm, y.norm]).kind ≠ 12 by simp [Tm.of]), if_pos (show (Tm.of 11 [x.norm, y.norm]).kind = 11 from rfl), ix, iy, if_neg h0]
    · by_cases k7 : t.kind = 7
      · obtain ⟨x, hl, hx⟩ := okN_one h k7
        have ix := norm_norm x hx
        rw [Tm.norm_one hl, if_pos k7]
        by_cases h0 : x.norm.kind = 0
        · rw [if_pos h0]; exact Tm.norm_else (by simp [Tm.skip, Tm.of]) (by simp [Tm.skip, Tm.of])
        · rw [if_neg h0, Tm.norm_one (x := x.norm) rfl, if_pos (show (Tm.of 7 [x.norm]).kind = 7 from rfl), ix, if_neg h0]
      · rw [norm_leaf h k12 k11 k7, norm_leaf h k12 k11 k7]
termination_by SizeOf.sizeOf t
decreasing_by all_goals exact Tm.lt_of_mem (by simp [hl])
theorem kidsP_aN (t : Tm) (h : okN t = true) : t.kidsP = aN t := by
  unfold Tm.kidsP aN
  by_cases k12 : t.kind = 12
  · obtain ⟨x, y, hl, -⟩ := okN_two h (.inl k12); simp [k12, hl]
  · by_cases k7 : t.kind = 7
    · obtain ⟨x, hl, -⟩ := okN_one h k7; simp [k7, hl]
    · by_cases k11 : t.kind = 11
      · obtain ⟨x, y, hl, -⟩ := okN_two h (.inr k11); simp [k11, hl]
      · simp [k12, k7, k11]
theorem plsL_get (k : Int) (p : List Int) (w : Bool) : ∀ (l : List Tm) (i : Nat) (x : Tm × List Int × Bool), x ∈ Tm.plsL k l p w i → ∃ (j : Nat) (h : j < l.length) (w' : Bool), x ∈ l[j].pls (p ++ [((i + j : Nat) : Int)]) w'
  | [], _, x, hx => by simp [Tm.plsL] at hx
  | y :: l, i, x, hx => by
    simp only [Tm.plsL, List.mem_append] at hx
    rcases hx with hx | hx
    · exact ⟨0, by simp, _, by simpa using hx⟩
    · obtain ⟨j, hj, w', h⟩ := plsL_get k p w l (i + 1) x hx
      refine ⟨j + 1, by simpa using hj, w', ?_⟩
      simp only [List.getElem_cons_succ]
      rw [show i + (j + 1) = i + 1 + j by omega]
      exact h
theorem pls_fol (t : Tm) (h : okN t = true) (p : List Int) (w : Bool) (x : Tm × List Int × Bool) (hx : x ∈ t.pls p w) : ∃ s, x.2.1 = p ++ s ∧ folw t s = some x.1 := by
  have ih : ∀ y ∈ t.l, ∀ (p : List Int) (w : Bool) (x : Tm × List Int × Bool), x ∈ y.pls p w → ∃ s, x.2.1 = p ++ s ∧ folw y s = some x.1 := fun y hy p w x hx => pls_fol y (okN_mem h y hy) p w x hx
  rw [Tm.pls_eq, List.mem_cons] at hx
  rcases hx with rfl | hx
  · exact ⟨[], by simp, rfl⟩
  · obtain ⟨j, hj, w', hm⟩ := plsL_get _ _ _ _ _ _ hx
    rw [List.length_take, kidsP_aN t h] at hj
    have hl : j < t.l.length := by omega
    rw [List.getElem_take] at hm
    obtain ⟨s, e1, e2⟩ := ih _ (List.getElem_mem hl) _ _ _ hm
    refine ⟨(j : Int) :: s, by rw [e1]; simp, folw_mk j (by omega) hl s e2⟩
termination_by SizeOf.sizeOf t
decreasing_by exact Tm.lt_of_mem hy
structure PlOk (n : Tm) (s : Stp3) (x : Tm) : Prop where
  fol : folw n s.2.1 = some x
  kind : x.kind = s.1
  leaf : aN x = 0
  k0 : s.1 ≠ 0
  k14 : s.1 ≠ 14
  a0 : 0 ≤ s.2.2
  a1 : s.2.2 ≤ 1
  ch : s.2.2 = 1 → s.1 = 10
theorem places_ok (n : Tm) (h : okN n = true) (s : Stp3) (hs : s ∈ n.enabledN) : ∃ x, PlOk n s x := by
  unfold Tm.enabledN at hs
  obtain ⟨x, hx, hs⟩ := List.mem_flatMap.1 hs
  obtain ⟨p, e1, e2⟩ := pls_fol n h _ _ _ hx
  rw [List.nil_append] at e1
  unfold stepsAt stp at hs
  obtain ⟨a, ha, rfl⟩ := List.mem_map.1 hs
  have ha := List.mem_range.1 ha
  have h2 := stpN_le x
  refine ⟨x.1, by simp only; rw [e1]; exact e2, rfl, ?_, ?_, ?_, by simp only; omega, by simp only; omega, ?_⟩
  · unfold stpN at ha
    unfold aN
    split at ha
    · omega
    · rename_i hk
      rw [if_neg (by omega), if_neg (by omega)]
  · intro e; simp only at e; unfold stpN at ha; rw [if_pos (.inl e)] at ha; omega
  · intro e; simp only at e; unfold stpN at ha; rw [if_pos (.inr (.inl e))] at ha; omega
  · intro e
    simp only at e ⊢
    unfold stpN at ha
    split at ha
    · omega
    · split at ha
      · split at ha <;> omega
      · split at ha
        · assumption
        · omega
theorem sp_at7 (t x : Tm) (path : List Int) (h : folw t path = some x) (hp : path.length ≤ 1000000) : Am.Spec Try.prog 25 [.agg (encT t), .sl (encI path)] (.tup [.agg (encT x), .bool true]) := by
  refine Am.Spec.of_W (W := W25) Try.func25 (by kernel_rfl) (by kernel_rfl) (by kernel_rfl) Try.ntmps25 W25_eq (rs := [.cell 4 34, .tmp 5]) (by kernel_rfl) (by simp) ?_
  intro vs
  simp [W25, W25_rs, W25_k1, W25_b2, W25_b3, W25_b11, W25_c4, W25_c5, W25_c6, W25_c7, W25_c8, W25_c9, W25_c10, W25_l12]
  refine sLoop_intro (fun a : Nat × Tm => a.1 ≤ path.length ∧ folw a.2 (path.drop a.1) = some x) (fun a => path.length - a.1) (fun a => [(1, .sl (encI path)), (2, .ref 2 (vs 2 + 1) (.p 0)), (4, .ref 4 (vs 4 + 1) (.p 0)), (6, .int .i64 (a.1 : Nat))])
    (fun a => [(2, .box (vs 2 + 1) 34 (encT a.2)), (4, .box (vs 4 + 1) 34 [.int .i64 0, .int .i64 0, .int .i64 0, .str ⟨#[]⟩, .int .i64 0, .int .i64 0, .str ⟨#[]⟩, .nils, .nils])]) (0, t) (by simpa using h) (by simp) (by simp) ?_
  rintro L ⟨i, c⟩ vt ⟨hi, hf⟩ hL
  simp only at hi hf hL ⊢
  by_cases hc : i < path.length
  · have hc' : (i : Int) < path.length := by omega
    rw [List.drop_eq_getElem_cons hc] at hf
    obtain ⟨n, hn, hna, hnl, hf2⟩ := folw_cons hf
    have hna' : (n : Int) < aN c := by omega
    have hset : setL (encT c) 0 (encT c.l[n]) = encT c.l[n] := setL_whole (by simp)
    have hn0 : ¬ (n : Int) < 0 := by omega
    have hge : ¬ aN c ≤ n := by omega
    simp [W25, W25_rs, W25_k1, W25_b2, W25_b3, W25_b11, W25_c4, W25_c5, W25_c6, W25_c7, W25_c8, W25_c9, W25_c10, W25_l12, hc, hc', hn, hn0]
    refine scall0_pure (sp_a5 c) (by simp) (by simp) ?_
    simp [W25, W25_rs, W25_k1, W25_b2, W25_b3, W25_b11, W25_c4, W25_c5, W25_c6, W25_c7, W25_c8, W25_c9, W25_c10, W25_l12, hc, hn, hna, hna', hge, hnl, hset]
    rw [wrap64 (by omega) (by omega)]
    exact hL _ _ _ (i + 1, c.l[n]) ⟨hc, hf2⟩ (by simp only; omega) (by simp) (by simp)
  · have hc' : ¬ (i : Int) < path.length := by omega
    rw [List.drop_of_length_le (by omega)] at hf
    have hf : c = x := by simpa [folw] using hf
    simp [W25, W25_rs, W25_k1, W25_b2, W25_b3, W25_b11, W25_c4, W25_c5, W25_c6, W25_c7, W25_c8, W25_c9, W25_c10, W25_l12, hc, hc', retW_eq, hf]
theorem plc_in (n : Tm) (l : List Stp3) (i : Nat) (hi : i < l.length) (hl : l.length ≤ 100000) (hp : ∀ x ∈ l, x.2.1.length ≤ 100000) (ho : ∀ k (h : k < i), ordR (l[k]'(by omega)) l[i]) (v5 : Nat) (Φ : Exit → St → Prop) (L : St → Prop)
    (hL : ∀ T H vs, Am.subT T [(5, .ref 5 v5 (.p 0)), (6, .sl (l.map encS)), (7, .int .i64 (i + 1 : Nat))] → subA H [(5, .box v5 34 (encT n))] → L ⟨Am.look T, hls H vs, noG⟩)
    (T : List (Nat × AV)) (H : List (Nat × Blk)) (vs : Nat → Nat) (hT : Am.subT T [(5, .ref 5 v5 (.p 0)), (6, .sl (l.map encS)), (7, .int .i64 (i : Nat)), (10, .int .i64 0)]) (hH : subA H [(5, .box v5 34 (encT n))]) :
    @sLoop ⟨Am.look T, hls H vs, noG⟩ ⟨fun L1 s => W3_l21 Try.prog Φ L L1 s⟩ := by
  refine sLoop_intro (fun k => k ≤ i) (fun k => i - k) (fun k => [(5, .ref 5 v5 (.p 0)), (6, .sl (l.map encS)), (7, .int .i64 (i : Nat)), (10, .int .i64 (k : Nat))]) (fun _ => [(5, .box v5 34 (encT n))]) 0 (by simp) (by simpa using hT) (by simpa using hH) ?_
  intro K k vt hk hK
  by_cases h : k < i
  · have h' : (k : Int) < i := by omega
    have hk2 : k < l.length := by omega
    have hr := ho k h
    have hpk := hp _ (List.getElem_mem hk2)
    obtain ⟨a, ha⟩ : ∃ a, l[k] = a := ⟨_, rfl⟩
    obtain ⟨b, hb⟩ : ∃ b, l[i] = b := ⟨_, rfl⟩
    rw [ha] at hpk
    rw [ha, hb] at hr
    have hits := sp_its a.2.1 b.2.1 (by omega)
    rcases hr with ⟨e, e1, e2⟩ | ⟨pre, x, y, r1, s1, e1, e2, hxy⟩
    · rw [decide_eq_true e] at hits
      simp [W3, W3_rs, W3_b1, W3_b2, W3_b5, W3_b6, W3_b7, W3_b20, W3_b22, W3_b64, W3_b69, W3_b71, W3_k3, W3_k4, W3_c8, W3_c9, W3_c10, W3_c11, W3_c12, W3_c13, W3_c14, W3_c15, W3_c16, W3_c17, W3_c18, W3_c19, W3_c23, W3_c24, W3_c25, W3_c26, W3_c27, W3_c28, W3_c29, W3_c30, W3_c31, W3_c32, W3_c33, W3_c34, W3_c35, W3_c36, W3_c37, W3_c38, W3_c39, W3_c40, W3_c41, W3_c42, W3_c43, W3_c44, W3_c45, W3_c46, W3_c47, W3_c48, W3_c49, W3_c50, W3_c51, W3_c52, W3_c53, W3_c54, W3_c55, W3_c56, W3_c57, W3_c58, W3_c59, W3_c60, W3_c61, W3_c62, W3_c63, W3_c66, W3_c67, W3_c68, W3_c70, W3_c72, W3_l21, W3_l65, h, h', hk2, hi, ha, hb]
      refine scall0_pure hits (by simp) (by simp) ?_
      simp [W3, W3_rs, W3_b1, W3_b2, W3_b5, W3_b6, W3_b7, W3_b20, W3_b22, W3_b64, W3_b69, W3_b71, W3_k3, W3_k4, W3_c8, W3_c9, W3_c10, W3_c11, W3_c12, W3_c13, W3_c14, W3_c15, W3_c16, W3_c17, W3_c18, W3_c19, W3_c23, W3_c24, W3_c25, W3_c26, W3_c27, W3_c28, W3_c29, W3_c30, W3_c31, W3_c32, W3_c33, W3_c34, W3_c35, W3_c36, W3_c37, W3_c38, W3_c39, W3_c40, W3_c41, W3_c42, W3_c43, W3_c44, W3_c45, W3_c46, W3_c47, W3_c48, W3_c49, W3_c50, W3_c51, W3_c52, W3_c53, W3_c54, W3_c55, W3_c56, W3_c57, W3_c58, W3_c59, W3_c60, W3_c61, W3_c62, W3_c63, W3_c66, W3_c67, W3_c68, W3_c70, W3_c72, W3_l21, W3_l65, hk2, hi, ha, hb, e1, e2]
      rw [wrap64 (by omega) (by omega)]
      exact hK _ _ _ (k + 1) h (by omega) (by simp) (by simp)
    · have hne : a.2.1 ≠ b.2.1 := by
        rw [e1, e2]
        intro e
        have := List.append_cancel_left e
        simp at this
        omega
      rw [decide_eq_false hne] at hits
      simp [W3, W3_rs, W3_b1, W3_b2, W3_b5, W3_b6, W3_b7, W3_b20, W3_b22, W3_b64, W3_b69, W3_b71, W3_k3, W3_k4, W3_c8, W3_c9, W3_c10, W3_c11, W3_c12, W3_c13, W3_c14, W3_c15, W3_c16, W3_c17, W3_c18, W3_c19, W3_c23, W3_c24, W3_c25, W3_c26, W3_c27, W3_c28, W3_c29, W3_c30, W3_c31, W3_c32, W3_c33, W3_c34, W3_c35, W3_c36, W3_c37, W3_c38, W3_c39, W3_c40, W3_c41, W3_c42, W3_c43, W3_c44, W3_c45, W3_c46, W3_c47, W3_c48, W3_c49, W3_c50, W3_c51, W3_c52, W3_c53, W3_c54, W3_c55, W3_c56, W3_c57, W3_c58, W3_c59, W3_c60, W3_c61, W3_c62, W3_c63, W3_c66, W3_c67, W3_c68, W3_c70, W3_c72, W3_l21, W3_l65, h, h', hk2, hi, ha, hb]
      refine scall0_pure hits (by simp) (by simp) ?_
      simp [W3, W3_rs, W3_b1, W3_b2, W3_b5, W3_b6, W3_b7, W3_b20, W3_b22, W3_b64, W3_b69, W3_b71, W3_k3, W3_k4, W3_c8, W3_c9, W3_c10, W3_c11, W3_c12, W3_c13, W3_c14, W3_c15, W3_c16, W3_c17, W3_c18, W3_c19, W3_c23, W3_c24, W3_c25, W3_c26, W3_c27, W3_c28, W3_c29, W3_c30, W3_c31, W3_c32, W3_c33, W3_c34, W3_c35, W3_c36, W3_c37, W3_c38, W3_c39, W3_c40, W3_c41, W3_c42, W3_c43, W3_c44, W3_c45, W3_c46, W3_c47, W3_c48, W3_c49, W3_c50, W3_c51, W3_c52, W3_c53, W3_c54, W3_c55, W3_c56, W3_c57, W3_c58, W3_c59, W3_c60, W3_c61, W3_c62, W3_c63, W3_c66, W3_c67, W3_c68, W3_c70, W3_c72, W3_l21, W3_l65]
      rw [wrap64 (by omega) (by omega)]
      exact hK _ _ _ (k + 1) h (by omega) (by simp) (by simp)
  · have h' : ¬ (k : Int) < i := by omega
    simp [W3, W3_rs, W3_b1, W3_b2, W3_b5, W3_b6, W3_b7, W3_b20, W3_b22, W3_b64, W3_b69, W3_b71, W3_k3, W3_k4, W3_c8, W3_c9, W3_c10, W3_c11, W3_c12, W3_c13, W3_c14, W3_c15, W3_c16, W3_c17, W3_c18, W3_c19, W3_c23, W3_c24, W3_c25, W3_c26, W3_c27, W3_c28, W3_c29, W3_c30, W3_c31, W3_c32, W3_c33, W3_c34, W3_c35, W3_c36, W3_c37, W3_c38, W3_c39, W3_c40, W3_c41, W3_c42, W3_c43, W3_c44, W3_c45, W3_c46, W3_c47, W3_c48, W3_c49, W3_c50, W3_c51, W3_c52, W3_c53, W3_c54, W3_c55, W3_c56, W3_c57, W3_c58, W3_c59, W3_c60, W3_c61, W3_c62, W3_c63, W3_c66, W3_c67, W3_c68, W3_c70, W3_c72, W3_l21, W3_l65, h, h']
    rw [wrap64 (by omega) (by omega)]
    exact hL _ _ _ (by simp) (by simp)
theorem plc_go (r : Rw3) (w : Int) (t n : Tm) (l : List Stp3) (hfew : Am.Spec Try.prog 21 [.agg [.int .i64 0, .int .i64 0, .sl ([r].map encR3)]] (.bool true)) (hmk : Am.Spec Try.prog 23 [.agg (encR3 r), .int .i64 w] (.agg (encT t)))
    (hn : Am.Spec Try.prog 22 [.agg (encT t)] (.agg (encT n))) (hen : Am.Spec Try.prog 24 [.agg (encT n)] (.sl (l.map encS))) (hl : l.length ≤ 100000) (hp : ∀ x ∈ l, x.2.1.length ≤ 100000) (ho : l.Pairwise ordR) (hok : ∀ s ∈ l, ∃ x, PlOk n s x) :
    Am.Spec Try.prog 3 [.agg (encR3 r), .int .i64 w] (.bool true) := by
  refine Am.Spec.of_W (W := W3) Try.func3 (by kernel_rfl) (by kernel_rfl) (by kernel_rfl) Try.ntmps3 W3_eq (rs := [.tmp 4]) (by kernel_rfl) (by simp) ?_
  intro vs
  simp [W3, W3_rs, W3_b1, W3_b2, W3_b5, W3_b6, W3_b7, W3_b20, W3_b22, W3_b64, W3_b69, W3_b71, W3_k3, W3_k4, W3_c8, W3_c9, W3_c10, W3_c11, W3_c12, W3_c13, W3_c14, W3_c15, W3_c16, W3_c17, W3_c18, W3_c19, W3_c23, W3_c24, W3_c25, W3_c26, W3_c27, W3_c28, W3_c29, W3_c30, W3_c31, W3_c32, W3_c33, W3_c34, W3_c35, W3_c36, W3_c37, W3_c38, W3_c39, W3_c40, W3_c41, W3_c42, W3_c43, W3_c44, W3_c45, W3_c46, W3_c47, W3_c48, W3_c49, W3_c50, W3_c51, W3_c52, W3_c53, W3_c54, W3_c55, W3_c56, W3_c57, W3_c58, W3_c59, W3_c60, W3_c61, W3_c62, W3_c63, W3_c66, W3_c67, W3_c68, W3_c70, W3_c72, W3_l21, W3_l65]
  refine scall_pure sp_kno (by simp) (by simp) ?_
  simp [W3, W3_rs, W3_b1, W3_b2, W3_b5, W3_b6, W3_b7, W3_b20, W3_b22, W3_b64, W3_b69, W3_b71, W3_k3, W3_k4, W3_c8, W3_c9, W3_c10, W3_c11, W3_c12, W3_c13, W3_c14, W3_c15, W3_c16, W3_c17, W3_c18, W3_c19, W3_c23, W3_c24, W3_c25, W3_c26, W3_c27, W3_c28, W3_c29, W3_c30, W3_c31, W3_c32, W3_c33, W3_c34, W3_c35, W3_c36, W3_c37, W3_c38, W3_c39, W3_c40, W3_c41, W3_c42, W3_c43, W3_c44, W3_c45, W3_c46, W3_c47, W3_c48, W3_c49, W3_c50, W3_c51, W3_c52, W3_c53, W3_c54, W3_c55, W3_c56, W3_c57, W3_c58, W3_c59, W3_c60, W3_c61, W3_c62, W3_c63, W3_c66, W3_c67, W3_c68, W3_c70, W3_c72, W3_l21, W3_l65]
  refine scall_pure hfew (by simp) (by simp) ?_
  simp [W3, W3_rs, W3_b1, W3_b2, W3_b5, W3_b6, W3_b7, W3_b20, W3_b22, W3_b64, W3_b69, W3_b71, W3_k3, W3_k4, W3_c8, W3_c9, W3_c10, W3_c11, W3_c12, W3_c13, W3_c14, W3_c15, W3_c16, W3_c17, W3_c18, W3_c19, W3_c23, W3_c24, W3_c25, W3_c26, W3_c27, W3_c28, W3_c29, W3_c30, W3_c31, W3_c32, W3_c33, W3_c34, W3_c35, W3_c36, W3_c37, W3_c38, W3_c39, W3_c40, W3_c41, W3_c42, W3_c43, W3_c44, W3_c45, W3_c46, W3_c47, W3_c48, W3_c49, W3_c50, W3_c51, W3_c52, W3_c53, W3_c54, W3_c55, W3_c56, W3_c57, W3_c58, W3_c59, W3_c60, W3_c61, W3_c62, W3_c63, W3_c66, W3_c67, W3_c68, W3_c70, W3_c72, W3_l21, W3_l65]
  refine scall_pure hmk (by simp) (by simp) ?_
  simp [W3, W3_rs, W3_b1, W3_b2, W3_b5, W3_b6, W3_b7, W3_b20, W3_b22, W3_b64, W3_b69, W3_b71, W3_k3, W3_k4, W3_c8, W3_c9, W3_c10, W3_c11, W3_c12, W3_c13, W3_c14, W3_c15, W3_c16, W3_c17, W3_c18, W3_c19, W3_c23, W3_c24, W3_c25, W3_c26, W3_c27, W3_c28, W3_c29, W3_c30, W3_c31, W3_c32, W3_c33, W3_c34, W3_c35, W3_c36, W3_c37, W3_c38, W3_c39, W3_c40, W3_c41, W3_c42, W3_c43, W3_c44, W3_c45, W3_c46, W3_c47, W3_c48, W3_c49, W3_c50, W3_c51, W3_c52, W3_c53, W3_c54, W3_c55, W3_c56, W3_c57, W3_c58, W3_c59, W3_c60, W3_c61, W3_c62, W3_c63, W3_c66, W3_c67, W3_c68, W3_c70, W3_c72, W3_l21, W3_l65]
  refine scall_pure hn (by simp) (by simp) ?_
  simp [W3, W3_rs, W3_b1, W3_b2, W3_b5, W3_b6, W3_b7, W3_b20, W3_b22, W3_b64, W3_b69, W3_b71, W3_k3, W3_k4, W3_c8, W3_c9, W3_c10, W3_c11, W3_c12, W3_c13, W3_c14, W3_c15, W3_c16, W3_c17, W3_c18, W3_c19, W3_c23, W3_c24, W3_c25, W3_c26, W3_c27, W3_c28, W3_c29, W3_c30, W3_c31, W3_c32, W3_c33, W3_c34, W3_c35, W3_c36, W3_c37, W3_c38, W3_c39, W3_c40, W3_c41, W3_c42, W3_c43, W3_c44, W3_c45, W3_c46, W3_c47, W3_c48, W3_c49, W3_c50, W3_c51, W3_c52, W3_c53, W3_c54, W3_c55, W3_c56, W3_c57, W3_c58, W3_c59, W3_c60, W3_c61, W3_c62, W3_c63, W3_c66, W3_c67, W3_c68, W3_c70, W3_c72, W3_l21, W3_l65]
  refine scall_pure hen (by simp) (by simp) ?_
  simp [W3, W3_rs, W3_b1, W3_b2, W3_b5, W3_b6, W3_b7, W3_b20, W3_b22, W3_b64, W3_b69, W3_b71, W3_k3, W3_k4, W3_c8, W3_c9, W3_c10, W3_c11, W3_c12, W3_c13, W3_c14, W3_c15, W3_c16, W3_c17, W3_c18, W3_c19, W3_c23, W3_c24, W3_c25, W3_c26, W3_c27, W3_c28, W3_c29, W3_c30, W3_c31, W3_c32, W3_c33, W3_c34, W3_c35, W3_c36, W3_c37, W3_c38, W3_c39, W3_c40, W3_c41, W3_c42, W3_c43, W3_c44, W3_c45, W3_c46, W3_c47, W3_c48, W3_c49, W3_c50, W3_c51, W3_c52, W3_c53, W3_c54, W3_c55, W3_c56, W3_c57, W3_c58, W3_c59, W3_c60, W3_c61, W3_c62, W3_c63, W3_c66, W3_c67, W3_c68, W3_c70, W3_c72, W3_l21]
  refine sLoop_intro (fun i => i ≤ l.length) (fun i => l.length - i) (fun i => [(5, .ref 5 (vs 5 + 1) (.p 0)), (6, .sl (l.map encS)), (7, .int .i64 (i : Nat))]) (fun _ => [(5, .box (vs 5 + 1) 34 (encT n))]) 0 (by simp) (by simp) (by simp) ?_
  intro L i vt hi hL
  by_cases h : i < l.length
  · have h' : (i : Int) < l.length := by omega
    obtain ⟨x, hx⟩ := hok _ (List.getElem_mem h)
    have hpi := hp _ (List.getElem_mem h)
    have ho' : ∀ k (hk : k < i), ordR (l[k]'(by omega)) l[i] := fun k hk => List.pairwise_iff_getElem.1 ho k i (by omega) h hk
    have hin := fun Φ => plc_in n l i h hl hp ho' (vs 5 + 1) Φ L (fun T H vs h1 h2 => hL T H vs (i + 1) h (by omega) h1 h2)
    obtain ⟨s, hs⟩ : ∃ s, l[i] = s := ⟨_, rfl⟩
    rw [hs] at hx hpi
    obtain ⟨f1, f2, f3, f4, f5, f6, f7, f8⟩ := hx
    have hat := sp_at7 n x s.2.1 f1 (by omega)
    have ha5 := sp_a5 x
    rw [f3] at ha5
    have f4' : ¬ x.kind = 0 := by rw [f2]; exact f4
    have f5' : ¬ x.kind = 14 := by rw [f2]; exact f5
    have f6' : ¬ s.2.2 < 0 := by omega
    have f7' : ¬ 1 < s.2.2 := by omega
    by_cases hc : s.2.2 = 1
    · have f8' : s.1 = 10 := f8 hc
      simp [W3, W3_rs, W3_b1, W3_b2, W3_b5, W3_b6, W3_b7, W3_b20, W3_b22, W3_b64, W3_b69, W3_b71, W3_k3, W3_k4, W3_c8, W3_c9, W3_c10, W3_c11, W3_c12, W3_c13, W3_c14, W3_c15, W3_c16, W3_c17, W3_c18, W3_c19, W3_c23, W3_c24, W3_c25, W3_c26, W3_c27, W3_c28, W3_c29, W3_c30, W3_c31, W3_c32, W3_c33, W3_c34, W3_c35, W3_c36, W3_c37, W3_c38, W3_c39, W3_c40, W3_c41, W3_c42, W3_c43, W3_c44, W3_c45, W3_c46, W3_c47, W3_c48, W3_c49, W3_c50, W3_c51, W3_c52, W3_c53, W3_c54, W3_c55, W3_c56, W3_c57, W3_c58, W3_c59, W3_c60, W3_c61, W3_c62, W3_c63, W3_c66, W3_c67, W3_c68, W3_c70, W3_c72, W3_l65, h, h', hs]
      refine scall0_pure hat (by simp) (by simp) ?_
      simp [W3, W3_rs, W3_b1, W3_b2, W3_b5, W3_b6, W3_b7, W3_b20, W3_b22, W3_b64, W3_b69, W3_b71, W3_k3, W3_k4, W3_c8, W3_c9, W3_c10, W3_c11, W3_c12, W3_c13, W3_c14, W3_c15, W3_c16, W3_c17, W3_c18, W3_c19, W3_c23, W3_c24, W3_c25, W3_c26, W3_c27, W3_c28, W3_c29, W3_c30, W3_c31, W3_c32, W3_c33, W3_c34, W3_c35, W3_c36, W3_c37, W3_c38, W3_c39, W3_c40, W3_c41, W3_c42, W3_c43, W3_c44, W3_c45, W3_c46, W3_c47, W3_c48, W3_c49, W3_c50, W3_c51, W3_c52, W3_c53, W3_c54, W3_c55, W3_c56, W3_c57, W3_c58, W3_c59, W3_c60, W3_c61, W3_c62, W3_c63, W3_c66, W3_c67, W3_c68, W3_c70, W3_c72, W3_l65, h, hs, f2]
      refine scall0_pure ha5 (by simp) (by simp) ?_
      simp [W3, W3_rs, W3_b1, W3_b2, W3_b5, W3_b6, W3_b7, W3_b20, W3_b22, W3_b64, W3_b69, W3_b71, W3_k3, W3_k4, W3_c8, W3_c9, W3_c10, W3_c11, W3_c12, W3_c13, W3_c14, W3_c15, W3_c16, W3_c17, W3_c18, W3_c19, W3_c23, W3_c24, W3_c25, W3_c26, W3_c27, W3_c28, W3_c29, W3_c30, W3_c31, W3_c32, W3_c33, W3_c34, W3_c35, W3_c36, W3_c37, W3_c38, W3_c39, W3_c40, W3_c41, W3_c42, W3_c43, W3_c44, W3_c45, W3_c46, W3_c47, W3_c48, W3_c49, W3_c50, W3_c51, W3_c52, W3_c53, W3_c54, W3_c55, W3_c56, W3_c57, W3_c58, W3_c59, W3_c60, W3_c61, W3_c62, W3_c63, W3_c66, W3_c67, W3_c68, W3_c70, W3_c72, W3_l65, h, hs, f2, f4, f5, f6', f7', hc, f8']
      exact hin _ _ _ _ (by simp) (by simp)
    · simp [W3, W3_rs, W3_b1, W3_b2, W3_b5, W3_b6, W3_b7, W3_b20, W3_b22, W3_b64, W3_b69, W3_b71, W3_k3, W3_k4, W3_c8, W3_c9, W3_c10, W3_c11, W3_c12, W3_c13, W3_c14, W3_c15, W3_c16, W3_c17, W3_c18, W3_c19, W3_c23, W3_c24, W3_c25, W3_c26, W3_c27, W3_c28, W3_c29, W3_c30, W3_c31, W3_c32, W3_c33, W3_c34, W3_c35, W3_c36, W3_c37, W3_c38, W3_c39, W3_c40, W3_c41, W3_c42, W3_c43, W3_c44, W3_c45, W3_c46, W3_c47, W3_c48, W3_c49, W3_c50, W3_c51, W3_c52, W3_c53, W3_c54, W3_c55, W3_c56, W3_c57, W3_c58, W3_c59, W3_c60, W3_c61, W3_c62, W3_c63, W3_c66, W3_c67, W3_c68, W3_c70, W3_c72, W3_l65, h, h', hs]
      refine scall0_pure hat (by simp) (by simp) ?_
      simp [W3, W3_rs, W3_b1, W3_b2, W3_b5, W3_b6, W3_b7, W3_b20, W3_b22, W3_b64, W3_b69, W3_b71, W3_k3, W3_k4, W3_c8, W3_c9, W3_c10, W3_c11, W3_c12, W3_c13, W3_c14, W3_c15, W3_c16, W3_c17, W3_c18, W3_c19, W3_c23, W3_c24, W3_c25, W3_c26, W3_c27, W3_c28, W3_c29, W3_c30, W3_c31, W3_c32, W3_c33, W3_c34, W3_c35, W3_c36, W3_c37, W3_c38, W3_c39, W3_c40, W3_c41, W3_c42, W3_c43, W3_c44, W3_c45, W3_c46, W3_c47, W3_c48, W3_c49, W3_c50, W3_c51, W3_c52, W3_c53, W3_c54, W3_c55, W3_c56, W3_c57, W3_c58, W3_c59, W3_c60, W3_c61, W3_c62, W3_c63, W3_c66, W3_c67, W3_c68, W3_c70, W3_c72, W3_l65, h, hs, f2]
      refine scall0_pure ha5 (by simp) (by simp) ?_
      simp [W3, W3_rs, W3_b1, W3_b2, W3_b5, W3_b6, W3_b7, W3_b20, W3_b22, W3_b64, W3_b69, W3_b71, W3_k3, W3_k4, W3_c8, W3_c9, W3_c10, W3_c11, W3_c12, W3_c13, W3_c14, W3_c15, W3_c16, W3_c17, W3_c18, W3_c19, W3_c23, W3_c24, W3_c25, W3_c26, W3_c27, W3_c28, W3_c29, W3_c30, W3_c31, W3_c32, W3_c33, W3_c34, W3_c35, W3_c36, W3_c37, W3_c38, W3_c39, W3_c40, W3_c41, W3_c42, W3_c43, W3_c44, W3_c45, W3_c46, W3_c47, W3_c48, W3_c49, W3_c50, W3_c51, W3_c52, W3_c53, W3_c54, W3_c55, W3_c56, W3_c57, W3_c58, W3_c59, W3_c60, W3_c61, W3_c62, W3_c63, W3_c66, W3_c67, W3_c68, W3_c70, W3_c72, W3_l65, h, hs, f2, f4, f5, f6', f7', hc]
      exact hin _ _ _ _ (by simp) (by simp)
  · have h' : ¬ (i : Int) < l.length := by omega
    simp [W3, W3_rs, W3_b1, W3_b2, W3_b5, W3_b6, W3_b7, W3_b20, W3_b22, W3_b64, W3_b69, W3_b71, W3_k3, W3_k4, W3_c8, W3_c9, W3_c10, W3_c11, W3_c12, W3_c13, W3_c14, W3_c15, W3_c16, W3_c17, W3_c18, W3_c19, W3_c23, W3_c24, W3_c25, W3_c26, W3_c27, W3_c28, W3_c29, W3_c30, W3_c31, W3_c32, W3_c33, W3_c34, W3_c35, W3_c36, W3_c37, W3_c38, W3_c39, W3_c40, W3_c41, W3_c42, W3_c43, W3_c44, W3_c45, W3_c46, W3_c47, W3_c48, W3_c49, W3_c50, W3_c51, W3_c52, W3_c53, W3_c54, W3_c55, W3_c56, W3_c57, W3_c58, W3_c59, W3_c60, W3_c61, W3_c62, W3_c63, W3_c66, W3_c67, W3_c68, W3_c70, W3_c72, W3_l21, W3_l65, h, h', retW_eq]
theorem sp_plc (r : Rw3) (w : Int) : Am.Spec Try.prog 3 [.agg (encR3 r), .int .i64 w] (.bool true) := by
  have hfew := sp_fw3 (.int .i64 0) (.int .i64 0) [r] (by simp [maxLen]) (by simp [closed]) (by simp [closed])
  rw [few_one] at hfew
  by_cases h : r.sz 0 ≤ 40
  · rw [decide_eq_true h] at hfew
    have hwt := mkT_wt r w h
    have hnw := (mkT r w).norm_wt
    have hok := okN_mk r w
    have hb := enabled_bound (mkT r w).norm (by omega)
    refine plc_go r w (mkT r w) (mkT r w).norm _ hfew (sp_mkT r w h) (sp_n5 _ hok) (sp_enb _ (by omega)) hb.1 hb.2 (enabled_pair _) fun s hs => ?_
    unfold Tm.enabled at hs
    rw [norm_norm _ hok] at hs
    exact places_ok _ (okN_norm _ hok) s hs
  · rw [decide_eq_false h] at hfew
    refine Am.Spec.of_W (W := W3) Try.func3 (by kernel_rfl) (by kernel_rfl) (by kernel_rfl) Try.ntmps3 W3_eq (rs := [.tmp 4]) (by kernel_rfl) (by simp) ?_
    intro vs
    simp [W3, W3_rs, W3_b1, W3_b2, W3_b5, W3_b6, W3_b7, W3_b20, W3_b22, W3_b64, W3_b69, W3_b71, W3_k3, W3_k4, W3_c8, W3_c9, W3_c10, W3_c11, W3_c12, W3_c13, W3_c14, W3_c15, W3_c16, W3_c17, W3_c18, W3_c19, W3_c23, W3_c24, W3_c25, W3_c26, W3_c27, W3_c28, W3_c29, W3_c30, W3_c31, W3_c32, W3_c33, W3_c34, W3_c35, W3_c36, W3_c37, W3_c38, W3_c39, W3_c40, W3_c41, W3_c42, W3_c43, W3_c44, W3_c45, W3_c46, W3_c47, W3_c48, W3_c49, W3_c50, W3_c51, W3_c52, W3_c53, W3_c54, W3_c55, W3_c56, W3_c57, W3_c58, W3_c59, W3_c60, W3_c61, W3_c62, W3_c63, W3_c66, W3_c67, W3_c68, W3_c70, W3_c72, W3_l21, W3_l65]
    refine scall_pure sp_kno (by simp) (by simp) ?_
    simp [W3, W3_rs, W3_b1, W3_b2, W3_b5, W3_b6, W3_b7, W3_b20, W3_b22, W3_b64, W3_b69, W3_b71, W3_k3, W3_k4, W3_c8, W3_c9, W3_c10, W3_c11, W3_c12, W3_c13, W3_c14, W3_c15, W3_c16, W3_c17, W3_c18, W3_c19, W3_c23, W3_c24, W3_c25, W3_c26, W3_c27, W3_c28, W3_c29, W3_c30, W3_c31, W3_c32, W3_c33, W3_c34, W3_c35, W3_c36, W3_c37, W3_c38, W3_c39, W3_c40, W3_c41, W3_c42, W3_c43, W3_c44, W3_c45, W3_c46, W3_c47, W3_c48, W3_c49, W3_c50, W3_c51, W3_c52, W3_c53, W3_c54, W3_c55, W3_c56, W3_c57, W3_c58, W3_c59, W3_c60, W3_c61, W3_c62, W3_c63, W3_c66, W3_c67, W3_c68, W3_c70, W3_c72, W3_l21, W3_l65]
    refine scall_pure hfew (by simp) (by simp) ?_
    simp [W3, W3_rs, W3_b1, W3_b2, W3_b5, W3_b6, W3_b7, W3_b20, W3_b22, W3_b64, W3_b69, W3_b71, W3_k3, W3_k4, W3_c8, W3_c9, W3_c10, W3_c11, W3_c12, W3_c13, W3_c14, W3_c15, W3_c16, W3_c17, W3_c18, W3_c19, W3_c23, W3_c24, W3_c25, W3_c26, W3_c27, W3_c28, W3_c29, W3_c30, W3_c31, W3_c32, W3_c33, W3_c34, W3_c35, W3_c36, W3_c37, W3_c38, W3_c39, W3_c40, W3_c41, W3_c42, W3_c43, W3_c44, W3_c45, W3_c46, W3_c47, W3_c48, W3_c49, W3_c50, W3_c51, W3_c52, W3_c53, W3_c54, W3_c55, W3_c56, W3_c57, W3_c58, W3_c59, W3_c60, W3_c61, W3_c62, W3_c63, W3_c66, W3_c67, W3_c68, W3_c70, W3_c72, W3_l21, W3_l65, retW_eq]
end Go.Proofs.Ytkagfenchknjjaa
