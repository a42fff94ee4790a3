import Derived.Test.YtkagfenchknjjaaGD15
set_option linter.unusedVariables false
set_option linter.unusedSimpArgs false
namespace Go.Proofs.Ytkagfenchknjjaa
open Go Go.Am Go.RowKit

/-! Rows, pairs have two parts, blocks one. -/
mutual
def okN : Tm → Bool
  | ⟨k, _, _, _, _, l⟩ => (!(decide (k = 12) || decide (k = 11)) || decide (l.length = 2)) && ((!decide (k = 7) || decide (l.length = 1)) && okNs l)
def okNs : List Tm → Bool
  | [] => true
  | x :: l => okN x && okNs l
end
theorem okN_eq (t : Tm) : okN t = ((!(decide (t.kind = 12) || decide (t.kind = 11)) || decide (t.l.length = 2)) && ((!decide (t.kind = 7) || decide (t.l.length = 1)) && okNs t.l)) := by cases t; rfl
theorem okNs_mem : ∀ {l : List Tm}, okNs l = true → ∀ x ∈ l, okN x = true
  | y :: l, h, x, hx => by
    simp only [okNs, Bool.and_eq_true] at h
    rcases List.mem_cons.1 hx with rfl | hx
    · exact h.1
    · exact okNs_mem h.2 x hx
theorem okN_two {t : Tm} (h : okN t = true) (hk : t.kind = 12 ∨ t.kind = 11) : ∃ x y, t.l = [x, y] ∧ okN x = true ∧ okN y = true := by
  rw [okN_eq] at h
  have hl : t.l.length = 2 := by rcases hk with hk | hk <;> simp [hk] at h <;> exact h.1
  have hm : okNs t.l = true := by simp at h; exact h.2.2
  rcases hh : t.l with _ | ⟨x, _ | ⟨y, _ | ⟨z, l⟩⟩⟩ <;> simp [hh] at hl
  rw [hh] at hm
  exact ⟨x, y, rfl, okNs_mem hm x (by simp), okNs_mem hm y (by simp)⟩
theorem okN_one {t : Tm} (h : okN t = true) (hk : t.kind = 7) : ∃ x, t.l = [x] ∧ okN x = true := by
  rw [okN_eq] at h
  have hl : t.l.length = 1 := by simp [hk] at h; exact h.1
  have hm : okNs t.l = true := by simp at h; exact h.2.2
  rcases hh : t.l with _ | ⟨x, _ | ⟨y, l⟩⟩ <;> simp [hh] at hl
  rw [hh] at hm
  exact ⟨x, rfl, okNs_mem hm x (by simp)⟩
theorem norm_leaf {t : Tm} (h : okN t = true) (h1 : t.kind ≠ 12) (h2 : t.kind ≠ 11) (h3 : t.kind ≠ 7) : t.norm = t := by
  rcases hh : t.l with _ | ⟨x, _ | ⟨y, _ | ⟨z, l⟩⟩⟩
  · exact Tm.norm_else (by simp [hh]) (by simp [hh])
  · rw [Tm.norm_one hh, if_neg h3]
  · rw [Tm.norm_two hh, if_neg h1, if_neg h2]
  · exact Tm.norm_else (by simp [hh]) (by simp [hh])
theorem sp_n5 (t : Tm) (h : okN t = true) : Am.Spec Try.prog 22 [.agg (encT t)] (.agg (encT t.norm)) := by
  by_cases k12 : t.kind = 12
  · obtain ⟨x, y, hl, hx, hy⟩ := okN_two h (.inl k12)
    have ix := sp_n5 x hx
    have iy := sp_n5 y hy
    rw [Tm.norm_two hl, if_pos k12]
    by_cases h0 : x.norm.kind = 0
    · rw [if_pos h0]
      refine Am.Spec.of_W (W := W22) Try.func22 (by kernel_rfl) (by kernel_rfl) (by kernel_rfl) Try.ntmps22 W22_eq (rs := [.cell 2 34]) (by kernel_rfl) (by simp) ?_
      intro vs
      simp [W22, W22_rs, W22_c1, W22_c4, W22_c8, W22_c9, W22_c10, W22_c11, W22_c12, W22_c16, W22_b2, W22_b3, W22_b5, W22_b6, W22_b7, W22_b13, W22_b14, W22_b15, W22_b17, W22_b18, W22_b19, W22_b20, k12, hl]
      refine scall_pure ix (by simp) (by simp) ?_
      simp [W22, W22_rs, W22_c1, W22_c4, W22_c8, W22_c9, W22_c10, W22_c11, W22_c12, W22_c16, W22_b2, W22_b3, W22_b5, W22_b6, W22_b7, W22_b13, W22_b14, W22_b15, W22_b17, W22_b18, W22_b19, W22_b20, h0, hl]
      refine scall_pure iy (by simp) (by simp) ?_
      simp [W22, W22_rs, W22_c1, W22_c4, W22_c8, W22_c9, W22_c10, W22_c11, W22_c12, W22_c16, W22_b2, W22_b3, W22_b5, W22_b6, W22_b7, W22_b13, W22_b14, W22_b15, W22_b17, W22_b18, W22_b19, W22_b20, retW_eq]
    · rw [if_neg h0]
      refine Am.Spec.of_W (W := W22) Try.func22 (by kernel_rfl) (by kernel_rfl) (by kernel_rfl) Try.ntmps22 W22_eq (rs := [.cell 2 34]) (by kernel_rfl) (by simp) ?_
      intro vs
      simp [W22, W22_rs, W22_c1, W22_c4, W22_c8, W22_c9, W22_c10, W22_c11, W22_c12, W22_c16, W22_b2, W22_b3, W22_b5, W22_b6, W22_b7, W22_b13, W22_b14, W22_b15, W22_b17, W22_b18, W22_b19, W22_b20, k12, hl]
      refine scall_pure ix (by simp) (by simp) ?_
      simp [W22, W22_rs, W22_c1, W22_c4, W22_c8, W22_c9, W22_c10, W22_c11, W22_c12, W22_c16, W22_b2, W22_b3, W22_b5, W22_b6, W22_b7, W22_b13, W22_b14, W22_b15, W22_b17, W22_b18, W22_b19, W22_b20, h0, hl, retW_eq, encT_of]
  · by_cases k11 : t.kind = 11
    · obtain ⟨x, y, hl, hx, hy⟩ := okN_two h (.inr k11)
      have ix := sp_n5 x hx
      have iy := sp_n5 y hy
      rw [Tm.norm_two hl, if_neg k12, if_pos k11]
      by_cases h0 : x.norm.kind = 0
      · by_cases h1 : y.norm.kind = 0
        · rw [if_pos ⟨h0, h1⟩]
          refine Am.Spec.of_W (W := W22) Try.func22 (by kernel_rfl) (by kernel_rfl) (by kernel_rfl) Try.ntmps22 W22_eq (rs := [.cell 2 34]) (by kernel_rfl) (by simp) ?_
          intro vs
          simp [W22, W22_rs, W22_c1, W22_c4, W22_c8, W22_c9, W22_c10, W22_c11, W22_c12, W22_c16, W22_b2, W22_b3, W22_b5, W22_b6, W22_b7, W22_b13, W22_b14, W22_b15, W22_b17, W22_b18, W22_b19, W22_b20, k11, hl]
          refine scall0_pure ix (by simp) (by simp) ?_
          simp [W22, W22_rs, W22_c1, W22_c4, W22_c8, W22_c9, W22_c10, W22_c11, W22_c12, W22_c16, W22_b2, W22_b3, W22_b5, W22_b6, W22_b7, W22_b13, W22_b14, W22_b15, W22_b17, W22_b18, W22_b19, W22_b20, hl]
          refine scall0_pure iy (by simp) (by simp) ?_
          simp [W22, W22_rs, W22_c1, W22_c4, W22_c8, W22_c9, W22_c10, W22_c11, W22_c12, W22_c16, W22_b2, W22_b3, W22_b5, W22_b6, W22_b7, W22_b13, W22_b14, W22_b15, W22_b17, W22_b18, W22_b19, W22_b20, h0, h1, hl, retW_eq, encT_skip]
        · rw [if_neg fun e => h1 e.2]
          refine Am.Spec.of_W (W := W22) Try.func22 (by kernel_rfl) (by kernel_rfl) (by kernel_rfl) Try.ntmps22 W22_eq (rs := [.cell 2 34]) (by kernel_rfl) (by simp) ?_
          intro vs
          simp [W22, W22_rs, W22_c1, W22_c4, W22_c8, W22_c9, W22_c10, W22_c11, W22_c12, W22_c16, W22_b2, W22_b3, W22_b5, W22_b6, W22_b7, W22_b13, W22_b14, W22_b15, W22_b17, W22_b18, W22_b19, W22_b20, k11, hl]
          refine scall0_pure ix (by simp) (by simp) ?_
          simp [W22, W22_rs, W22_c1, W22_c4, W22_c8, W22_c9, W22_c10, W22_c11, W22_c12, W22_c16, W22_b2, W22_b3, W22_b5, W22_b6, W22_b7, W22_b13, W22_b14, W22_b15, W22_b17, W22_b18, W22_b19, W22_b20, hl]
          refine scall0_pure iy (by simp) (by simp) ?_
          simp [W22, W22_rs, W22_c1, W22_c4, W22_c8, W22_c9, W22_c10, W22_c11, W22_c12, W22_c16, W22_b2, W22_b3, W22_b5, W22_b6, W22_b7, W22_b13, W22_b14, W22_b15, W22_b17, W22_b18, W22_b19, W22_b20, h0, h1, hl, retW_eq, encT_of]
      · rw [if_neg fun e => h0 e.1]
        refine Am.Spec.of_W (W := W22) Try.func22 (by kernel_rfl) (by kernel_rfl) (by kernel_rfl) Try.ntmps22 W22_eq (rs := [.cell 2 34]) (by kernel_rfl) (by simp) ?_
        intro vs
        simp [W22, W22_rs, W22_c1, W22_c4, W22_c8, W22_c9, W22_c10, W22_c11, W22_c12, W22_c16, W22_b2, W22_b3, W22_b5, W22_b6, W22_b7, W22_b13, W22_b14, W22_b15, W22_b17, W22_b18, W22_b19, W22_b20, k11, hl]
        refine scall0_pure ix (by simp) (by simp) ?_
        simp [W22, W22_rs, W22_c1, W22_c4, W22_c8, W22_c9, W22_c10, W22_c11, W22_c12, W22_c16, W22_b2, W22_b3, W22_b5, W22_b6, W22_b7, W22_b13, W22_b14, W22_b15, W22_b17, W22_b18, W22_b19, W22_b20, hl]
        refine scall0_pure iy (by simp) (by simp) ?_
        simp [W22, W22_rs, W22_c1, W22_c4, W22_c8, W22_c9, W22_c10, W22_c11, W22_c12, W22_c16, W22_b2, W22_b3, W22_b5, W22_b6, W22_b7, W22_b13, W22_b14, W22_b15, W22_b17, W22_b18, W22_b19, W22_b20, h0, hl, retW_eq, encT_of]
    · by_cases k7 : t.kind = 7
      · obtain ⟨x, hl, hx⟩ := okN_one h k7
        have ix := sp_n5 x hx
        rw [Tm.norm_one hl, if_pos k7]
        by_cases h0 : x.norm.kind = 0
        · rw [if_pos h0]
          refine Am.Spec.of_W (W := W22) Try.func22 (by kernel_rfl) (by kernel_rfl) (by kernel_rfl) Try.ntmps22 W22_eq (rs := [.cell 2 34]) (by kernel_rfl) (by simp) ?_
          intro vs
          simp [W22, W22_rs, W22_c1, W22_c4, W22_c8, W22_c9, W22_c10, W22_c11, W22_c12, W22_c16, W22_b2, W22_b3, W22_b5, W22_b6, W22_b7, W22_b13, W22_b14, W22_b15, W22_b17, W22_b18, W22_b19, W22_b20, k7, hl]
          refine scall_pure ix (by simp) (by simp) ?_
          simp [W22, W22_rs, W22_c1, W22_c4, W22_c8, W22_c9, W22_c10, W22_c11, W22_c12, W22_c16, W22_b2, W22_b3, W22_b5, W22_b6, W22_b7, W22_b13, W22_b14, W22_b15, W22_b17, W22_b18, W22_b19, W22_b20, h0, hl, retW_eq, encT_skip]
        · rw [if_neg h0]
          refine Am.Spec.of_W (W := W22) Try.func22 (by kernel_rfl) (by kernel_rfl) (by kernel_rfl) Try.ntmps22 W22_eq (rs := [.cell 2 34]) (by kernel_rfl) (by simp) ?_
          intro vs
          simp [W22, W22_rs, W22_c1, W22_c4, W22_c8, W22_c9, W22_c10, W22_c11, W22_c12, W22_c16, W22_b2, W22_b3, W22_b5, W22_b6, W22_b7, W22_b13, W22_b14, W22_b15, W22_b17, W22_b18, W22_b19, W22_b20, k7, hl]
          refine scall_pure ix (by simp) (by simp) ?_
          simp [W22, W22_rs, W22_c1, W22_c4, W22_c8, W22_c9, W22_c10, W22_c11, W22_c12, W22_c16, W22_b2, W22_b3, W22_b5, W22_b6, W22_b7, W22_b13, W22_b14, W22_b15, W22_b17, W22_b18, W22_b19, W22_b20, h0, hl, retW_eq, encT_of]
      · rw [norm_leaf h k12 k11 k7]
        refine Am.Spec.of_W (W := W22) Try.func22 (by kernel_rfl) (by kernel_rfl) (by kernel_rfl) Try.ntmps22 W22_eq (rs := [.cell 2 34]) (by kernel_rfl) (by simp) ?_
        intro vs
        simp [W22, W22_rs, W22_c1, W22_c4, W22_c8, W22_c9, W22_c10, W22_c11, W22_c12, W22_c16, W22_b2, W22_b3, W22_b5, W22_b6, W22_b7, W22_b13, W22_b14, W22_b15, W22_b17, W22_b18, W22_b19, W22_b20, k12, k11, k7, retW_eq]
termination_by SizeOf.sizeOf t
decreasing_by all_goals exact Tm.lt_of_mem (by simp [hl])
theorem sp_s7 (l m : List Stp3) (hl : l.length ≤ 137438953472) (hp : ∀ x ∈ l, x.2.1.length ≤ 137438953472) : Am.Spec Try.prog 28 [.sl (l.map encS), .sl (m.map encS)] (.bool (decide (l = m))) := by
  by_cases hlm : l.length = m.length
  · have hlm' : (l.length : Int) = m.length := by omega
    refine Am.Spec.of_W (W := W28) Try.func28 (by kernel_rfl) (by kernel_rfl) (by kernel_rfl) Try.ntmps28 W28_eq (rs := [.tmp 4]) (by kernel_rfl) (by simp) ?_
    intro vs
    simp [W28, W28_rs, W28_b1, W28_b3, W28_b4, W28_b28, W28_b30, W28_k2, W28_c5, W28_c6, W28_c7, W28_c8, W28_c9, W28_c10, W28_c11, W28_c12, W28_c13, W28_c14, W28_c15, W28_c16, W28_c17, W28_c18, W28_c19, W28_c20, W28_c21, W28_c22, W28_c23, W28_c24, W28_c25, W28_c26, W28_c27, W28_l29, hlm']
    refine sLoop_intro (fun i => i ≤ m.length ∧ ∀ j, j < i → l[j]? = m[j]?) (fun i => m.length - i) (fun i => [(0, .sl (l.map encS)), (1, .sl (m.map encS)), (5, .int .i64 (i : Nat))]) (fun _ => []) 0 (by simp) (by simp) (by simp) ?_
    rintro L i vt ⟨hi, hj⟩ hL
    by_cases h : i < m.length
    · have h' : (i : Int) < m.length := by omega
      have hl2 : i < l.length := by omega
      have hpa := hp _ (List.getElem_mem hl2)
      obtain ⟨a, ha⟩ : ∃ a, l[i] = a := ⟨_, rfl⟩
      obtain ⟨b, hb⟩ : ∃ b, m[i] = b := ⟨_, rfl⟩
      have hnn : a ≠ b → l ≠ m := fun e e2 => e (by subst e2; rw [← ha, ← hb])
      rw [ha] at hpa
      have hits := sp_its a.2.1 b.2.1 hpa
      by_cases c1 : a.1 = b.1
      · by_cases c2 : a.2.2 = b.2.2
        · by_cases c3 : a.2.1 = b.2.1
          · have e : a = b := by obtain ⟨a1, a2, a3⟩ := a; obtain ⟨b1, b2, b3⟩ := b; simp_all
            rw [decide_eq_true c3] at hits
            simp [W28, W28_rs, W28_b1, W28_b3, W28_b4, W28_b28, W28_b30, W28_k2, W28_c5, W28_c6, W28_c7, W28_c8, W28_c9, W28_c10, W28_c11, W28_c12, W28_c13, W28_c14, W28_c15, W28_c16, W28_c17, W28_c18, W28_c19, W28_c20, W28_c21, W28_c22, W28_c23, W28_c24, W28_c25, W28_c26, W28_c27, W28_l29, h, hl2, hlm, ha, hb, c1, c2]
            refine scall0_pure hits (by simp) (by simp) ?_
            simp [W28, W28_rs, W28_b1, W28_b3, W28_b4, W28_b28, W28_b30, W28_k2, W28_c5, W28_c6, W28_c7, W28_c8, W28_c9, W28_c10, W28_c11, W28_c12, W28_c13, W28_c14, W28_c15, W28_c16, W28_c17, W28_c18, W28_c19, W28_c20, W28_c21, W28_c22, W28_c23, W28_c24, W28_c25, W28_c26, W28_c27, W28_l29]
            rw [wrap64 (by omega) (by omega)]
            refine hL _ _ _ (i + 1) ⟨h, fun j hj2 => ?_⟩ (by omega) (by simp) (by simp)
            by_cases ej : j = i
            · rw [ej, List.getElem?_eq_getElem hl2, List.getElem?_eq_getElem h, ha, hb, e]
            · exact hj j (by omega)
          · have hne := hnn fun e => c3 (by rw [e])
            rw [decide_eq_false c3] at hits
            simp [W28, W28_rs, W28_b1, W28_b3, W28_b4, W28_b28, W28_b30, W28_k2, W28_c5, W28_c6, W28_c7, W28_c8, W28_c9, W28_c10, W28_c11, W28_c12, W28_c13, W28_c14, W28_c15, W28_c16, W28_c17, W28_c18, W28_c19, W28_c20, W28_c21, W28_c22, W28_c23, W28_c24, W28_c25, W28_c26, W28_c27, W28_l29, h, hl2, hlm, ha, hb, c1, c2]
            refine scall0_pure hits (by simp) (by simp) ?_
            simp [W28, W28_rs, W28_b1, W28_b3, W28_b4, W28_b28, W28_b30, W28_k2, W28_c5, W28_c6, W28_c7, W28_c8, W28_c9, W28_c10, W28_c11, W28_c12, W28_c13, W28_c14, W28_c15, W28_c16, W28_c17, W28_c18, W28_c19, W28_c20, W28_c21, W28_c22, W28_c23, W28_c24, W28_c25, W28_c26, W28_c27, W28_l29, retW_eq, hne]
        · have hne := hnn fun e => c2 (by rw [e])
          simp [W28, W28_rs, W28_b1, W28_b3, W28_b4, W28_b28, W28_b30, W28_k2, W28_c5, W28_c6, W28_c7, W28_c8, W28_c9, W28_c10, W28_c11, W28_c12, W28_c13, W28_c14, W28_c15, W28_c16, W28_c17, W28_c18, W28_c19, W28_c20, W28_c21, W28_c22, W28_c23, W28_c24, W28_c25, W28_c26, W28_c27, W28_l29, h, hl2, hlm, ha, hb, c1, c2, retW_eq, hne]
      · have hne := hnn fun e => c1 (by rw [e])
        simp [W28, W28_rs, W28_b1, W28_b3, W28_b4, W28_b28, W28_b30, W28_k2, W28_c5, W28_c6, W28_c7, W28_c8, W28_c9, W28_c10, W28_c11, W28_c12, W28_c13, W28_c14, W28_c15, W28_c16, W28_c17, W28_c18, W28_c19, W28_c20, W28_c21, W28_c22, W28_c23, W28_c24, W28_c25, W28_c26, W28_c27, W28_l29, h, hl2, hlm, ha, hb, c1, retW_eq, hne]
    · have e : l = m := by
        refine List.ext_getElem? fun j => ?_
        by_cases hj2 : j < i
        · exact hj j hj2
        · rw [List.getElem?_eq_none (by omega), List.getElem?_eq_none (by omega)]
      have h' : ¬ (i : Int) < m.length := by omega
      simp [W28, W28_rs, W28_b1, W28_b3, W28_b4, W28_b28, W28_b30, W28_k2, W28_c5, W28_c6, W28_c7, W28_c8, W28_c9, W28_c10, W28_c11, W28_c12, W28_c13, W28_c14, W28_c15, W28_c16, W28_c17, W28_c18, W28_c19, W28_c20, W28_c21, W28_c22, W28_c23, W28_c24, W28_c25, W28_c26, W28_c27, W28_l29, h, hlm, retW_eq, e]
  · have hne : l ≠ m := fun e => hlm (by rw [e])
    have hlm' : ¬ (l.length : Int) = m.length := by omega
    refine Am.Spec.of_W (W := W28) Try.func28 (by kernel_rfl) (by kernel_rfl) (by kernel_rfl) Try.ntmps28 W28_eq (rs := [.tmp 4]) (by kernel_rfl) (by simp) ?_
    intro vs
    simp [W28, W28_rs, W28_b1, W28_b3, W28_b4, W28_b28, W28_b30, W28_k2, W28_c5, W28_c6, W28_c7, W28_c8, W28_c9, W28_c10, W28_c11, W28_c12, W28_c13, W28_c14, W28_c15, W28_c16, W28_c17, W28_c18, W28_c19, W28_c20, W28_c21, W28_c22, W28_c23, W28_c24, W28_c25, W28_c26, W28_c27, W28_l29, hlm, hlm', hne, retW_eq]
end Go.Proofs.Ytkagfenchknjjaa
set_option linter.unusedVariables false
set_option linter.unusedSimpArgs false
namespace Go.Proofs.Ytkagfenchknjjaa
open Go Go.Am Go.RowKit

/-! What is made of a raw one has as many parts as it should. -/
mutual
def okQ : Pr → Bool
  | ⟨k, _, _, _, l⟩ => (!(decide (k = 12) || decide (k = 11)) || decide (l.length = 2)) && ((!decide (k = 7) || decide (l.length = 1)) && okQs l)
def okQs : List Pr → Bool
  | [] => true
  | x :: l => okQ x && okQs l
end
theorem okQ_ite {c : Prop} [Decidable c] {x y : Pr} (h1 : okQ x = true) (h2 : okQ y = true) : okQ (if c then x else y) = true := by split <;> assumption
theorem okQ_prOf (k a b : Int) (e : List Rw2) (p q : Pr) (hp : okQ p = true) (hq : okQ q = true) : okQ (prOf k a b e p q) = true := by
  unfold prOf
  repeat' apply okQ_ite
  all_goals simp [okQ, okQs, Pr.of, Pr.skip, hp, hq]
theorem okQ_pr (x : Rw3) (d : Nat) : okQ (x.pr d) = true := by
  have ih : ∀ y ∈ x.l, ∀ d, okQ (y.pr d) = true := fun y hy d => okQ_pr y d
  have hs : okQ .skip = true := by simp [Pr.skip, Pr.of, okQ, okQs]
  have hp : ∀ i, okQ (x.part i d) = true := fun i => by
    unfold Rw3.part
    split
    · cases h : x.l[i]? with
      | none => exact hs
      | some y => exact ih y (List.mem_of_getElem? h) _
    · exact hs
  rw [x.pr_eq]
  exact okQ_prOf _ _ _ _ _ _ (hp 0) (hp 1)
termination_by SizeOf.sizeOf x
decreasing_by exact Rw3.lt_of_mem hy
theorem lowP0_kind (V S D : List ByteArray) (k : Int) (s t : ByteArray) (e : Ex) (l : List Tm) : (lowP0 V S D k s t e l).kind = k ∧ (lowP0 V S D k s t e l).l = l := by
  unfold lowP0
  repeat' split
  all_goals simp_all
mutual
theorem okN_low (V S D : List ByteArray) : ∀ x : Pr, okQ x = true → okN (lowP V S D x) = true
  | ⟨k, s, t, e, l⟩, h => by
    have h0 := lowP0_kind V S D k s t e (lowPs V S D l)
    have hn := okNs_low V S D l
    have hl : (lowPs V S D l).length = l.length := by rw [lowPs_map]; simp
    rw [okN_eq, lowP, h0.1, h0.2, hl]
    simp only [okQ, Bool.and_eq_true] at h
    simp only [Bool.and_eq_true]
    exact ⟨h.1, h.2.1, hn h.2.2⟩
theorem okNs_low (V S D : List ByteArray) : ∀ l : List Pr, okQs l = true → okNs (lowPs V S D l) = true
  | [], _ => rfl
  | x :: l, h => by
    simp only [okQs, Bool.and_eq_true] at h
    simp only [lowPs, okNs, Bool.and_eq_true]
    exact ⟨okN_low V S D x h.1, okNs_low V S D l h.2⟩
end
mutual
theorem okN_wt (bits : Int) : ∀ (t : Tm) (k : Nat) (p : Bool), okN t = true → okN (wtT bits t k p).1 = true
  | ⟨kd, a, b, nm, e, l⟩, k, p, h => by
    have h1 := okNs_wt bits l (if kd = 1 then k + 1 else k) (p || decide (kd = 3))
    unfold wtT
    split
    · simp [okN, okNs]
    · simp only [okN, Bool.and_eq_true, wtTs_len] at h ⊢
      exact ⟨h.1, h.2.1, h1 h.2.2⟩
theorem okNs_wt (bits : Int) : ∀ (l : List Tm) (k : Nat) (p : Bool), okNs l = true → okNs (wtTs bits l k p).1 = true
  | [], k, p, _ => rfl
  | x :: l, k, p, h => by
    simp only [okNs, Bool.and_eq_true] at h
    simp only [wtTs, okNs, Bool.and_eq_true]
    exact ⟨okN_wt bits x k p h.1, okNs_wt bits l _ p h.2⟩
end
theorem okN_mk (r : Rw3) (waits : Int) : okN (mkT r waits) = true := by
  unfold mkT
  split
  · simp [askT, okN, okNs]
  · refine okN_wt _ _ _ _ ?_
    unfold re4T
    split
    · simp [Tmz, okN, okNs]
    · have := okN_low (mkProg r).V (mkProg r).stacks (mkProg r).D (r.pr 0) (okQ_pr r 0)
      simp only [ppr, mkProg, List.map_cons, List.getElem?_cons_zero, Option.getD_some] at this ⊢
      exact this
/-! What stands behind does not matter. -/
def rowE (a : Tm) : List Stp3 := (a.norm.pls [0] (decide (0 < a.norm.waits.length))).flatMap stepsAt
theorem seq_waits (n b : Tm) : (Tm.of 12 [n, b]).waits = n.waits := by
  unfold Tm.waits
  rw [Tm.act_eq (Tm.of 12 [n, b])]
  have hk : (Tm.of 12 [n, b]).kidsA = [n] := by simp [Tm.kidsA, Tm.of]
  rw [hk]
  simp only [Tm.acts, List.append_nil, List.filterMap_cons]
  simp [Tm.of]
theorem row_enabled (a b : Tm) (h : a.norm.kind ≠ 0) : (Tm.of 12 [a, b]).enabled = rowE a := by
  have hn : (Tm.of 12 [a, b]).norm = Tm.of 12 [a.norm, b] := by
    rw [Tm.norm_two (x := a) (y := b) rfl, if_pos (show (Tm.of 12 [a, b]).kind = 12 from rfl), if_neg h]
  unfold Tm.enabled Tm.enabledN rowE
  rw [hn, seq_waits]
  simp [Tm.of, Tm.pls, Tm.pls1, kidW, stepsAt, stpN, stp]
theorem few_three (r s t : Rw3) : few3 [r, s, t] = decide (r.sz 0 + (s.sz 0 + t.sz 0) ≤ 40) := by simp [few3]
theorem row_go (r s t : Rw3) (w : Int) (a b c : Tm) (l : List Stp3) (hfew : Am.Spec Try.prog 21 [.agg [.int .i64 0, .int .i64 0, .sl ([r, s, t].map encR3)]] (.bool true)) (ha : Am.Spec Try.prog 23 [.agg (encR3 r), .int .i64 w] (.agg (encT a)))
    (hb : Am.Spec Try.prog 23 [.agg (encR3 s), .int .i64 0] (.agg (encT b))) (hc : Am.Spec Try.prog 23 [.agg (encR3 t), .int .i64 0] (.agg (encT c))) (hn : Am.Spec Try.prog 22 [.agg (encT a)] (.agg (encT a.norm)))
    (h1 : a.norm.kind ≠ 0 → Am.Spec Try.prog 24 [.agg (encT (Tm.of 12 [a, b]))] (.sl (l.map encS))) (h2 : a.norm.kind ≠ 0 → Am.Spec Try.prog 24 [.agg (encT (Tm.of 12 [a, c]))] (.sl (l.map encS))) (hl : l.length ≤ 137438953472) (hp : ∀ x ∈ l, x.2.1.length ≤ 137438953472) :
    Am.Spec Try.prog 11 [.agg (encR3 r), .agg (encR3 s), .agg (encR3 t), .int .i64 w] (.bool true) := by
  have hs7 := sp_s7 l l hl hp
  rw [decide_eq_true rfl] at hs7
  by_cases h0 : a.norm.kind = 0
  · refine Am.Spec.of_W (W := W11) Try.func11 (by kernel_rfl) (by kernel_rfl) (by kernel_rfl) Try.ntmps11 W11_eq (rs := [.tmp 8]) (by kernel_rfl) (by simp) ?_
    intro vs
    simp [W11, W11_rs, W11_b1, W11_b2, W11_b3, W11_b9, W11_b12, W11_b14, W11_c4, W11_c5, W11_c6, W11_c7, W11_c8, W11_c10, W11_c11, W11_c13, W11_c15]
    refine scall_pure sp_kno (by simp) (by simp) ?_
    simp [W11, W11_rs, W11_b1, W11_b2, W11_b3, W11_b9, W11_b12, W11_b14, W11_c4, W11_c5, W11_c6, W11_c7, W11_c8, W11_c10, W11_c11, W11_c13, W11_c15]
    refine scall_pure hfew (by simp) (by simp) ?_
    simp [W11, W11_rs, W11_b1, W11_b2, W11_b3, W11_b9, W11_b12, W11_b14, W11_c4, W11_c5, W11_c6, W11_c7, W11_c8, W11_c10, W11_c11, W11_c13, W11_c15]
    refine scall_pure ha (by simp) (by simp) ?_
    simp [W11, W11_rs, W11_b1, W11_b2, W11_b3, W11_b9, W11_b12, W11_b14, W11_c4, W11_c5, W11_c6, W11_c7, W11_c8, W11_c10, W11_c11, W11_c13, W11_c15]
    refine scall_pure hn (by simp) (by simp) ?_
    simp [W11, W11_rs, W11_b1, W11_b2, W11_b3, W11_b9, W11_b12, W11_b14, W11_c4, W11_c5, W11_c6, W11_c7, W11_c8, W11_c10, W11_c11, W11_c13, W11_c15, h0, retW_eq]
  · have h1 := h1 h0
    have h2 := h2 h0
    rw [encT_of] at h1 h2
    refine Am.Spec.of_W (W := W11) Try.func11 (by kernel_rfl) (by kernel_rfl) (by kernel_rfl) Try.ntmps11 W11_eq (rs := [.tmp 8]) (by kernel_rfl) (by simp) ?_
    intro vs
    simp [W11, W11_rs, W11_b1, W11_b2, W11_b3, W11_b9, W11_b12, W11_b14, W11_c4, W11_c5, W11_c6, W11_c7, W11_c8, W11_c10, W11_c11, W11_c13, W11_c15]
    refine scall_pure sp_kno (by simp) (by simp) ?_
    simp [W11, W11_rs, W11_b1, W11_b2, W11_b3, W11_b9, W11_b12, W11_b14, W11_c4, W11_c5, W11_c6, W11_c7, W11_c8, W11_c10, W11_c11, W11_c13, W11_c15]
    refine scall_pure hfew (by simp) (by simp) ?_
    simp [W11, W11_rs, W11_b1, W11_b2, W11_b3, W11_b9, W11_b12, W11_b14, W11_c4, W11_c5, W11_c6, W11_c7, W11_c8, W11_c10, W11_c11, W11_c13, W11_c15]
    refine scall_pure ha (by simp) (by simp) ?_
    simp [W11, W11_rs, W11_b1, W11_b2, W11_b3, W11_b9, W11_b12, W11_b14, W11_c4, W11_c5, W11_c6, W11_c7, W11_c8, W11_c10, W11_c11, W11_c13, W11_c15]
    refine scall_pure hn (by simp) (by simp) ?_
    simp [W11, W11_rs, W11_b1, W11_b2, W11_b3, W11_b9, W11_b12, W11_b14, W11_c4, W11_c5, W11_c6, W11_c7, W11_c8, W11_c10, W11_c11, W11_c13, W11_c15, h0]
    refine scall0_pure hb (by simp) (by simp) ?_
    simp [W11, W11_rs, W11_b1, W11_b2, W11_b3, W11_b9, W11_b12, W11_b14, W11_c4, W11_c5, W11_c6, W11_c7, W11_c8, W11_c10, W11_c11, W11_c13, W11_c15]
    refine scall0_pure h1 (by simp) (by simp) ?_
    simp [W11, W11_rs, W11_b1, W11_b2, W11_b3, W11_b9, W11_b12, W11_b14, W11_c4, W11_c5, W11_c6, W11_c7, W11_c8, W11_c10, W11_c11, W11_c13, W11_c15]
    refine scall0_pure hc (by simp) (by simp) ?_
    simp [W11, W11_rs, W11_b1, W11_b2, W11_b3, W11_b9, W11_b12, W11_b14, W11_c4, W11_c5, W11_c6, W11_c7, W11_c8, W11_c10, W11_c11, W11_c13, W11_c15]
    refine scall0_pure h2 (by simp) (by simp) ?_
    simp [W11, W11_rs, W11_b1, W11_b2, W11_b3, W11_b9, W11_b12, W11_b14, W11_c4, W11_c5, W11_c6, W11_c7, W11_c8, W11_c10, W11_c11, W11_c13, W11_c15]
    refine scall_pure hs7 (by simp) (by simp) ?_
    simp [W11, W11_rs, W11_b1, W11_b2, W11_b3, W11_b9, W11_b12, W11_b14, W11_c4, W11_c5, W11_c6, W11_c7, W11_c8, W11_c10, W11_c11, W11_c13, W11_c15, retW_eq]
theorem sp_row (r s t : Rw3) (w : Int) : Am.Spec Try.prog 11 [.agg (encR3 r), .agg (encR3 s), .agg (encR3 t), .int .i64 w] (.bool true) := by
  have hfew := sp_fw3 (.int .i64 0) (.int .i64 0) [r, s, t] (by simp [maxLen]) (by simp [closed]) (by simp [closed])
  rw [few_three] at hfew
  by_cases h : r.sz 0 + (s.sz 0 + t.sz 0) ≤ 40
  · rw [decide_eq_true h] at hfew
    have z1 := r.sz_le 0
    have z2 := s.sz_le 0
    have z3 := t.sz_le 0
    have w1 := mkT_wt r w (by omega)
    have w2 := mkT_wt s 0 (by omega)
    have w3 := mkT_wt t 0 (by omega)
    have wo : ∀ a b : Tm, (Tm.of 12 [a, b]).wt = 2 + (a.wt + (b.wt + 0)) := fun a b => by simp only [Tm.of, Tm.wt, Ex.zero_wt, Tm.wts]
    have hl : (rowE (mkT r w)).length ≤ 137438953472 ∧ ∀ x ∈ rowE (mkT r w), x.2.1.length ≤ 137438953472 := by
      have hn := (mkT r w).norm_wt
      have g1 := (mkT r w).norm.pls_len [0] (decide (0 < (mkT r w).norm.waits.length))
      have g2 := steps_len ((mkT r w).norm.pls [0] (decide (0 < (mkT r w).norm.waits.length)))
      refine ⟨by unfold rowE; omega, fun x hx => ?_⟩
      obtain ⟨y, hy, e⟩ := mem_steps hx
      have := (mkT r w).norm.pls_path [0] _ y hy
      rw [e]
      simp at this
      omega
    refine row_go r s t w _ _ _ (rowE (mkT r w)) hfew (sp_mkT r w (by omega)) (sp_mkT s 0 (by omega)) (sp_mkT t 0 (by omega)) (sp_n5 _ (okN_mk r w)) (fun h0 => ?_) (fun h0 => ?_) hl.1 hl.2
    · rw [← row_enabled _ (mkT s 0) h0]
      exact sp_enb _ (by rw [wo]; omega)
    · rw [← row_enabled _ (mkT t 0) h0]
      exact sp_enb _ (by rw [wo]; omega)
  · rw [decide_eq_false h] at hfew
    refine Am.Spec.of_W (W := W11) Try.func11 (by kernel_rfl) (by kernel_rfl) (by kernel_rfl) Try.ntmps11 W11_eq (rs := [.tmp 8]) (by kernel_rfl) (by simp) ?_
    intro vs
    simp [W11, W11_rs, W11_b1, W11_b2, W11_b3, W11_b9, W11_b12, W11_b14, W11_c4, W11_c5, W11_c6, W11_c7, W11_c8, W11_c10, W11_c11, W11_c13, W11_c15]
    refine scall_pure sp_kno (by simp) (by simp) ?_
    simp [W11, W11_rs, W11_b1, W11_b2, W11_b3, W11_b9, W11_b12, W11_b14, W11_c4, W11_c5, W11_c6, W11_c7, W11_c8, W11_c10, W11_c11, W11_c13, W11_c15]
    refine scall_pure hfew (by simp) (by simp) ?_
    simp [W11, W11_rs, W11_b1, W11_b2, W11_b3, W11_b9, W11_b12, W11_b14, W11_c4, W11_c5, W11_c6, W11_c7, W11_c8, W11_c10, W11_c11, W11_c13, W11_c15, retW_eq]
end Go.Proofs.Ytkagfenchknjjaa
