import Derived.Test.YtkagfenchknjjaaGD15
set_option linter.unusedVariables false
set_option linter.unusedSimpArgs false
namespace Go.Proofs.Ytkagfenchknjjaa
open Go Go.Am Go.RowKit

/-! Rows, pairs have two parts, blocks one. -/
mutual
def okN : Tm → Bool
  | ⟨k, _, _, _, _, l⟩ => (!(decide (k = 12) || decide (k = 11)) || decide (l.length = 2)) && ((!decide (k = 7) || decide (l.length = 1)) && okNs l)
def okNs : List Tm → Bool
  | [] => true
  | x :: l => okN x && okNs l
end
theorem okN_eq (t : Tm) : okN t = ((!(decide (t.kind = 12) || decide (t.kind = 11)) || decide (t.l.length = 2)) && ((!decide (t.kind = 7) || decide (t.l.length = 1)) && okNs t.l)) := by cases t; rfl
theorem okNs_mem : ∀ {l : List Tm}, okNs l = true → ∀ x ∈ l, okN x = true
  | y :: l, h, x, hx => by
    simp only [okNs, Bool.and_eq_true] at h
    rcases List.mem_cons.1 hx with rfl | hx
    · exact h.1
    · exact okNs_mem h.2 x hx
theorem okN_two {t : Tm} (h : okN t = true) (hk : t.kind = 12 ∨ t.kind = 11) : ∃ x y, t.l = [x, y] ∧ okN x = true ∧ okN y = true := by
  rw [okN_eq] at h
  have hl : t.l.length = 2 := by rcases hk with hk | hk <;> simp [hk] at h <;> exact h.1
  have hm : okNs t.l = true := by simp at h; exact h.2.2
  rcases hh : t.l with _ | ⟨x, _ | ⟨y, _ | ⟨z, l⟩⟩⟩ <;> simp [hh] at hl
  rw [hh] at hm
  exact ⟨x, y, rfl, okNs_mem hm x (by simp), okNs_mem hm y (by simp)⟩
theorem okN_one {t : Tm} (h : okN t = true) (hk : t.kind = 7) : ∃ x, t.l = [x] ∧ okN x = true := by
  rw [okN_eq] at h
  have hl : t.l.length = 1 := by simp [hk] at h; exact h.1
  have hm : okNs t.l = true := by simp at h; exact h.2.2
  rcases hh : t.l with _ | ⟨x, _ | ⟨y, l⟩⟩ <;> simp [hh] at hl
  rw [hh] at hm
  exact ⟨x, rfl, okNs_mem hm x (by simp)⟩
theorem norm_leaf {t : Tm} (h : okN t = true) (h1 : t.kind ≠ 12) (h2 : t.kind ≠ 11) (h3 : t.kind ≠ 7) : t.norm = t := by
  rcases hh : t.l with _ | ⟨x, _ | ⟨y, _ | ⟨z, l⟩⟩⟩
  · exact Tm.norm_else (by simp [hh]) (by simp [hh])
  · rw [Tm.norm_one hh, if_neg h3]
  · rw [Tm.norm_two hh, if_neg h1, if_neg h2]
  · exact Tm.norm_else (by simp [hh]) (by simp [hh])
theorem sp_n5 (t : Tm) (h : okN t = true) : Am.Spec Try.prog 22 [.agg (encT t)] (.agg (encT t.norm)) := by
  by_cases k12 : t.kind = 12
  · obtain ⟨x, y, hl, hx, hy⟩ := okN_two h (.inl k12)
    have ix := sp_n5 x hx
    have iy := sp_n5 y hy
    rw [Tm.norm_two hl, if_pos k12]
    by_cases h0 : x.norm.kind = 0
    · rw [if_pos h0]
      refine Am.Spec.of_W (W := W22) Try.func22 (by kernel_rfl) (by kernel_rfl) (by kernel_rfl) Try.ntmps22 W22_eq (rs := [.cell 2 34]) (by kernel_rfl) (by simp) ?_
      intro vs
      simp [W22, W22_rs, W22_c1, W22_c4, W22_c8, W22_c9, W22_c10, W22_c11, W22_c12, W22_c16, W22_b2, W22_b3, W22_b5, W22_b6, W22_b7, W22_b13, W22_b14, W22_b15, W22_b17, W22_b18, W22_b19, W22_b20, k12, hl]
      refine scall_pure ix (by simp) (by simp) ?_
      simp [W22, W22_rs, W22_c1, W22_c4, W22_c8, W22_c9, W22_c10, W22_c11, W22_c12, W22_c16, W22_b2, W22_b3, W22_b5, W22_b6, W22_b7, W22_b13, W22_b14, W22_b15, W22_b17, W22_b18, W22_b19, W22_b20, h0, hl]
      refine scall_pure iy (by simp) (by simp) ?_
      simp [W22, W22_rs, W22_c1, W22_c4, W22_c8, W22_c9, W22_c10, W22_c11, W22_c12, W22_c16, W22_b2, W22_b3, W22_b5, W22_b6, W22_b7, W22_b13, W22_b14, W22_b15, W22_b17, W22_b18, W22_b19, W22_b20, retW_eq]
    · rw [if_neg h0]
      refine Am.Spec.of_W (W := W22) Try.func22 (by kernel_rfl) (by kernel_rfl) (by kernel_rfl) Try.ntmps22 W22_eq (rs := [.cell 2 34]) (by kernel_rfl) (by simp) ?_
      intro vs
      simp [W22, W22_rs, W22_c1, W22_c4, W22_c8, W22_c9, W22_c10, W22_c11, W22_c12, W22_c16, W22_b2, W22_b3, W22_b5, W22_b6, W22_b7, W22_b13, W22_b14, W22_b15, W22_b17, W22_b18, W22_b19, W22_b20, k12, hl]
      refine scall_pure ix (by simp) (by simp) ?_
      simp [W22, W22_rs, W22_c1, W22_c4, W22_c8, W22_c9, W22_c10, W22_c11, W22_c12, W22_c16, W22_b2, W22_b3, W22_b5, W22_b6, W22_b7, W22_b13, W22_b14, W22_b15, W22_b17, W22_b18, W22_b19, W22_b20, h0, hl, retW_eq, encT_of]
  · by_cases k11 : t.kind = 11
    · obtain ⟨x, y, hl, hx, hy⟩ := okN_two h (.inr k11)
      have ix := sp_n5 x hx
      have iy := sp_n5 y hy
      rw [Tm.norm_two hl, if_neg k12, if_pos k11]
      by_cases h0 : x.norm.kind = 0
      · by_cases h1 : y.norm.kind = 0
        · rw [if_pos ⟨h0, h1⟩]
          refine Am.Spec.of_W (W := W22) Try.func22 (by kernel_rfl) (by kernel_rfl) (by kernel_rfl) Try.ntmps22 W22_eq (rs := [.cell 2 34]) (by kernel_rfl) (by simp) ?_
          intro vs
          simp [W22, W22_rs, W22_c1, W22_c4, W22_c8, W22_c9, W22_c10, W22_c11, W22_c12, W22_c16, W22_b2, W22_b3, W22_b5, W22_b6, W22_b7, W22_b13, W22_b14, W22_b15, W22_b17, W22_b18, W22_b19, W22_b20, k11, hl]
          refine scall0_pure ix (by simp) (by simp) ?_
          simp [W22, W22_rs, W22_c1, W22_c4, W22_c8, W22_c9, W22_c10, W22_c11, W22_c12, W22_c16, W22_b2, W22_b3, W22_b5, W22_b6, W22_b7, W22_b13, W22_b14, W22_b15, W22_b17, W22_b18, W22_b19, W22_b20, hl]
          refine scall0_pure iy (by simp) (by simp) ?_
          simp [W22, W22_rs, W22_c1, W22_c4, W22_c8, W22_c9, W22_c10, W22_c11, W22_c12, W22_c16, W22_b2, W22_b3, W22_b5, W22_b6, W22_b7, W22_b13, W22_b14, W22_b15, W22_b17, W22_b18, W22_b19, W22_b20, h0, h1, hl, retW_eq, encT_skip]
        · rw [if_neg fun e => h1 e.2]
          refine Am.Spec.of_W (W := W22) Try.func22 (by kernel_rfl) (by kernel_rfl) (by kernel_rfl) Try.ntmps22 W22_eq (rs := [.cell 2 34]) (by kernel_rfl) (by simp) ?_
          intro vs
          simp [W22, W22_rs, W22_c1, W22_c4, W22_c8, W22_c9, W22_c10, W22_c11, W22_c12, W22_c16, W22_b2, W22_b3, W22_b5, W22_b6, W22_b7, W22_b13, W22_b14, W22_b15, W22_b17, W22_b18, W22_b19, W22_b20, k11, hl]
          refine scall0_pure ix (by simp) (by simp) ?_
          simp [W22, W22_rs, W22_c1, W22_c4, W22_c8, W22_c9, W22_c10, W22_c11, W22_c12, W22_c16, W22_b2, W22_b3, W22_b5, W22_b6, W22_b7, W22_b13, W22_b14, W22_b15, W22_b17, W22_b18, W22_b19, W22_b20, hl]
          refine scall0_pure iy (by simp) (by simp) ?_
          simp [W22, W22_rs, W22_c1, W22_c4, W22_c8, W22_c9, W22_c10, W22_c11, W22_c12, W22_c16, W22_b2, W22_b3, W22_b5, W22_b6, W22_b7, W22_b13, W22_b14, W22_b15, W22_b17, W22_b18, W22_b19, W22_b20, h0, h1, hl, retW_eq, encT_of]
      · rw [if_neg fun e => h0 e.1]
        refine Am.Spec.of_W (W := W22) Try.func22 (by kernel_rfl) (by kernel_rfl) (by kernel_rfl) Try.ntmps22 W22_eq (rs := [.cell 2 34]) (by kernel_rfl) (by simp) ?_
        intro vs
        simp [W22, W22_rs, W22_c1, W22_c4, W22_c8, W22_c9, W22_c10, W22_c11, W22_c12, W22_c16, W22_b2, W22_b3, W22_b5, W22_b6, W22_b7, W22_b13, W22_b14, W22_b15, W22_b17, W22_b18, W22_b19, W22_b20, k11, hl]
        refine scall0_pure ix (by simp) (by simp) ?_
        simp [W22, W22_rs, W22_c1, W22_c4, W22_c8, W22_c9, W22_c10, W22_c11, W22_c12, W22_c16, W22_b2, W22_b3, W22_b5, W22_b6, W22_b7, W22_b13, W22_b14, W22_b15, W22_b17, W22_b18, W22_b19, W22_b20, hl]
        refine scall0_pure iy (by simp) (by simp) ?_
        simp [W22, W22_rs, W22_c1, W22_c4, W22_c8, W22_c9, W22_c10, W22_c11, W22_c12, W22_c16, W22_b2, W22_b3, W22_b5, W22_b6, W22_b7, W22_b13, W22_b14, W22_b15, W22_b17, W22_b18, W22_b19, W22_b20, h0, hl, retW_eq, encT_of]
    · by_cases k7 : t.kind = 7
      · obtain ⟨x, hl, hx⟩ := okN_one h k7
        have ix := sp_n5 x hx
        rw [Tm.norm_one hl, if_pos k7]
        by_cases h0 : x.norm.kind = 0
        · rw [if_pos h0]
          refine Am.Spec.of_W (W := W22) Try.func22 (by kernel_rfl) (by kernel_rfl) (by kernel_rfl) Try.ntmps22 W22_eq (rs := [.cell 2 34]) (by kernel_rfl) (by simp) ?_
          intro vs
          simp [W22, W22_rs, W22_c1, W22_c4, W22_c8, W22_c9, W22_c10, W22_c11, W22_c12, W22_c16, W22_b2, W22_b3, W22_b5, W22_b6, W22_b7, W22_b13, W22_b14, W22_b15, W22_b17, W22_b18, W22_b19, W22_b20, k7, hl]
          refine scall_pure ix (by simp) (by simp) ?_
          simp [W22, W22_rs, W22_c1, W22_c4, W22_c8, W22_c9, W22_c10, W22_c11, W22_c12, W22_c16, W22_b2, W22_b3, W22_b5, W22_b6, W22_b7, W22_b13, W22_b14, W22_b15, W22_b17, W22_b18, W22_b19, W22_b20, h0, hl, retW_eq, encT_skip]
        · rw [if_neg h0]
          refine Am.Spec.of_W (W := W22) Try.func22 (by kernel_rfl) (by kernel_rfl) (by kernel_rfl) Try.ntmps22 W22_eq (rs := [.cell 2 34]) (by kernel_rfl) (by simp) ?_
          intro vs
          simp [W22, W22_rs, W22_c1, W22_c4, W22_c8, W22_c9, W22_c10, W22_c11, W22_c12, W22_c16, W22_b2, W22_b3, W22_b5, W22_b6, W22_b7, W22_b13, W22_b14, W22_b15, W22_b17, W22_b18, W22_b19, W22_b20, k7, hl]
          refine scall_pure ix (by simp) (by simp) ?_
          simp [W22, W22_rs, W22_c1, W22_c4, W22_c8, W22_c9, W22_c10, W22_c11, W22_c12, W22_c16, W22_b2, W22_b3, W22_b5, W22_b6, W22_b7, W22_b13, W22_b14, W22_b15, W22_b17, W22_b18, W22_b19, W22_b20, h0, hl, retW_eq, encT_of]
      · rw [norm_leaf h k12 k11 k7]
        refine Am.Spec.of_W (W := W22) Try.func22 (by kernel_rfl) (by kernel_rfl) (by kernel_rfl) Try.ntmps22 W22_eq (rs := [.cell 2 34]) (by kernel_rfl) (by simp) ?_
        intro vs
        simp [W22, W22_rs, W22_c1, W22_c4, W22_c8, W22_c9, W22_c10, W22_c11, W22_c12, W22_c16, W22_b2, W22_b3, W22_b5, W22_b6, W22_b7, W22_b13, W22_b14, W22_b15, W22_b17, W22_b18, W22_b19, W22_b20, k12, k11, k7, retW_eq]
termination_by SizeOf.sizeOf t
decreasing_by all_goals exact Tm.lt_of_mem (by simp [hl])
theorem sp_s7 (l m : List Stp3) (hl : l.length ≤ 137438953472) (hp : ∀ x ∈ l, x.2.1.length ≤ 137438953472) : Am.Spec Try.prog 28 [.sl (l.map encS), .sl (m.map encS)] (.bool (decide (l = m))) := by
  by_cases hlm : l.length = m.length
  · have hlm' : (l.length : Int) = m.length := by omega
    refine Am.Spec.of_W (W := W28) Try.func28 (by kernel_rfl) (by kernel_rfl) (by kernel_rfl) Try.ntmps28 W28_eq (rs := [.tmp 4]) (by kernel_rfl) (by simp) ?_
    intro vs
    simp [W28, W28_rs, W28_b1, W28_b3, W28_b4, W28_b28, W28_b30, W28_k2, W28_c5, W28_c6, W28_c7, W28_c8, W28_c9, W28_c10, W28_c11, W28_c12, W28_c13, W28_c14, W28_c15, W28_c16, W28_c17, W28_c18, W28_c19, W28_c20, W28_c21, W28_c22, W28_c23, W28_c24, W28_c25, W28_c26, W28_c27, W28_l29, hlm']
    refine sLoop_intro (fun i => i ≤ m.length ∧ ∀ j, j < i → l[j]? = m[j]?) (fun i => m.length - i) (fun i => [(0, .sl (l.map encS)), (1, .sl (m.map encS)), (5, .int .i64 (i : Nat))]) (fun _ => []) 0 (by simp) (by simp) (by simp) ?_
    rintro L i vt ⟨hi, hj⟩ hL
    by_cases h : i < m.length
    · have h' : (i : Int) < m.length := by omega
      have hl2 : i < l.length := by omega
      have hpa := hp _ (List.getElem_mem hl2)
      obtain ⟨a, ha⟩ : ∃ a, l[i] = a := ⟨_, rfl⟩
      obtain ⟨b, hb⟩ : ∃ b, m[i] = b := ⟨_, rfl⟩
      have hnn : a ≠ b → l ≠ m := fun e e2 => e (by subst e2; rw [← ha, ← hb])
      rw [ha] at hpa
      have hits := sp_its a.2.1 b.2.1 hpa
      by_cases c1 : a.1 = b.1
      · by_cases c2 : a.2.2 = b.2.2
        · by_cases c3 : a.2.1 = b.2.1
          · have e : a = b := by obtain ⟨a1, a2, a3⟩ := a; obtain ⟨b1, b2, b3⟩ := b; simp_all
            rw [decide_eq_true c3] at hits
            simp [W28, W28_rs, W28_b1, W28_b3, W28_b4, W28_b28, W28_b30, W28_k2, W28_c5, W28_c6, W28_c7, W28_c8, W28_c9, W28_c10, W28_c11, W28_c12, W28_c13, W28_c14, W28_c15, W28_c16, W28_c17, W28_c18, W28_c19, W28_c20, W28_c21, W28_c22, W28_c23, W28_c24, W28_c25, W28_c26, W28_c27, W28_l29, h, hl2, hlm, ha, hb, c1, c2]
            refine scall0_pure hits (by simp) (by simp) ?_
            simp [W28, W28_rs, W28_b1, W28_b3, W28_b4, W28_b28, W28_b30, W28_k2, W28_c5, W28_c6, W28_c7, W28_c8, W28_c9, W28_c10, W28_c11, W28_c12, W28_c13, W28_c14, W28_c15, W28_c16, W28_c17, W28_c18, W28_c19, W28_c20, W28_c21, W28_c22, W28_c23, W28_c24, W28_c25, W28_c26, W28_c27, W28_l29]
            rw [wrap64 (by omega) (by omega)]
            refine hL _ _ _ (i + 1) ⟨h, fun j hj2 => ?_⟩ (by omega) (by simp) (by simp)
            by_cases ej : j = i
            · rw [ej, List.getElem?_eq_getElem hl2, List.getElem?_eq_getElem h, ha, hb, e]
            · exact hj j (by omega)
          · have hne := hnn fun e => c3 (by rw [e])
            rw [decide_eq_false c3] at hits
            simp [W28, W28_rs, W28_b1, W28_b3, W28_b4, W28_b28, W28_b30, W28_k2, W28_c5, W28_c6, W28_c7, W28_c8, W28_c9, W28_c10, W28_c11, W28_c12, W28_c13, W28_c14, W28_c15, W28_c16, W28_c17, W28_c18, W28_c19, W28_c20, W28_c21, W28_c22, W28_c23, W28_c24, W28_c25, W28_c26, W28_c27, W28_l29, h, hl2, hlm, ha, hb, c1, c2]
            refine scall0_pure hits (by simp) (by simp) ?_
            simp [W28, W28_rs, W28_b1, W28_b3, W28_b4, W28_b28, W28_b30, W28_k2, W28_c5, W28_c6, W28_c7, W28_c8, W28_c9, W28_c10, W28_c11, W28_c12, W28_c13, W28_c14, W28_c15, W28_c16, W28_c17, W28_c18, W28_c19, W28_c20, W28_c21, W28_c22, W28_c23, W28_c24, W28_c25, W28_c26, W28_c27, W28_l29, retW_eq, hne]
        · have hne := hnn fun e => c2 (by rw [e])
          simp [W28, W28_rs, W28_b1, W28_b3, W28_b4, W28_b28, W28_b30, W28_k2, W28_c5, W28_c6, W28_c7, W28_c8, W28_c9, W28_c10, W28_c11, W28_c12, W28_c13, W28_c14, W28_c15, W28_c16, W28_c17, W28_c18, W28_c19, W28_c20, W28_c21, W28_c22, W28_c23, W28_c24, W28_c25, W28_c26, W28_c27, W28_l29, h, hl2, hlm, ha, hb, c1, c2, retW_eq, hne]
      · have hne := hnn fun e => c1 (by rw [e])
        simp [W28, W28_rs, W28_b1, W28_b3, W28_b4, W28_b28, W28_b30, W28_k2, W28_c5, W28_c6, W28_c7, W28_c8, W28_c9, W28_c10, W28_c11, W28_c12, W28_c13, W28_c14, W28_c15, W28_c16, W28_c17, W28_c18, W28_c19, W28_c20, W28_c21, W28_c22, W28_c23, W28_c24, W28_c25, W28_c26, W28_c27, W28_l29, h, hl2, hlm, ha, hb, c1, retW_eq, hne]
    · have e : l = m := by
        refine List.ext_getElem? fun j => ?_
        by_cases hj2 : j < i
        · exact hj j hj2
        · rw [List.getElem?_eq_none (by omega), List.getElem?_eq_none (by omega)]
      have h' : ¬ (i : Int) < m.length := by omega
      simp [W28, W28_rs, W28_b1, W28_b3, W28_b4, W28_b28, W28_b30, W28_k2, W28_c5, W28_c6, W28_c7, W28_c8, W28_c9, W28_c10, W28_c11, W28_c12, W28_c13, W28_c14, W28_c15, W28_c16, W28_c17, W28_c18, W28_c19, W28_c20, W28_c21, W28_c22, W28_c23, W28_c24, W28_c25, W28_c26, W28_c27, W28_l29, h, hlm, retW_eq, e]
  · have hne : l ≠ m := fun e => hlm (by rw [e])
    have hlm' : ¬ (l.length : Int) = m.length := by omega
    refine Am.Spec.of_W (W := W28) Try.func28 (by kernel_rfl) (by kernel_rfl) (by kernel_rfl) Try.ntmps28 W28_eq (rs := [.tmp 4]) (by kernel_rfl) (by simp) ?_
    intro vs
    simp [W28, W28_rs, W28_b1, W28_b3, W28_b4, W28_b28, W28_b30, W28_k2, W28_c5, W28_c6, W28_c7, W28_c8, W28_c9, W28_c10, W28_c11, W28_c12, W28_c13, W28_c14, W28_c15, W28_c16, W28_c17, W28_c18, W28_c19, W28_c20, W28_c21, W28_c22, W28_c23, W28_c24, W28_c25, W28_c26, W28_c27, W28_l29, hlm, hlm', hne, retW_eq]
end Go.Proofs.Ytkagfenchknjjaa
set_option linter.unusedVariables false
set_option linter.unusedSimpArgs false
namespace Go.Proofs.Ytkagfenchknjjaa
open Go Go.Am Go.RowKit

/-! What is made of a raw one has as many parts as it should. -/
mutual
def okQ : Pr → Bool
  | ⟨k, _, _, _, l⟩ => (!(decide (k = 12) || decide (k = 11)) || decide (l.length = 2)) && ((!decide (k = 7) || decide (l.length = 1)) && okQs l)
def okQs : List Pr → Bool
  | [] => true
  | x :: l => okQ x && okQs l
end
theorem okQ_ite {c : Prop} [Decidable c] {x y : Pr} (h1 : okQ x = true) (h2 : okQ y = true) : okQ (if c then x else y) = true := by split <;> assumption
theorem okQ_prOf (k a b : Int) (e : List Rw2) (p q : Pr) (hp : okQ p = true) (hq : okQ q = true) : okQ (prOf k a b e p q) = true := by
  unfold prOf
  repeat' apply okQ_ite
  all_goals simp [okQ, okQs, Pr.of, Pr.skip, hp, hq]
theorem okQ_pr (x : Rw3) (d : Nat) : okQ (x.pr d) = true := by
  have ih : ∀ y ∈ x.l, ∀ d, okQ (y.pr d) = true := fun y hy d => okQ_pr y d
  have hs : okQ .skip = true := by simp [Pr.skip, Pr.of, okQ, okQs]
  have hp : ∀ i, okQ (x.part i d) = true := fun i => by
    unfold Rw3.part
    split
    · cases h : x.l[i]? with
      | none => exact hs
      | some y => exact ih y (List.mem_of_getElem? h) _
    · exact hs
  rw [x.pr_eq]
  exact okQ_prOf _ _ _ _ _ _ (hp 0) (hp 1)
termination_by SizeOf.sizeOf x
decreasing_by exact Rw3.lt_of_mem hy
theorem lowP0_kind (V S D : List ByteArray) (k : Int) (s t : ByteArray) (e : Ex) (l : List Tm) : (lowP0 V S D k s t e l).kind = k ∧ (lowP0 V S D k s t e l).l = l := by
  unfold lowP0
  repeat' split
  all_goals simp_all
mutual
theorem okN_low (V S D : List ByteArray) : ∀ x : Pr, okQ x = true → okN (lowP V S D x) = true
  | ⟨k, s, t, e, l⟩, h => by
    have h0 := lowP0_kind V S D k s t e (lowPs V S D l)
    have hn := okNs_low V S D l
    have hl : (lowPs V S D l).length = l.length := by rw [lowPs_map]; simp
    rw [okN_eq, lowP, h0.1, h0.2, hl]
    simp only [okQ, Bool.and_eq_true] at h
    simp only [Bool.and_eq_true]
    exact ⟨h.1, h.2.1, hn h.2.2⟩
theorem okNs_low (V S D : List ByteArray) : ∀ l : List Pr, okQs l = true → okNs (lowPs V S D l) = true
  | [], _ => rfl
  | x :: l, h => by
    simp only [okQs, Bool.and_eq_true] at h
    simp only [lowPs, okNs, Bool.and_eq_true]
    exact ⟨okN_low V S D x h.1, okNs_low V S D l h.2⟩
end
mutual
theorem okN_wt (bits : Int) : ∀ (t : Tm) (k : Nat) (p : Bool), okN t = true → okN (wtT bits t k p).1 = true
  | ⟨kd, a, b, nm, e, l⟩, k, p, h => by
    have h1 := okNs_wt bits l (if kd = 1 then k + 1 else k) (p || decide (kd = 3))
    unfold wtT
    split
    · simp [okN, okNs]
    · simp only [okN, Bool.and_eq_true, wtTs_len] at h ⊢
      exact ⟨h.1, h.2.1, h1 h.2.2⟩
theorem okNs_wt (bits : Int) : ∀ (l : List Tm) (k : Nat) (p : Bool), okNs l = true → okNs (wtTs bits l k p).1 = true
  | [], k, p, _ => rfl
  | x :: l, k, p, h => by
    simp only [okNs, Bool.and_eq_true] at h
    simp only [wtTs, okNs, Bool.and_eq_true]
    exact ⟨okN_wt bits x k p h.1, okNs_wt bits l _ p h.2⟩
end
theorem okN_mk (r : Rw3) (waits : Int) : okN (mkT r waits) = true := by
  unfold mkT
  split
  · simp [askT, okN, okNs]
  · refine okN_wt _ _ _ _ ?_
    unfold re4T
    split
    · simp [Tmz, okN, okNs]
    · have := okN_low (mkProg r).V (mkProg r).stacks (mkProg r).D (r.pr 0) (okQ_pr r 0)
      simp only [ppr, mkProg, List.map_cons, List.getElem?_cons_zero, Option.getD_some] at this ⊢
      exact this
/-! What stands behind does not matter. -/
def rowE (a : Tm) : List Stp3 := (a.norm.pls [0] (decide (0 < a.norm.waits.length))).flatMap stepsAt
theorem seq_waits (n b : Tm) : (Tm.of 12 [n, b]).waits = n.waits := by
  unfold Tm.waits
  rw [Tm.act_eq (Tm.of 12 [n, b])]
  have hk : (Tm.of 12 [n, b]).kidsA = [n] := by simp [Tm.kidsA, Tm.of]
  rw [hk]
  simp only [Tm.acts, List.append_nil, List.filterMap_cons]
  simp [Tm.of]
theorem row_enabled (a b : Tm) (h : a.norm.kind ≠ 0) : (Tm.of 12 [a, b]).enabled = rowE a := by
  have hn : (Tm.of 12 [a, b]).norm = Tm.of 12 [a.norm, b] := by
    rw [Tm.norm_two (x := a) (y := b) rfl, if_pos (show (Tm.of 12 [a, b]).kind = 12 from rfl), if_neg h]
  unfold Tm.enabled Tm.enabledN rowE
  rw [hn, seq_waits]
  simp [Tm.of, Tm.pls, Tm.pls1, kidW, stepsAt, stpN, stp]
theorem few_three (r s t : Rw3) : few3 [r, s, t] = decide (r.sz 0 + (s.sz 0 + t.sz 0) ≤ 40) := by simp [few3]
theorem row_go (r s t : Rw3) (w : Int) (a b c : Tm) (l : List Stp3) (hfew : Am.Spec Try.prog 21 [.agg [.int .i64 0, .int .i64 0, .sl ([r, s, t].map encR3)]] (.bool true)) (ha : Am.Spec Try.prog 23 [.agg (encR3 r), .int .i64 w] (.agg (encT a)))
    (hb : Am.Spec Try.prog 23 [.agg (encR3 s), .int .i64 0] (.agg (encT b))) (hc : Am.Spec Try.prog 23 [.agg (encR3 t), .int .i64 0] (.agg (encT c))) (hn : Am.Spec Try.prog 22 [.agg (encT a)] (.agg (encT a.norm)))
    (h1 : a.norm.kind ≠ 0 → Am.Spec Try.prog 24 [.agg (encT (Tm.of 12 [a, b]))] (.sl (l.map encS))) (h2 : a.norm.kind ≠ 0 → Am.Spec Try.prog 24 [.agg (encT (Tm.of 12 [a, c]))] (.sl (l.map encS))) (hl : l.length ≤ 137438953472) (hp : ∀ x ∈ l, x.2.1.length ≤ 137438953472) :
    Am.Spec Try.prog 11 [.agg (encR3 r), .agg (encR3 s), .agg (encR3 t), .int .i64 w] (.bool true) := by
  have hs7 := sp_s7 l l hl hp
  rw [decide_eq_true rfl] at hs7
  by_cases h0 : a.norm.kind = 0
  · refine Am.Spec.of_W (W := W11) Try.func11 (by kernel_rfl) (by kernel_rfl) (by kernel_rfl) Try.ntmps11 W11_eq (rs := [.tmp 8]) (by kernel_rfl) (by simp) ?_
    intro vs
    simp [W11, W11_rs, W11_b1, W11_b2, W11_b3, W11_b9, W11_b12, W11_b14, W11_c4, W11_c5, W11_c6, W11_c7, W11_c8, W11_c10, W11_c11, W11_c13, W11_c15]
    refine scall_pure sp_kno (by simp) (by simp) ?_
    simp [W11, W11_rs, W11_b1, W11_b2, W11_b3, W11_b9, W11_b12, W11_b14, W11_c4, W11_c5, W11_c6, W11_c7, W11_c8, W11_c10, W11_c11, W11_c13, W11_c15]
    refine scall_pure hfew (by simp) (by simp) ?_
    simp [W11, W11_rs, W11_b1, W11_b2, W11_b3, W11_b9, W11_b12, W11_b14, W11_c4, W11_c5, W11_c6, W11_c7, W11_c8, W11_c10, W11_c11, W11_c13, W11_c15]
    refine scall_pure ha (by simp) (by simp) ?_
    simp [W11, W11_rs, W11_b1, W11_b2, W11_b3, W11_b9, W11_b12, W11_b14, W11_c4, W11_c5, W11_c6, W11_c7, W11_c8, W11_c10, W11_c11, W11_c13, W11_c15]
    refine scall_pure hn (by simp) (by simp) ?_
    simp [W11, W11_rs, W11_b1, W11_b2, W11_b3, W11_b9, W11_b12, W11_b14, W11_c4, W11_c5, W11_c6, W11_c7, W11_c8, W11_c10, W11_c11, W11_c13, W11_c15, h0, retW_eq]
  · have h1 := h1 h0
    have h2 := h2 h0
    rw [encT_of] at h1 h2
    refine Am.Spec.of_W (W := W11) Try.func11 (by kernel_rfl) (by kernel_rfl) (by kernel_rfl) Try.ntmps11 W11_eq (rs := [.tmp 8]) (by kernel_rfl) (by simp) ?_
    intro vs
    simp [W11, W11_rs, W11_b1, W11_b2, W11_b3, W11_b9, W11_b12, W11_b14, W11_c4, W11_c5, W11_c6, W11_c7, W11_c8, W11_c10, W11_c11, W11_c13, W11_c15]
    refine scall_pure sp_kno (by simp) (by simp) ?_
    simp [W11, W11_rs, W11_b1, W11_b2, W11_b3, W11_b9, W11_b12, W11_b14, W11_c4, W11_c5, W11_c6, W11_c7, W11_c8, W11_c10, W11_c11, W11_c13, W11_c15]
    refine scall_pure hfew (by simp) (by simp) ?_
    simp [W11, W11_rs, W11_b1, W11_b2, W11_b3, W11_b9, W11_b12, W11_b14, W11_c4, W11_c5, W11_c6, W11_c7, W11_c8, W11_c10, W11_c11, W11_c13, W11_c15]
    refine scall_pure ha (by simp) (by simp) ?_
    simp [W11, W11_rs, W11_b1, W11_b2, W11_b3, W11_b9, W11_b12, W11_b14, W11_c4, W11_c5, W11_c6, W11_c7, W11_c8, W11_c10, W11_c11, W11_c13, W11_c15]
    refine scall_pure hn (by simp) (by simp) ?_
    simp [W11, W11_rs, W11_b1, W11_b2, W11_b3, W11_b9, W11_b12, W11_b14, W11_c4, W11_c5, W11_c6, W11_c7, W11_c8, W11_c10, W11_c11, W11_c13, W11_c15, h0]
    refine scall0_pure hb (by simp) (by simp) ?_
    simp [W11, W11_rs, W11_b1, W11_b2, W11_b3, W11_b9, W11_b12, W11_b14, W11_c4, W11_c5, W11_c6, W11_c7, W11_c8, W11_c10, W11_c11, W11_c13, W11_c15]
    refine scall0_pure h1 (by simp) (by simp) ?_
    simp [W11, W11_rs, W11_b1, W11_b2, W11_b3, W11_b9, W11_b12, W11_b14, W11_c4, W11_c5, W11_c6, W11_c7, W11_c8, W11_c10, W11_c11, W11_c13, W11_c15]
    refine scall0_pure hc (by simp) (by simp) ?_
    simp [W11, W11_rs, W11_b1, W11_b2, W11_b3, W11_b9, W11_b12, W11_b14, W11_c4, W11_c5, W11_c6, W11_c7, W11_c8, W11_c10, W11_c11, W11_c13, W11_c15]
    refine scall0_pure h2 (by simp) (by simp) ?_
    simp [W11, W11_rs, W11_b1, W11_b2, W11_b3, W11_b9, W11_b12, W11_b14, W11_c4, W11_c5, W11_c6, W11_c7, W11_c8, W11_c10, W11_c11, W11_c13, W11_c15]
    refine scall_pure hs7 (by simp) (by simp) ?_
    simp [W11, W11_rs, W11_b1, W11_b2, W11_b3, W11_b9, W11_b12, W11_b14, W11_c4, W11_c5, W11_c6, W11_c7, W11_c8, W11_c10, W11_c11, W11_c13, W11_c15, retW_eq]
theorem sp_row (r s t : Rw3) (w : Int) : Am.Spec Try.prog 11 [.agg (encR3 r), .agg (encR3 s), .agg (encR3 t), .int .i64 w] (.bool true) := by
  have hfew := sp_fw3 (.int .i64 0) (.int .i64 0) [r, s, t] (by simp [maxLen]) (by simp [closed]) (by simp [closed])
  rw [few_three] at hfew
  by_cases h : r.sz 0 + (s.sz 0 + t.sz 0) ≤ 40
  · rw [decide_eq_true h] at hfew
    have z1 := r.sz_le 0
    have z2 := s.sz_le 0
    have z3 := t.sz_le 0
    have w1 := mkT_wt r w (by omega)
    have w2 := mkT_wt s 0 (by omega)
    have w3 := mkT_wt t 0 (by omega)
    have wo : ∀ a b : Tm, (Tm.of 12 [a, b]).wt = 2 + (a.wt + (b.wt + 0)) := fun a b => by simp only [Tm.of, Tm.wt, Ex.zero_wt, Tm.wts]
    have hl : (rowE (mkT r w)).length ≤ 137438953472 ∧ ∀ x ∈ rowE (mkT r w), x.2.1.length ≤ 137438953472 := by
      have hn := (mkT r w).norm_wt
      have g1 := (mkT r w).norm.pls_len [0] (decide (0 < (mkT r w).norm.waits.length))
      have g2 := steps_len ((mkT r w).norm.pls [0] (decide (0 < (mkT r w).norm.waits.length)))
      refine ⟨by unfold rowE; omega, fun x hx => ?_⟩
      obtain ⟨y, hy, e⟩ := mem_steps hx
      have := (mkT r w).norm.pls_path [0] _ y hy
      rw [e]
      simp at this
      omega
    refine row_go r s t w _ _ _ (rowE (mkT r w)) hfew (sp_mkT r w (by omega)) (sp_mkT s 0 (by omega)) (sp_mkT t 0 (by omega)) (sp_n5 _ (okN_mk r w)) (fun h0 => ?_) (fun h0 => ?_) hl.1 hl.2
    · rw [← row_enabled _ (mkT s 0) h0]
      exact sp_enb _ (by rw [wo]; omega)
    · rw [← row_enabled _ (mkT t 0) h0]
      exact sp_enb _ (by rw [wo]; omega)
  · rw [decide_eq_false h] at hfew
    refine Am.Spec.of_W (W := W11) Try.func11 (by kernel_rfl) (by kernel_rfl) (by kernel_rfl) Try.ntmps11 W11_eq (rs := [.tmp 8]) (by kernel_rfl) (by simp) ?_
    intro vs
    simp [W11, W11_rs, W11_b1, W11_b2, W11_b3, W11_b9, W11_b12, W11_b14, W11_c4, W11_c5, W11_c6, W11_c7, W11_c8, W11_c10, W11_c11, W11_c13, W11_c15]
    refine scall_pure sp_kno (by simp) (by simp) ?_
    simp [W11, W11_rs, W11_b1, W11_b2, W11_b3, W11_b9, W11_b12, W11_b14, W11_c4, W11_c5, W11_c6, W11_c7, W11_c8, W11_c10, W11_c11, W11_c13, W11_c15]
    refine scall_pure hfew (by simp) (by simp) ?_
    simp [W11, W11_rs, W11_b1, W11_b2, W11_b3, W11_b9, W11_b12, W11_b14, W11_c4, W11_c5, W11_c6, W11_c7, W11_c8, W11_c10, W11_c11, W11_c13, W11_c15, retW_eq]
end Go.Proofs.Ytkagfenchknjjaa
set_option linter.unusedVariables false
set_option linter.unusedSimpArgs false
namespace Go.Proofs.Ytkagfenchknjjaa
open Go Go.Am Go.RowKit

def aN (t : Tm) : Nat := if t.kind = 12 ∨ t.kind = 7 then 1 else if t.kind = 11 then 2 else 0
theorem sp_a5 (t : Tm) : Am.Spec Try.prog 26 [.agg (encT t)] (.int .i64 (aN t : Nat)) := by
  by_cases k1 : t.kind = 12
  · refine Am.Spec.of_W (W := W26) Try.func26 (by kernel_rfl) (by kernel_rfl) (by kernel_rfl) Try.ntmps26 W26_eq (rs := [.tmp 2]) (by kernel_rfl) (by simp) ?_
    intro vs
    simp [W26, W26_rs, W26_b1, W26_b2, W26_b3, W26_b4, W26_b6, W26_k5, k1, aN, retW_eq]
  · by_cases k2 : t.kind = 7
    · refine Am.Spec.of_W (W := W26) Try.func26 (by kernel_rfl) (by kernel_rfl) (by kernel_rfl) Try.ntmps26 W26_eq (rs := [.tmp 2]) (by kernel_rfl) (by simp) ?_
      intro vs
      simp [W26, W26_rs, W26_b1, W26_b2, W26_b3, W26_b4, W26_b6, W26_k5, k1, k2, aN, retW_eq]
    · by_cases k3 : t.kind = 11
      · refine Am.Spec.of_W (W := W26) Try.func26 (by kernel_rfl) (by kernel_rfl) (by kernel_rfl) Try.ntmps26 W26_eq (rs := [.tmp 2]) (by kernel_rfl) (by simp) ?_
        intro vs
        simp [W26, W26_rs, W26_b1, W26_b2, W26_b3, W26_b4, W26_b6, W26_k5, k1, k2, k3, aN, retW_eq]
      · refine Am.Spec.of_W (W := W26) Try.func26 (by kernel_rfl) (by kernel_rfl) (by kernel_rfl) Try.ntmps26 W26_eq (rs := [.tmp 2]) (by kernel_rfl) (by simp) ?_
        intro vs
        simp [W26, W26_rs, W26_b1, W26_b2, W26_b3, W26_b4, W26_b6, W26_k5, k1, k2, k3, aN, retW_eq]
theorem aN_le (t : Tm) (h : okN t = true) : aN t ≤ t.l.length ∧ aN t ≤ 2 := by
  unfold aN
  split
  · rename_i k
    rcases k with k | k
    · obtain ⟨x, y, hl, -⟩ := okN_two h (.inl k); simp [hl]
    · obtain ⟨x, hl, -⟩ := okN_one h k; simp [hl]
  · split
    · rename_i k
      obtain ⟨x, y, hl, -⟩ := okN_two h (.inr k); simp [hl]
    · simp
theorem okN_mem {t : Tm} (h : okN t = true) : ∀ x ∈ t.l, okN x = true := by
  rw [okN_eq] at h
  simp only [Bool.and_eq_true] at h
  exact okNs_mem h.2.2
def wk (t : Tm) (i : Nat) : List Int := (t.l.take i).flatMap Tm.waits
theorem acts_waits : ∀ l : List Tm, ((Tm.acts l).filterMap fun x => if x.kind = 14 then some x.a else none) = l.flatMap Tm.waits
  | [] => rfl
  | x :: l => by
    rw [Tm.acts_cons, List.filterMap_append, acts_waits l, List.flatMap_cons]
    rfl
theorem waits_eq (t : Tm) (h : okN t = true) : t.waits = if t.kind = 14 then [t.a] else wk t (aN t) := by
  have e : t.waits = ((t :: Tm.acts t.kidsA).filterMap fun x => if x.kind = 14 then some x.a else none) := by unfold Tm.waits; rw [Tm.act_eq]
  have e2 := acts_waits t.kidsA
  by_cases k14 : t.kind = 14
  · have hk : t.kidsA = [] := by simp [Tm.kidsA, k14]
    rw [e, hk, if_pos k14]
    simp [Tm.acts, k14]
  · rw [e, List.filterMap_cons, if_neg k14, if_neg k14]
    simp only
    rw [e2]
    have hk : t.kidsA = t.l.take (aN t) := by
      unfold Tm.kidsA aN
      by_cases k12 : t.kind = 12
      · simp [k12]
      · by_cases k7 : t.kind = 7
        · obtain ⟨x, hl, -⟩ := okN_one h k7; simp [k7, hl]
        · by_cases k11 : t.kind = 11
          · obtain ⟨x, y, hl, -⟩ := okN_two h (.inr k11); simp [k11, hl]
          · simp [k12, k7, k11]
    rw [hk, wk]
theorem wk_succ (t : Tm) (i : Nat) (h : i < t.l.length) : wk t (i + 1) = wk t i ++ t.l[i].waits := by
  unfold wk
  rw [List.take_succ_eq_append_getElem h]
  simp only [List.flatMap_append, List.flatMap_cons, List.flatMap_nil, List.append_nil]
theorem wk_len (t : Tm) (i : Nat) : (wk t i).length ≤ Tm.wts t.l := by
  unfold wk
  have : ∀ l : List Tm, (l.flatMap Tm.waits).length ≤ Tm.wts l := by
    intro l
    induction l with
    | nil => simp [Tm.wts]
    | cons x l ih => have := x.waits_len; simp only [List.flatMap_cons, List.length_append, Tm.wts]; omega
  have h1 := this (t.l.take i)
  have h2 : ∀ (l : List Tm) (i : Nat), Tm.wts (l.take i) ≤ Tm.wts l := by
    intro l
    induction l with
    | nil => simp
    | cons x l ih => intro i; cases i with
      | zero => simp [Tm.wts]
      | succ i => have := ih i; simp only [List.take_succ_cons, Tm.wts]; omega
  exact Nat.le_trans h1 (h2 _ _)
@[simp] theorem encI_cells' (p : List Int) : (∀ x ∈ encI p, x.length = 1 ∧ ∀ c ∈ x, c.cell = true) ↔ True := ⟨fun _ => trivial, fun _ => encI_cell p⟩
theorem sp_w5 (t : Tm) (h : okN t = true) (hw : t.wt ≤ 1000000) : Am.Spec Try.prog 31 [.agg (encT t)] (.sl (encI t.waits)) := by
  have ih : ∀ y ∈ t.l, Am.Spec Try.prog 31 [.agg (encT y)] (.sl (encI y.waits)) := fun y hy => sp_w5 y (okN_mem h y hy) (by have := Tm.wts_mem hy; have := t.wt_eq; omega)
  have hwt := t.wt_eq
  have ha := aN_le t h
  have hac := sp_a5 t
  rw [waits_eq t h]
  by_cases k14 : t.kind = 14
  · rw [if_pos k14]
    refine Am.Spec.of_W (W := W31) Try.func31 (by kernel_rfl) (by kernel_rfl) (by kernel_rfl) Try.ntmps31 W31_eq (rs := [.tmp 2]) (by kernel_rfl) (by simp) ?_
    intro vs
    simp [W31, W31_rs, W31_b1, W31_b4, W31_b7, W31_k2, W31_c3, W31_c5, W31_l6, k14, retW_eq, encI]
  · rw [if_neg k14]
    refine Am.Spec.of_W (W := W31) Try.func31 (by kernel_rfl) (by kernel_rfl) (by kernel_rfl) Try.ntmps31 W31_eq (rs := [.tmp 2]) (by kernel_rfl) (by simp) ?_
    intro vs
    simp [W31, W31_rs, W31_b1, W31_b4, W31_b7, W31_k2, W31_c3, W31_c5, k14]
    refine sLoop_intro (fun a : Nat × Nat => a.1 ≤ aN t) (fun a => aN t - a.1) (fun a => [(1, .ref 1 (vs 1 + 1) (.p 0)), (3, if a.1 = 0 then .nils else .ref 24 a.2 .o), (4, .int .i64 (a.1 : Nat))])
      (fun a => (1, .box (vs 1 + 1) 34 (encT t)) :: if a.1 = 0 then [] else [(24, .row a.2 3 1 (encI (wk t a.1)))]) (0, 0) (by simp) (by simp) (by simp) ?_
    rintro L ⟨i, w⟩ vt hi hL
    simp only at hi hL ⊢
    by_cases hc : i < aN t
    · have hc' : (i : Int) < aN t := by omega
      have hil : i < t.l.length := by omega
      have hil' : (i : Int) < t.l.length := by omega
      have hx := ih _ (List.getElem_mem hil)
      have hs := wk_succ t i hil
      have hlen := wk_len t i
      have hlen2 := (t.l[i]).waits_len
      have hmem := Tm.wts_mem (List.getElem_mem hil)
      by_cases h0 : i = 0
      · subst h0
        simp [W31, W31_rs, W31_b1, W31_b4, W31_b7, W31_k2, W31_c3, W31_c5, W31_l6]
        refine scall_pure hac (by simp) (by simp) ?_
        simp [W31, W31_rs, W31_b1, W31_b4, W31_b7, W31_k2, W31_c3, W31_c5, W31_l6, hc, hil]
        refine scall_pure hx (by simp) (by simp) ?_
        simp [W31, W31_rs, W31_b1, W31_b4, W31_b7, W31_k2, W31_c3, W31_c5, W31_l6]
        rw [decide_eq_true (by omega)]
        simp [W31, W31_rs, W31_b1, W31_b4, W31_b7, W31_k2, W31_c3, W31_c5, W31_l6]
        rw [wrap64 (by omega) (by omega)]
        refine hL _ _ _ (1, vt 24 + 1) (by simp only; omega) (by simp only; omega) (by simp) ?_
        have : wk t 1 = t.l[0].waits := by simpa [wk] using hs
        simp [this]
      · simp [W31, W31_rs, W31_b1, W31_b4, W31_b7, W31_k2, W31_c3, W31_c5, W31_l6, h0]
        refine scall_pure hac (by simp) (by simp) ?_
        simp [W31, W31_rs, W31_b1, W31_b4, W31_b7, W31_k2, W31_c3, W31_c5, W31_l6, hc, hil]
        refine scall_pure hx (by simp) (by simp) ?_
        simp [W31, W31_rs, W31_b1, W31_b4, W31_b7, W31_k2, W31_c3, W31_c5, W31_l6]
        rw [decide_eq_true (by omega)]
        simp [W31, W31_rs, W31_b1, W31_b4, W31_b7, W31_k2, W31_c3, W31_c5, W31_l6]
        rw [wrap64 (by omega) (by omega)]
        refine hL _ _ _ (i + 1, w + 1) (by simp only; omega) (by simp only; omega) (by simp) ?_
        simp [hs, encI]
    · obtain rfl : i = aN t := by omega
      by_cases h0 : aN t = 0
      · simp [W31, W31_rs, W31_b1, W31_b4, W31_b7, W31_k2, W31_c3, W31_c5, W31_l6, h0]
        refine scall_pure hac (by simp) (by simp) ?_
        simp [W31, W31_rs, W31_b1, W31_b4, W31_b7, W31_k2, W31_c3, W31_c5, W31_l6, h0, retW_eq, wk]
      · simp [W31, W31_rs, W31_b1, W31_b4, W31_b7, W31_k2, W31_c3, W31_c5, W31_l6, h0]
        refine scall_pure hac (by simp) (by simp) ?_
        simp [W31, W31_rs, W31_b1, W31_b4, W31_b7, W31_k2, W31_c3, W31_c5, W31_l6, h0, retW_eq]
termination_by SizeOf.sizeOf t
decreasing_by exact Tm.lt_of_mem hy
end Go.Proofs.Ytkagfenchknjjaa
set_option linter.unusedVariables false
set_option linter.unusedSimpArgs false
namespace Go.Proofs.Ytkagfenchknjjaa
open Go Go.Am Go.RowKit

theorem of_ok2 (k : Int) (x y : Tm) (hx : okN x = true) (hy : okN y = true) (hk : k ≠ 7) : okN (Tm.of k [x, y]) = true := by simp [Tm.of, okN, okNs, hx, hy, hk]
theorem of_ok1 (x : Tm) (hx : okN x = true) : okN (Tm.of 7 [x]) = true := by simp [Tm.of, okN, okNs, hx]
theorem okN_norm (t : Tm) (h : okN t = true) : okN t.norm = true := by
  by_cases k12 : t.kind = 12
  · obtain ⟨x, y, hl, hx, hy⟩ := okN_two h (.inl k12)
    have ix := okN_norm x hx
    have iy := okN_norm y hy
    rw [Tm.norm_two hl, if_pos k12]
    split
    · exact iy
    · exact of_ok2 12 _ _ ix hy (by omega)
  · by_cases k11 : t.kind = 11
    · obtain ⟨x, y, hl, hx, hy⟩ := okN_two h (.inr k11)
      have ix := okN_norm x hx
      have iy := okN_norm y hy
      rw [Tm.norm_two hl, if_neg k12, if_pos k11]
      split
      · rfl
      · exact of_ok2 11 _ _ ix iy (by omega)
    · by_cases k7 : t.kind = 7
      · obtain ⟨x, hl, hx⟩ := okN_one h k7
        have ix := okN_norm x hx
        rw [Tm.norm_one hl, if_pos k7]
        split
        · rfl
        · exact of_ok1 _ ix
      · rw [norm_leaf h k12 k11 k7]; exact h
termination_by SizeOf.sizeOf t
decreasing_by all_goals exact Tm.lt_of_mem (by simp [hl])
theorem par_waits (a b : Tm) : (Tm.of 11 [a, b]).waits = a.waits ++ b.waits := by
  have e : (Tm.of 11 [a, b]).waits = ((Tm.of 11 [a, b] :: Tm.acts (Tm.of 11 [a, b]).kidsA).filterMap fun x => if x.kind = 14 then some x.a else none) := by unfold Tm.waits; rw [Tm.act_eq]
  rw [e, List.filterMap_cons, if_neg (by simp [Tm.of])]
  simp only
  rw [acts_waits]
  simp [Tm.kidsA, Tm.of]
theorem blk_waits (a : Tm) : (Tm.of 7 [a]).waits = a.waits := by
  have e : (Tm.of 7 [a]).waits = ((Tm.of 7 [a] :: Tm.acts (Tm.of 7 [a]).kidsA).filterMap fun x => if x.kind = 14 then some x.a else none) := by unfold Tm.waits; rw [Tm.act_eq]
  rw [e, List.filterMap_cons, if_neg (by simp [Tm.of])]
  simp only
  rw [acts_waits]
  simp [Tm.kidsA, Tm.of]
/-- What is left may do something, or waits for something. -/
theorem live (t : Tm) (h : okN t = true) (h0 : t.norm.kind ≠ 0) (p : List Int) : (t.norm.pls p false).flatMap stepsAt ≠ [] ∨ t.norm.waits ≠ [] := by
  by_cases k12 : t.kind = 12
  · obtain ⟨x, y, hl, hx, hy⟩ := okN_two h (.inl k12)
    have ix := live x hx
    have iy := live y hy
    rw [Tm.norm_two hl, if_pos k12] at h0 ⊢
    by_cases hx0 : x.norm.kind = 0
    · rw [if_pos hx0] at h0 ⊢
      exact iy h0 p
    · rw [if_neg hx0, seq_waits]
      refine (ix hx0 (p ++ [0])).imp (fun h e => h ?_) id
      simp [Tm.of, Tm.pls, Tm.pls1, kidW] at e
      simpa using e.2
  · by_cases k11 : t.kind = 11
    · obtain ⟨x, y, hl, hx, hy⟩ := okN_two h (.inr k11)
      have ix := live x hx
      have iy := live y hy
      rw [Tm.norm_two hl, if_neg k12, if_pos k11] at h0 ⊢
      by_cases hxy : x.norm.kind = 0 ∧ y.norm.kind = 0
      · rw [if_pos hxy] at h0; exact absurd rfl h0
      · rw [if_neg hxy, par_waits]
        by_cases hx0 : x.norm.kind = 0
        · have hy0 : y.norm.kind ≠ 0 := fun e => hxy ⟨hx0, e⟩
          refine (iy hy0 (p ++ [1])).imp (fun h e => h ?_) (fun h e => h (List.append_eq_nil_iff.1 e).2)
          simp [Tm.of, Tm.pls, Tm.plsL, kidW] at e
          simpa using e.2.2
        · refine (ix hx0 (p ++ [0])).imp (fun h e => h ?_) (fun h e => h (List.append_eq_nil_iff.1 e).1)
          simp [Tm.of, Tm.pls, Tm.plsL, kidW] at e
          simpa using e.2.1
    · by_cases k7 : t.kind = 7
      · obtain ⟨x, hl, hx⟩ := okN_one h k7
        have ix := live x hx
        rw [Tm.norm_one hl, if_pos k7] at h0 ⊢
        by_cases hx0 : x.norm.kind = 0
        · rw [if_pos hx0] at h0; exact absurd rfl h0
        · rw [if_neg hx0, blk_waits]
          by_cases hwx : x.norm.waits = []
          · left
            intro e
            simp [Tm.of, Tm.pls, Tm.pls1, kidW, hwx] at e
            rcases ix hx0 (p ++ [0]) with h | h
            · exact h (by simpa using e.2)
            · exact h hwx
          · exact .inr hwx
      · rw [norm_leaf h k12 k11 k7] at h0 ⊢
        by_cases k14 : t.kind = 14
        · right; rw [waits_eq t h, if_pos k14]; simp
        · left
          have hk : t.kidsP = 0 := by simp [Tm.kidsP, k12, k7, k11]
          rw [Tm.pls_eq, hk]
          have : stpN (t, p, false) ≠ 0 := by
            unfold stpN
            rw [if_neg (by simp only; omega)]
            split
            · simp
            · split <;> simp
          simp [Tm.plsL, stepsAt, stp]
          exact this
termination_by SizeOf.sizeOf t
decreasing_by all_goals exact Tm.lt_of_mem (by simp [hl])
theorem en_skip' {n : Tm} (h : n.kind = 0) : n.enabledN = [] := by
  have hk : n.kidsP = 0 := by simp [Tm.kidsP, h]
  unfold Tm.enabledN
  rw [Tm.pls_eq, hk]
  simp [Tm.plsL, stepsAt, stpN, h, stp_zero]
theorem wait_left (t : Tm) (h : okN t = true) (h0 : t.norm.kind ≠ 0) (he : t.enabled = []) : t.norm.waits ≠ [] := by
  intro hw
  rcases live t h h0 [] with h1 | h1
  · apply h1
    unfold Tm.enabled Tm.enabledN at he
    rw [hw] at he
    simpa using he
  · exact h1 hw
theorem sta_go (r : Rw3) (w : Int) (t : Tm) (hfew : Am.Spec Try.prog 21 [.agg [.int .i64 0, .int .i64 0, .sl ([r].map encR3)]] (.bool true)) (hmk : Am.Spec Try.prog 23 [.agg (encR3 r), .int .i64 w] (.agg (encT t))) (hok : okN t = true) (hwt : t.wt ≤ 5040)
    (hn : Am.Spec Try.prog 22 [.agg (encT t)] (.agg (encT t.norm))) (hst : Am.Spec Try.prog 30 [.agg (encT t)] (.int .i64 t.status)) (hen : Am.Spec Try.prog 24 [.agg (encT t)] (.sl (t.enabled.map encS))) (hw5 : Am.Spec Try.prog 31 [.agg (encT t.norm)] (.sl (encI t.norm.waits))) :
    Am.Spec Try.prog 6 [.agg (encR3 r), .int .i64 w] (.bool true) := by
  by_cases h0 : t.norm.kind = 0
  · have hs : t.status = 2 := by simp [Tm.status, h0]
    have he : t.enabled = [] := en_skip' h0
    rw [hs] at hst
    rw [he] at hen
    refine Am.Spec.of_W (W := W6) Try.func6 (by kernel_rfl) (by kernel_rfl) (by kernel_rfl) Try.ntmps6 W6_eq (rs := [.tmp 4]) (by kernel_rfl) (by simp) ?_
    intro vs
    simp [W6, W6_rs, W6_b1, W6_b2, W6_b7, W6_b9, W6_b18, W6_b19, W6_b20, W6_b21, W6_b25, W6_b27, W6_c3, W6_c4, W6_c5, W6_c6, W6_c8, W6_c10, W6_c11, W6_c12, W6_c13, W6_c14, W6_c15, W6_c16, W6_c17, W6_c22, W6_c23, W6_c24, W6_c26, W6_c28]
    refine scall_pure sp_kno (by simp) (by simp) ?_
    simp [W6, W6_rs, W6_b1, W6_b2, W6_b7, W6_b9, W6_b18, W6_b19, W6_b20, W6_b21, W6_b25, W6_b27, W6_c3, W6_c4, W6_c5, W6_c6, W6_c8, W6_c10, W6_c11, W6_c12, W6_c13, W6_c14, W6_c15, W6_c16, W6_c17, W6_c22, W6_c23, W6_c24, W6_c26, W6_c28]
    refine scall_pure hfew (by simp) (by simp) ?_
    simp [W6, W6_rs, W6_b1, W6_b2, W6_b7, W6_b9, W6_b18, W6_b19, W6_b20, W6_b21, W6_b25, W6_b27, W6_c3, W6_c4, W6_c5, W6_c6, W6_c8, W6_c10, W6_c11, W6_c12, W6_c13, W6_c14, W6_c15, W6_c16, W6_c17, W6_c22, W6_c23, W6_c24, W6_c26, W6_c28]
    refine scall_pure hmk (by simp) (by simp) ?_
    simp [W6, W6_rs, W6_b1, W6_b2, W6_b7, W6_b9, W6_b18, W6_b19, W6_b20, W6_b21, W6_b25, W6_b27, W6_c3, W6_c4, W6_c5, W6_c6, W6_c8, W6_c10, W6_c11, W6_c12, W6_c13, W6_c14, W6_c15, W6_c16, W6_c17, W6_c22, W6_c23, W6_c24, W6_c26, W6_c28]
    refine scall_pure hn (by simp) (by simp) ?_
    simp [W6, W6_rs, W6_b1, W6_b2, W6_b7, W6_b9, W6_b18, W6_b19, W6_b20, W6_b21, W6_b25, W6_b27, W6_c3, W6_c4, W6_c5, W6_c6, W6_c8, W6_c10, W6_c11, W6_c12, W6_c13, W6_c14, W6_c15, W6_c16, W6_c17, W6_c22, W6_c23, W6_c24, W6_c26, W6_c28]
    refine scall_pure hst (by simp) (by simp) ?_
    simp [W6, W6_rs, W6_b1, W6_b2, W6_b7, W6_b9, W6_b18, W6_b19, W6_b20, W6_b21, W6_b25, W6_b27, W6_c3, W6_c4, W6_c5, W6_c6, W6_c8, W6_c10, W6_c11, W6_c12, W6_c13, W6_c14, W6_c15, W6_c16, W6_c17, W6_c22, W6_c23, W6_c24, W6_c26, W6_c28, h0]
    refine scall_pure hen (by simp) (by simp) ?_
    simp [W6, W6_rs, W6_b1, W6_b2, W6_b7, W6_b9, W6_b18, W6_b19, W6_b20, W6_b21, W6_b25, W6_b27, W6_c3, W6_c4, W6_c5, W6_c6, W6_c8, W6_c10, W6_c11, W6_c12, W6_c13, W6_c14, W6_c15, W6_c16, W6_c17, W6_c22, W6_c23, W6_c24, W6_c26, W6_c28, retW_eq]
  · by_cases he : t.enabled = []
    · have hs : t.status = 1 := by simp [Tm.status, h0, he]
      have hwl := wait_left t hok h0 he
      have hwl' : 0 < t.norm.waits.length := List.length_pos_iff.2 hwl
      have hwl2 : (0 : Int) < t.norm.waits.length := by omega
      rw [hs] at hst
      rw [he] at hen
      refine Am.Spec.of_W (W := W6) Try.func6 (by kernel_rfl) (by kernel_rfl) (by kernel_rfl) Try.ntmps6 W6_eq (rs := [.tmp 4]) (by kernel_rfl) (by simp) ?_
      intro vs
      simp [W6, W6_rs, W6_b1, W6_b2, W6_b7, W6_b9, W6_b18, W6_b19, W6_b20, W6_b21, W6_b25, W6_b27, W6_c3, W6_c4, W6_c5, W6_c6, W6_c8, W6_c10, W6_c11, W6_c12, W6_c13, W6_c14, W6_c15, W6_c16, W6_c17, W6_c22, W6_c23, W6_c24, W6_c26, W6_c28]
      refine scall_pure sp_kno (by simp) (by simp) ?_
      simp [W6, W6_rs, W6_b1, W6_b2, W6_b7, W6_b9, W6_b18, W6_b19, W6_b20, W6_b21, W6_b25, W6_b27, W6_c3, W6_c4, W6_c5, W6_c6, W6_c8, W6_c10, W6_c11, W6_c12, W6_c13, W6_c14, W6_c15, W6_c16, W6_c17, W6_c22, W6_c23, W6_c24, W6_c26, W6_c28]
      refine scall_pure hfew (by simp) (by simp) ?_
      simp [W6, W6_rs, W6_b1, W6_b2, W6_b7, W6_b9, W6_b18, W6_b19, W6_b20, W6_b21, W6_b25, W6_b27, W6_c3, W6_c4, W6_c5, W6_c6, W6_c8, W6_c10, W6_c11, W6_c12, W6_c13, W6_c14, W6_c15, W6_c16, W6_c17, W6_c22, W6_c23, W6_c24, W6_c26, W6_c28]
      refine scall_pure hmk (by simp) (by simp) ?_
      simp [W6, W6_rs, W6_b1, W6_b2, W6_b7, W6_b9, W6_b18, W6_b19, W6_b20, W6_b21, W6_b25, W6_b27, W6_c3, W6_c4, W6_c5, W6_c6, W6_c8, W6_c10, W6_c11, W6_c12, W6_c13, W6_c14, W6_c15, W6_c16, W6_c17, W6_c22, W6_c23, W6_c24, W6_c26, W6_c28]
      refine scall_pure hn (by simp) (by simp) ?_
      simp [W6, W6_rs, W6_b1, W6_b2, W6_b7, W6_b9, W6_b18, W6_b19, W6_b20, W6_b21, W6_b25, W6_b27, W6_c3, W6_c4, W6_c5, W6_c6, W6_c8, W6_c10, W6_c11, W6_c12, W6_c13, W6_c14, W6_c15, W6_c16, W6_c17, W6_c22, W6_c23, W6_c24, W6_c26, W6_c28]
      refine scall_pure hst (by simp) (by simp) ?_
      simp [W6, W6_rs, W6_b1, W6_b2, W6_b7, W6_b9, W6_b18, W6_b19, W6_b20, W6_b21, W6_b25, W6_b27, W6_c3, W6_c4, W6_c5, W6_c6, W6_c8, W6_c10, W6_c11, W6_c12, W6_c13, W6_c14, W6_c15, W6_c16, W6_c17, W6_c22, W6_c23, W6_c24, W6_c26, W6_c28, h0]
      refine scall_pure hen (by simp) (by simp) ?_
      simp [W6, W6_rs, W6_b1, W6_b2, W6_b7, W6_b9, W6_b18, W6_b19, W6_b20, W6_b21, W6_b25, W6_b27, W6_c3, W6_c4, W6_c5, W6_c6, W6_c8, W6_c10, W6_c11, W6_c12, W6_c13, W6_c14, W6_c15, W6_c16, W6_c17, W6_c22, W6_c23, W6_c24, W6_c26, W6_c28]
      refine scall_pure hw5 (by simp) (by simp) ?_
      simp [W6, W6_rs, W6_b1, W6_b2, W6_b7, W6_b9, W6_b18, W6_b19, W6_b20, W6_b21, W6_b25, W6_b27, W6_c3, W6_c4, W6_c5, W6_c6, W6_c8, W6_c10, W6_c11, W6_c12, W6_c13, W6_c14, W6_c15, W6_c16, W6_c17, W6_c22, W6_c23, W6_c24, W6_c26, W6_c28, h0, hwl', hwl, retW_eq]
    · have hs : t.status = 0 := by simp [Tm.status, h0, he]
      have hel : 0 < t.enabled.length := List.length_pos_iff.2 he
      rw [hs] at hst
      refine Am.Spec.of_W (W := W6) Try.func6 (by kernel_rfl) (by kernel_rfl) (by kernel_rfl) Try.ntmps6 W6_eq (rs := [.tmp 4]) (by kernel_rfl) (by simp) ?_
      intro vs
      simp [W6, W6_rs, W6_b1, W6_b2, W6_b7, W6_b9, W6_b18, W6_b19, W6_b20, W6_b21, W6_b25, W6_b27, W6_c3, W6_c4, W6_c5, W6_c6, W6_c8, W6_c10, W6_c11, W6_c12, W6_c13, W6_c14, W6_c15, W6_c16, W6_c17, W6_c22, W6_c23, W6_c24, W6_c26, W6_c28]
      refine scall_pure sp_kno (by simp) (by simp) ?_
      simp [W6, W6_rs, W6_b1, W6_b2, W6_b7, W6_b9, W6_b18, W6_b19, W6_b20, W6_b21, W6_b25, W6_b27, W6_c3, W6_c4, W6_c5, W6_c6, W6_c8, W6_c10, W6_c11, W6_c12, W6_c13, W6_c14, W6_c15, W6_c16, W6_c17, W6_c22, W6_c23, W6_c24, W6_c26, W6_c28]
      refine scall_pure hfew (by simp) (by simp) ?_
      simp [W6, W6_rs, W6_b1, W6_b2, W6_b7, W6_b9, W6_b18, W6_b19, W6_b20, W6_b21, W6_b25, W6_b27, W6_c3, W6_c4, W6_c5, W6_c6, W6_c8, W6_c10, W6_c11, W6_c12, W6_c13, W6_c14, W6_c15, W6_c16, W6_c17, W6_c22, W6_c23, W6_c24, W6_c26, W6_c28]
      refine scall_pure hmk (by simp) (by simp) ?_
      simp [W6, W6_rs, W6_b1, W6_b2, W6_b7, W6_b9, W6_b18, W6_b19, W6_b20, W6_b21, W6_b25, W6_b27, W6_c3, W6_c4, W6_c5, W6_c6, W6_c8, W6_c10, W6_c11, W6_c12, W6_c13, W6_c14, W6_c15, W6_c16, W6_c17, W6_c22, W6_c23, W6_c24, W6_c26, W6_c28]
      refine scall_pure hn (by simp) (by simp) ?_
      simp [W6, W6_rs, W6_b1, W6_b2, W6_b7, W6_b9, W6_b18, W6_b19, W6_b20, W6_b21, W6_b25, W6_b27, W6_c3, W6_c4, W6_c5, W6_c6, W6_c8, W6_c10, W6_c11, W6_c12, W6_c13, W6_c14, W6_c15, W6_c16, W6_c17, W6_c22, W6_c23, W6_c24, W6_c26, W6_c28]
      refine scall_pure hst (by simp) (by simp) ?_
      simp [W6, W6_rs, W6_b1, W6_b2, W6_b7, W6_b9, W6_b18, W6_b19, W6_b20, W6_b21, W6_b25, W6_b27, W6_c3, W6_c4, W6_c5, W6_c6, W6_c8, W6_c10, W6_c11, W6_c12, W6_c13, W6_c14, W6_c15, W6_c16, W6_c17, W6_c22, W6_c23, W6_c24, W6_c26, W6_c28, h0]
      refine scall_pure hen (by simp) (by simp) ?_
      simp [W6, W6_rs, W6_b1, W6_b2, W6_b7, W6_b9, W6_b18, W6_b19, W6_b20, W6_b21, W6_b25, W6_b27, W6_c3, W6_c4, W6_c5, W6_c6, W6_c8, W6_c10, W6_c11, W6_c12, W6_c13, W6_c14, W6_c15, W6_c16, W6_c17, W6_c22, W6_c23, W6_c24, W6_c26, W6_c28, hel, he, retW_eq]
theorem sp_sta (r : Rw3) (w : Int) : Am.Spec Try.prog 6 [.agg (encR3 r), .int .i64 w] (.bool true) := by
  have hfew := sp_fw3 (.int .i64 0) (.int .i64 0) [r] (by simp [maxLen]) (by simp [closed]) (by simp [closed])
  rw [few_one] at hfew
  by_cases h : r.sz 0 ≤ 40
  · rw [decide_eq_true h] at hfew
    have hwt := mkT_wt r w h
    have hnw := (mkT r w).norm_wt
    have hok := okN_mk r w
    exact sta_go r w (mkT r w) hfew (sp_mkT r w h) hok hwt (sp_n5 _ hok) (sp_sts _ (by omega)) (sp_enb _ (by omega)) (sp_w5 _ (okN_norm _ hok) (by omega))
  · rw [decide_eq_false h] at hfew
    refine Am.Spec.of_W (W := W6) Try.func6 (by kernel_rfl) (by kernel_rfl) (by kernel_rfl) Try.ntmps6 W6_eq (rs := [.tmp 4]) (by kernel_rfl) (by simp) ?_
    intro vs
    simp [W6, W6_rs, W6_b1, W6_b2, W6_b7, W6_b9, W6_b18, W6_b19, W6_b20, W6_b21, W6_b25, W6_b27, W6_c3, W6_c4, W6_c5, W6_c6, W6_c8, W6_c10, W6_c11, W6_c12, W6_c13, W6_c14, W6_c15, W6_c16, W6_c17, W6_c22, W6_c23, W6_c24, W6_c26, W6_c28]
    refine scall_pure sp_kno (by simp) (by simp) ?_
    simp [W6, W6_rs, W6_b1, W6_b2, W6_b7, W6_b9, W6_b18, W6_b19, W6_b20, W6_b21, W6_b25, W6_b27, W6_c3, W6_c4, W6_c5, W6_c6, W6_c8, W6_c10, W6_c11, W6_c12, W6_c13, W6_c14, W6_c15, W6_c16, W6_c17, W6_c22, W6_c23, W6_c24, W6_c26, W6_c28]
    refine scall_pure hfew (by simp) (by simp) ?_
    simp [W6, W6_rs, W6_b1, W6_b2, W6_b7, W6_b9, W6_b18, W6_b19, W6_b20, W6_b21, W6_b25, W6_b27, W6_c3, W6_c4, W6_c5, W6_c6, W6_c8, W6_c10, W6_c11, W6_c12, W6_c13, W6_c14, W6_c15, W6_c16, W6_c17, W6_c22, W6_c23, W6_c24, W6_c26, W6_c28, retW_eq]
end Go.Proofs.Ytkagfenchknjjaa
