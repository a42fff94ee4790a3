import Derived.Test.YtkagfenchknjjaaGQ7
import Derived.Test.YtkagfenchknjjaaGW8
import Derived.Test.YtkagfenchknjjaaGW9
set_option linter.unusedVariables false
set_option linter.unusedSimpArgs false
namespace Go.Proofs.Ytkagfenchknjjaa
open Go Go.Am Go.RowKit
attribute [local simp] W81 W81_rs W81_b1 W81_b3 W81_b4 W81_b6 W81_b8 W81_k2 W81_c5 W81_l7 W58 W58_rs W58_c1 W58_c2 W58_c3 W58_c4 W58_c5 W58_c6 W58_c7 W58_c8 W58_c9 W58_c10 W58_c11 W58_c12 W58_c13 W58_c14 W58_c15 W59 W59_rs W59_b1 W59_b3 W59_b4 W59_b6 W59_b8 W59_k2 W59_c5 W59_l7 W38 W38_rs W38_c1 W38_c2 W38_c3 W38_c4 W38_c5 W38_c6 W38_c7 W38_c8 W38_c9 W38_c10 W38_c11 W38_c12 W38_c13 W38_c14 W38_c15

theorem sp_eqe (l m : List Ex) (hl : l.length ≤ 137438953472) (ih : ∀ x ∈ l, ∀ y, Am.Spec Try.prog 58 [.agg (encE x), .agg (encE y)] (.bool (Ex.same x y))) :
    Am.Spec Try.prog 81 [.sl (l.map encE), .sl (m.map encE), .func 58 []] (.bool (eqL Ex.same l m)) := by
  by_cases hlm : l.length = m.length
  · have hlm' : (l.length : Int) = m.length := by omega
    refine Am.Spec.of_W (W := W81) Try.func81 (by kernel_rfl) (by kernel_rfl) (by kernel_rfl) Try.ntmps81 W81_eq (rs := [.tmp 6]) (by kernel_rfl) (by simp) ?_
    intro vs
    simp [hlm']
    refine sLoop_intro (fun i => i ≤ m.length ∧ eqL Ex.same l m = eqL Ex.same (l.drop i) (m.drop i)) (fun i => m.length - i) (fun i => [(1, .sl (m.map encE)), (2, .func 58 []), (15, .sl (l.map encE)), (16, .int .i64 (m.length : Nat)), (17, .int .i64 (i : Nat))]) (fun _ => []) 0 (by simp) (by simp) (by simp) ?_
    rintro L i vt ⟨hi, hj⟩ hL
    by_cases h : i < m.length
    · have h' : (i : Int) < m.length := by omega
      have hl2 : i < l.length := by omega
      have hd := eqL_drop Ex.same l m i hl2 h
      have hx := ih _ (List.getElem_mem hl2) m[i]
      generalize hb : Ex.same l[i] m[i] = b at *
      cases b
      · rw [hj, hd]
        simp [h, h', hl2]
        refine scall_pure hx (by simp) (by simp) ?_
        simp [retW_eq]
      · simp [h, h', hl2]
        refine scall_pure hx (by simp) (by simp) ?_
        simp
        rw [wrap64 (by omega) (by omega)]
        exact hL _ _ _ (i + 1) ⟨h, by rw [hj, hd]; simp⟩ (by omega) (by simp) (by simp)
    · have e := eqL_end Ex.same l m i (by omega) hlm
      have h' : ¬ (i : Int) < m.length := by omega
      rw [hj, e]
      simp [h, h', retW_eq]
  · have hlm' : ¬ (l.length : Int) = m.length := by omega
    rw [eqL_len _ _ _ hlm]
    refine Am.Spec.of_W (W := W81) Try.func81 (by kernel_rfl) (by kernel_rfl) (by kernel_rfl) Try.ntmps81 W81_eq (rs := [.tmp 6]) (by kernel_rfl) (by simp) ?_
    intro vs
    simp [hlm, hlm', retW_eq]
theorem sp_sme (x y : Ex) (hw : x.lok) : Am.Spec Try.prog 58 [.agg (encE x), .agg (encE y)] (.bool (Ex.same x y)) := by
  have ih : ∀ z ∈ x.l, ∀ y, Am.Spec Try.prog 58 [.agg (encE z), .agg (encE y)] (.bool (Ex.same z y)) := fun z hz y => sp_sme z y (Ex.lok_mem hw hz)
  have heq := sp_eqe x.l y.l (Ex.lok_len hw) ih
  rw [Ex.same_eq]
  by_cases c1 : x.kind = y.kind
  · by_cases c2 : x.n = y.n
    · by_cases c3 : x.name = y.name
      · refine Am.Spec.of_W (W := W58) Try.func58 (by kernel_rfl) (by kernel_rfl) (by kernel_rfl) Try.ntmps58 W58_eq (rs := [.tmp 4]) (by kernel_rfl) (by simp) ?_
        intro vs
        simp [c1, c2, c3]
        refine scall_pure heq (by simp) (by simp) ?_
        simp [retW_eq, c1, c2, c3]
      · refine Am.Spec.of_W (W := W58) Try.func58 (by kernel_rfl) (by kernel_rfl) (by kernel_rfl) Try.ntmps58 W58_eq (rs := [.tmp 4]) (by kernel_rfl) (by simp) ?_
        intro vs
        simp [c1, c2, c3, retW_eq]
    · refine Am.Spec.of_W (W := W58) Try.func58 (by kernel_rfl) (by kernel_rfl) (by kernel_rfl) Try.ntmps58 W58_eq (rs := [.tmp 4]) (by kernel_rfl) (by simp) ?_
      intro vs
      simp [c1, c2, retW_eq]
  · refine Am.Spec.of_W (W := W58) Try.func58 (by kernel_rfl) (by kernel_rfl) (by kernel_rfl) Try.ntmps58 W58_eq (rs := [.tmp 4]) (by kernel_rfl) (by simp) ?_
    intro vs
    simp [c1, retW_eq]
termination_by SizeOf.sizeOf x
decreasing_by exact Ex.lt_of_mem hz
theorem sp_eqt (l m : List Tm) (hl : l.length ≤ 137438953472) (ih : ∀ x ∈ l, ∀ y, Am.Spec Try.prog 38 [.agg (encT x), .agg (encT y)] (.bool (Tm.same x y))) :
    Am.Spec Try.prog 59 [.sl (l.map encT), .sl (m.map encT), .func 38 []] (.bool (eqL Tm.same l m)) := by
  by_cases hlm : l.length = m.length
  · have hlm' : (l.length : Int) = m.length := by omega
    refine Am.Spec.of_W (W := W59) Try.func59 (by kernel_rfl) (by kernel_rfl) (by kernel_rfl) Try.ntmps59 W59_eq (rs := [.tmp 6]) (by kernel_rfl) (by simp) ?_
    intro vs
    simp [hlm']
    refine sLoop_intro (fun i => i ≤ m.length ∧ eqL Tm.same l m = eqL Tm.same (l.drop i) (m.drop i)) (fun i => m.length - i) (fun i => [(1, .sl (m.map encT)), (2, .func 38 []), (15, .sl (l.map encT)), (16, .int .i64 (m.length : Nat)), (17, .int .i64 (i : Nat))]) (fun _ => []) 0 (by simp) (by simp) (by simp) ?_
    rintro L i vt ⟨hi, hj⟩ hL
    by_cases h : i < m.length
    · have h' : (i : Int) < m.length := by omega
      have hl2 : i < l.length := by omega
      have hd := eqL_drop Tm.same l m i hl2 h
      have hx := ih _ (List.getElem_mem hl2) m[i]
      generalize hb : Tm.same l[i] m[i] = b at *
      cases b
      · rw [hj, hd]
        simp [h, h', hl2]
        refine scall_pure hx (by simp) (by simp) ?_
        simp [retW_eq]
      · simp [h, h', hl2]
        refine scall_pure hx (by simp) (by simp) ?_
        simp
        rw [wrap64 (by omega) (by omega)]
        exact hL _ _ _ (i + 1) ⟨h, by rw [hj, hd]; simp⟩ (by omega) (by simp) (by simp)
    · have e := eqL_end Tm.same l m i (by omega) hlm
      have h' : ¬ (i : Int) < m.length := by omega
      rw [hj, e]
      simp [h, h', retW_eq]
  · have hlm' : ¬ (l.length : Int) = m.length := by omega
    rw [eqL_len _ _ _ hlm]
    refine Am.Spec.of_W (W := W59) Try.func59 (by kernel_rfl) (by kernel_rfl) (by kernel_rfl) Try.ntmps59 W59_eq (rs := [.tmp 6]) (by kernel_rfl) (by simp) ?_
    intro vs
    simp [hlm, hlm', retW_eq]
theorem sp_samL (x y : Tm) (hw : x.lok) : Am.Spec Try.prog 38 [.agg (encT x), .agg (encT y)] (.bool (Tm.same x y)) := by
  have ih : ∀ z ∈ x.l, ∀ y, Am.Spec Try.prog 38 [.agg (encT z), .agg (encT y)] (.bool (Tm.same z y)) := fun z hz y => sp_samL z y (Tm.lok_mem hw hz)
  have heq := sp_eqt x.l y.l (Tm.lok_len hw) ih
  have hse := sp_sme x.e y.e (Tm.lok_e hw)
  rw [Tm.same_eq]
  by_cases c1 : x.kind = y.kind ∧ x.a = y.a ∧ x.b = y.b
  · obtain ⟨c1, c2, c3⟩ := c1
    by_cases c4 : x.name = y.name
    · generalize hb : Ex.same x.e y.e = b at *
      cases b
      · refine Am.Spec.of_W (W := W38) Try.func38 (by kernel_rfl) (by kernel_rfl) (by kernel_rfl) Try.ntmps38 W38_eq (rs := [.tmp 4]) (by kernel_rfl) (by simp) ?_
        intro vs
        simp [c1, c2, c3, c4]
        refine scall_pure hse (by simp) (by simp) ?_
        simp [retW_eq]
      · refine Am.Spec.of_W (W := W38) Try.func38 (by kernel_rfl) (by kernel_rfl) (by kernel_rfl) Try.ntmps38 W38_eq (rs := [.tmp 4]) (by kernel_rfl) (by simp) ?_
        intro vs
        simp [c1, c2, c3, c4]
        refine scall_pure hse (by simp) (by simp) ?_
        simp
        refine scall_pure heq (by simp) (by simp) ?_
        simp [retW_eq, c1, c2, c3, c4]
    · refine Am.Spec.of_W (W := W38) Try.func38 (by kernel_rfl) (by kernel_rfl) (by kernel_rfl) Try.ntmps38 W38_eq (rs := [.tmp 4]) (by kernel_rfl) (by simp) ?_
      intro vs
      simp [c1, c2, c3, c4, retW_eq]
  · have hc : (decide (x.kind = y.kind) && (decide (x.a = y.a) && decide (x.b = y.b))) = false := by simpa using c1
    have hc' : x.kind = y.kind → x.a = y.a → ¬ x.b = y.b := fun h1 h2 h3 => c1 ⟨h1, h2, h3⟩
    rw [hc]
    refine Am.Spec.of_W (W := W38) Try.func38 (by kernel_rfl) (by kernel_rfl) (by kernel_rfl) Try.ntmps38 W38_eq (rs := [.tmp 4]) (by kernel_rfl) (by simp) ?_
    intro vs
    simp [hc, retW_eq]
termination_by SizeOf.sizeOf x
decreasing_by exact Tm.lt_of_mem hz
theorem sp_sam (x y : Tm) (hw : x.wt ≤ 137438953472) : Am.Spec Try.prog 38 [.agg (encT x), .agg (encT y)] (.bool (Tm.same x y)) := sp_samL x y (Tm.lok_of_wt x hw)
end Go.Proofs.Ytkagfenchknjjaa
