import Derived.Test.YtkagfenchknjjaaGP6
import Derived.Test.YtkagfenchknjjaaGW8
import Derived.Test.YtkagfenchknjjaaGW9
set_option linter.unusedVariables false
set_option linter.unusedSimpArgs false
namespace Go.Proofs.Ytkagfenchknjjaa
open Go Go.Am Go.RowKit

end Go.Proofs.Ytkagfenchknjjaa
set_option linter.unusedVariables false
set_option linter.unusedSimpArgs false
namespace Go.Proofs.Ytkagfenchknjjaa
open Go Go.Am Go.RowKit

theorem sp_cle (rows : List (List AV)) (h : ∀ x ∈ rows, x.length = 4 ∧ ∀ c ∈ x, c.cell = true) (hc : closedLL rows = true) (hl : rows.length ≤ 137438953472) : Am.Spec Try.prog 100 [.sl rows] (.sl rows) := by
  refine Am.Spec.of_W (W := W100) Try.func100 (by kernel_rfl) (by kernel_rfl) (by kernel_rfl) Try.ntmps100 W100_eq (rs := [.tmp 2]) (by kernel_rfl) (by simp) ?_
  intro vs
  simp [W100, W100_rs, W100_b1, W100_b2, W100_c3]
  refine sNil_sl _ _ _ _ _ _ ?_ fun e => ?_
  · simp [W100, W100_rs, W100_b1, W100_b2, W100_c3]
    rw [if_pos h]
    simp [W100, W100_rs, W100_b1, W100_b2, W100_c3]
    rw [decide_eq_true (by omega)]
    simp [W100, W100_rs, W100_b1, W100_b2, W100_c3, retW_eq, hc]
  · subst e
    simp [W100, W100_rs, W100_b1, W100_b2, W100_c3, retW_eq]
theorem sp_clt (rows : List (List AV)) (h : ∀ x ∈ rows, x.length = 9 ∧ ∀ c ∈ x, c.cell = true) (hc : closedLL rows = true) (hl : rows.length ≤ 137438953472) : Am.Spec Try.prog 82 [.sl rows] (.sl rows) := by
  refine Am.Spec.of_W (W := W82) Try.func82 (by kernel_rfl) (by kernel_rfl) (by kernel_rfl) Try.ntmps82 W82_eq (rs := [.tmp 2]) (by kernel_rfl) (by simp) ?_
  intro vs
  simp [W82, W82_rs, W82_b1, W82_b2, W82_c3]
  refine sNil_sl _ _ _ _ _ _ ?_ fun e => ?_
  · simp [W82, W82_rs, W82_b1, W82_b2, W82_c3]
    rw [if_pos h]
    simp [W82, W82_rs, W82_b1, W82_b2, W82_c3]
    rw [decide_eq_true (by omega)]
    simp [W82, W82_rs, W82_b1, W82_b2, W82_c3, retW_eq, hc]
  · subst e
    simp [W82, W82_rs, W82_b1, W82_b2, W82_c3, retW_eq]
theorem sp_cls (rows : List (List AV)) (h : ∀ x ∈ rows, x.length = 3 ∧ ∀ c ∈ x, c.cell = true) (hc : closedLL rows = true) (hl : rows.length ≤ 137438953472) : Am.Spec Try.prog 50 [.sl rows] (.sl rows) := by
  refine Am.Spec.of_W (W := W50) Try.func50 (by kernel_rfl) (by kernel_rfl) (by kernel_rfl) Try.ntmps50 W50_eq (rs := [.tmp 2]) (by kernel_rfl) (by simp) ?_
  intro vs
  simp [W50, W50_rs, W50_b1, W50_b2, W50_c3]
  refine sNil_sl _ _ _ _ _ _ ?_ fun e => ?_
  · simp [W50, W50_rs, W50_b1, W50_b2, W50_c3]
    rw [if_pos h]
    simp [W50, W50_rs, W50_b1, W50_b2, W50_c3]
    rw [decide_eq_true (by omega)]
    simp [W50, W50_rs, W50_b1, W50_b2, W50_c3, retW_eq, hc]
  · subst e
    simp [W50, W50_rs, W50_b1, W50_b2, W50_c3, retW_eq]
theorem sp_cli (rows : List (List AV)) (h : ∀ x ∈ rows, x.length = 1 ∧ ∀ c ∈ x, c.cell = true) (hc : closedLL rows = true) (hl : rows.length ≤ 137438953472) : Am.Spec Try.prog 49 [.sl rows] (.sl rows) := by
  refine Am.Spec.of_W (W := W49) Try.func49 (by kernel_rfl) (by kernel_rfl) (by kernel_rfl) Try.ntmps49 W49_eq (rs := [.tmp 2]) (by kernel_rfl) (by simp) ?_
  intro vs
  simp [W49, W49_rs, W49_b1, W49_b2, W49_c3]
  refine sNil_sl _ _ _ _ _ _ ?_ fun e => ?_
  · simp [W49, W49_rs, W49_b1, W49_b2, W49_c3]
    rw [if_pos h]
    simp [W49, W49_rs, W49_b1, W49_b2, W49_c3]
    rw [decide_eq_true (by omega)]
    simp [W49, W49_rs, W49_b1, W49_b2, W49_c3, retW_eq, hc]
  · subst e
    simp [W49, W49_rs, W49_b1, W49_b2, W49_c3, retW_eq]
theorem rw_cli (l : List Int) (hl : l.length ≤ 137438953472) : Am.RowSpec Try.prog 49 [.sl (encI l)] 3 1 (encI l) := by
  refine Am.RowSpec.of_W (W := W49) Try.func49 (by kernel_rfl) (by kernel_rfl) (by kernel_rfl) Try.ntmps49 W49_eq (rs := [.tmp 2]) (by kernel_rfl) (by simp) (by simp) ?_
  intro vs
  simp [W49, W49_rs, W49_b1, W49_b2, W49_c3]
  refine sNil_sl _ _ _ _ _ _ ?_ fun e => ?_
  · simp [W49, W49_rs, W49_b1, W49_b2, W49_c3]
    rw [if_pos (by simpa using encI_cell l)]
    simp [W49, W49_rs, W49_b1, W49_b2, W49_c3]
    rw [decide_eq_true (by omega)]
    simp [W49, W49_rs, W49_b1, W49_b2, W49_c3]
    refine retRW_of _ _ _ _ _ _ 5 (vs 5 + 1 + 1) (by simp [resV, resOne]) (by simp)
  · rw [e]
    simp [W49, W49_rs, W49_b1, W49_b2, W49_c3]
    exact retRW_nil _ _ _ _ _ (by simp [resV, resOne]) (by omega)
theorem sp_owe (x : Ex) (hw : x.wt ≤ 137438953472) : Am.Spec Try.prog 83 [.agg (encE x)] (.agg (encE x)) := by
  have hlen := Ex.wts_len x.l
  have hwt := x.wt_eq
  refine Am.Spec.of_W (W := W83) Try.func83 (by kernel_rfl) (by kernel_rfl) (by kernel_rfl) Try.ntmps83 W83_eq (rs := [.cell 2 31]) (by kernel_rfl) (by simp) ?_
  intro vs
  simp [W83, W83_rs, W83_c1, W83_c3, W83_k2, W83_b4, W83_l5]
  rw [decide_eq_true (p := 56 * x.l.length ≤ 281474976710656) (by omega), decide_eq_true (p := x.l.length ≤ maxLen) (by simp only [maxLen]; omega)]
  simp [W83, W83_rs, W83_c1, W83_c3, W83_k2, W83_b4, W83_l5]
  refine sLoop_intro (fun a : Nat × Nat => a.1 ≤ x.l.length) (fun a => x.l.length - a.1)
    (fun a => [(1, .ref 1 (vs 1 + 1) (.p 0)), (2, .ref 2 (vs 2 + 1) (.p 0)), (3, .ref 9 a.2 .o), (11, .sl (x.l.map encE)), (12, .int .i64 x.l.length), (13, .int .i64 (a.1 : Nat))])
    (fun a => [(1, .box (vs 1 + 1) 31 (encE x)), (2, .box (vs 2 + 1) 31 [.int .i64 0, .int .i64 0, .str ⟨#[]⟩, .nils]), (9, .row a.2 31 4 ((x.l.take a.1).map encE))]) (0, vs 9 + 1) (by simp) (by simp) (by simp) ?_
  intro L ⟨i, v⟩ vt hi hL
  simp only at hi
  simp [W83, W83_rs, W83_c1, W83_c3, W83_k2, W83_b4, W83_l5]
  refine sIf_dec (fun h => ?_) (fun h => ?_)
  · simp [W83, W83_rs, W83_c1, W83_c3, W83_k2, W83_b4, W83_l5, h]
    refine scall_pure (sp_owe x.l[i] (by have := Ex.wts_mem (List.getElem_mem h); omega)) (by simp) (by simp) ?_
    simp [W83, W83_rs, W83_c1, W83_c3, W83_k2, W83_b4, W83_l5]
    rw [decide_eq_true (by omega)]
    simp [W83, W83_rs, W83_c1, W83_c3, W83_k2, W83_b4, W83_l5]
    rw [wrap64 (by omega) (by omega)]
    refine hL _ _ _ (i + 1, v + 1) (by simp; omega) (by simp; omega) (by simp) (by simp [take_map_succ encE x.l i h])
  · simp [W83, W83_rs, W83_c1, W83_c3, W83_k2, W83_b4, W83_l5]
    refine scall_pure (sp_cle (x.l.map encE) (by simp; exact fun a _ => encE_cell a) (by simp) (by simp; omega)) (by simp; rw [List.take_of_length_le (by simp; omega)]) (by simp) ?_
    simp [W83, W83_rs, W83_c1, W83_c3, W83_k2, W83_b4, W83_l5, retW_eq]
termination_by SizeOf.sizeOf x
decreasing_by exact Ex.lt_of_mem (List.getElem_mem h)
theorem sp_own (x : Tm) (hw : x.wt ≤ 137438953472) : Am.Spec Try.prog 61 [.agg (encT x)] (.agg (encT x)) := by
  have hlen := Tm.wts_len x.l
  have hwt := x.wt_eq
  refine Am.Spec.of_W (W := W61) Try.func61 (by kernel_rfl) (by kernel_rfl) (by kernel_rfl) Try.ntmps61 W61_eq (rs := [.cell 2 34]) (by kernel_rfl) (by simp) ?_
  intro vs
  simp [W61, W61_rs, W61_c1, W61_c2, W61_c4, W61_k3, W61_b5, W61_l6]
  rw [decide_eq_true (p := 120 * x.l.length ≤ 281474976710656) (by omega), decide_eq_true (p := x.l.length ≤ maxLen) (by simp only [maxLen]; omega)]
  simp [W61, W61_rs, W61_c1, W61_c2, W61_c4, W61_k3, W61_b5, W61_l6]
  refine sLoop_intro (fun a : Nat × Nat => a.1 ≤ x.l.length) (fun a => x.l.length - a.1)
    (fun a => [(1, .ref 1 (vs 1 + 1) (.p 0)), (2, .ref 2 (vs 2 + 1) (.p 0)), (3, .ref 9 a.2 .o), (11, .sl (x.l.map encT)), (12, .int .i64 x.l.length), (13, .int .i64 (a.1 : Nat))])
    (fun a => [(1, .box (vs 1 + 1) 34 (encT x)), (2, .box (vs 2 + 1) 34 [.int .i64 0, .int .i64 0, .int .i64 0, .str ⟨#[]⟩, .int .i64 0, .int .i64 0, .str ⟨#[]⟩, .nils, .nils]), (9, .row a.2 34 9 ((x.l.take a.1).map encT))]) (0, vs 9 + 1) (by simp) (by simp) (by simp) ?_
  intro L ⟨i, v⟩ vt hi hL
  simp only at hi
  simp [W61, W61_rs, W61_c1, W61_c2, W61_c4, W61_k3, W61_b5, W61_l6]
  refine sIf_dec (fun h => ?_) (fun h => ?_)
  · simp [W61, W61_rs, W61_c1, W61_c2, W61_c4, W61_k3, W61_b5, W61_l6, h]
    refine scall_pure (sp_own x.l[i] (by have := Tm.wts_mem (List.getElem_mem h); omega)) (by simp) (by simp) ?_
    simp [W61, W61_rs, W61_c1, W61_c2, W61_c4, W61_k3, W61_b5, W61_l6]
    rw [decide_eq_true (by omega)]
    simp [W61, W61_rs, W61_c1, W61_c2, W61_c4, W61_k3, W61_b5, W61_l6]
    rw [wrap64 (by omega) (by omega)]
    refine hL _ _ _ (i + 1, v + 1) (by simp; omega) (by simp; omega) (by simp) (by simp [take_map_succ encT x.l i h])
  · simp [W61, W61_rs, W61_c1, W61_c2, W61_c4, W61_k3, W61_b5, W61_l6]
    refine scall0_pure (sp_clt (x.l.map encT) (by simp; exact fun a _ => encT_cell a) (by simp) (by simp; omega)) (by simp; rw [List.take_of_length_le (by simp; omega)]) (by simp) ?_
    simp [W61, W61_rs, W61_c1, W61_c2, W61_c4, W61_k3, W61_b5, W61_l6]
    refine scall0_pure (sp_owe x.e (by omega)) (by simp) (by simp) ?_
    simp [W61, W61_rs, W61_c1, W61_c2, W61_c4, W61_k3, W61_b5, W61_l6, retW_eq]
termination_by SizeOf.sizeOf x
decreasing_by exact Tm.lt_of_mem (List.getElem_mem h)
end Go.Proofs.Ytkagfenchknjjaa
set_option linter.unusedVariables false
set_option linter.unusedSimpArgs false
namespace Go.Proofs.Ytkagfenchknjjaa
open Go Go.Am Go.RowKit

theorem sp_nsk (x : Tm) : Am.Spec Try.prog 60 [.agg (encT x)] (.bool (decide (x.kind = 0))) := by
  refine Am.Spec.of_W (W := W60) Try.func60 (by kernel_rfl) (by kernel_rfl) (by kernel_rfl) Try.ntmps60 W60_eq (rs := [.tmp 2]) (by kernel_rfl) (by simp) ?_
  intro vs
  simp [W60, W60_rs, retW_eq]
theorem sp_nrm (t : Tm) (hw : t.wt ≤ 137438953472) : Am.Spec Try.prog 40 [.agg (encT t)] (.agg (encT t.norm)) := by
  have hwt := t.wt_eq
  refine Am.Spec.of_W (W := W40) Try.func40 (by kernel_rfl) (by kernel_rfl) (by kernel_rfl) Try.ntmps40 W40_eq (rs := [.cell 2 34]) (by kernel_rfl) (by simp) ?_
  intro vs
  simp [W40, W40_rs, W40_c1, W40_c3, W40_c5, W40_c6, W40_c10, W40_c11, W40_c12, W40_c13, W40_c14, W40_c15, W40_c19, W40_c20, W40_c22, W40_c24, W40_c25, W40_c26, W40_c27, W40_c29, W40_c30, W40_c31, W40_c32, W40_c34, W40_c35, W40_c36, W40_c37, W40_b2, W40_b4, W40_b7, W40_b8, W40_b9, W40_b16, W40_b17, W40_b18, W40_b21, W40_b23, W40_b28, W40_b33]
  by_cases h2 : t.l.length = 2
  · obtain ⟨x, y, hl⟩ : ∃ x y, t.l = [x, y] := by
      rcases hl : t.l with _ | ⟨x, _ | ⟨y, _ | ⟨z, r⟩⟩⟩ <;> simp [hl] at h2
      exact ⟨x, y, rfl⟩
    have wx : x.wt < t.wt := by rw [hwt, hl]; simp only [Tm.wts]; omega
    have wy : y.wt < t.wt := by rw [hwt, hl]; simp only [Tm.wts]; omega
    have mx : x ∈ t.l := by rw [hl]; simp
    have my : y ∈ t.l := by rw [hl]; simp
    rw [Tm.norm_two hl]
    by_cases k12 : t.kind = 12
    · rw [if_pos k12]
      simp [W40, W40_rs, W40_c1, W40_c3, W40_c5, W40_c6, W40_c10, W40_c11, W40_c12, W40_c13, W40_c14, W40_c15, W40_c19, W40_c20, W40_c22, W40_c24, W40_c25, W40_c26, W40_c27, W40_c29, W40_c30, W40_c31, W40_c32, W40_c34, W40_c35, W40_c36, W40_c37, W40_b2, W40_b4, W40_b7, W40_b8, W40_b9, W40_b16, W40_b17, W40_b18, W40_b21, W40_b23, W40_b28, W40_b33, k12, hl]
      refine scall_pure (sp_nrm x (by omega)) (by simp) (by simp) ?_
      simp [W40, W40_rs, W40_c1, W40_c3, W40_c5, W40_c6, W40_c10, W40_c11, W40_c12, W40_c13, W40_c14, W40_c15, W40_c19, W40_c20, W40_c22, W40_c24, W40_c25, W40_c26, W40_c27, W40_c29, W40_c30, W40_c31, W40_c32, W40_c34, W40_c35, W40_c36, W40_c37, W40_b2, W40_b4, W40_b7, W40_b8, W40_b9, W40_b16, W40_b17, W40_b18, W40_b21, W40_b23, W40_b28, W40_b33]
      refine scall_flat (sp_nsk x.norm) (by simp) (by simp) rfl ?_
      simp [W40, W40_rs, W40_c1, W40_c3, W40_c5, W40_c6, W40_c10, W40_c11, W40_c12, W40_c13, W40_c14, W40_c15, W40_c19, W40_c20, W40_c22, W40_c24, W40_c25, W40_c26, W40_c27, W40_c29, W40_c30, W40_c31, W40_c32, W40_c34, W40_c35, W40_c36, W40_c37, W40_b2, W40_b4, W40_b7, W40_b8, W40_b9, W40_b16, W40_b17, W40_b18, W40_b21, W40_b23, W40_b28, W40_b33]
      by_cases hx : x.norm.kind = 0
      · simp [W40, W40_rs, W40_c1, W40_c3, W40_c5, W40_c6, W40_c10, W40_c11, W40_c12, W40_c13, W40_c14, W40_c15, W40_c19, W40_c20, W40_c22, W40_c24, W40_c25, W40_c26, W40_c27, W40_c29, W40_c30, W40_c31, W40_c32, W40_c34, W40_c35, W40_c36, W40_c37, W40_b2, W40_b4, W40_b7, W40_b8, W40_b9, W40_b16, W40_b17, W40_b18, W40_b21, W40_b23, W40_b28, W40_b33, hx, hl]
        refine scall_pure (sp_nrm y (by omega)) (by simp) (by simp) ?_
        simp [W40, W40_rs, W40_c1, W40_c3, W40_c5, W40_c6, W40_c10, W40_c11, W40_c12, W40_c13, W40_c14, W40_c15, W40_c19, W40_c20, W40_c22, W40_c24, W40_c25, W40_c26, W40_c27, W40_c29, W40_c30, W40_c31, W40_c32, W40_c34, W40_c35, W40_c36, W40_c37, W40_b2, W40_b4, W40_b7, W40_b8, W40_b9, W40_b16, W40_b17, W40_b18, W40_b21, W40_b23, W40_b28, W40_b33, retW_eq, hx]
      · simp [W40, W40_rs, W40_c1, W40_c3, W40_c5, W40_c6, W40_c10, W40_c11, W40_c12, W40_c13, W40_c14, W40_c15, W40_c19, W40_c20, W40_c22, W40_c24, W40_c25, W40_c26, W40_c27, W40_c29, W40_c30, W40_c31, W40_c32, W40_c34, W40_c35, W40_c36, W40_c37, W40_b2, W40_b4, W40_b7, W40_b8, W40_b9, W40_b16, W40_b17, W40_b18, W40_b21, W40_b23, W40_b28, W40_b33, hx, hl]
        refine scall0_pure (sp_own y (by omega)) (by simp) (by simp) ?_
        simp [W40, W40_rs, W40_c1, W40_c3, W40_c5, W40_c6, W40_c10, W40_c11, W40_c12, W40_c13, W40_c14, W40_c15, W40_c19, W40_c20, W40_c22, W40_c24, W40_c25, W40_c26, W40_c27, W40_c29, W40_c30, W40_c31, W40_c32, W40_c34, W40_c35, W40_c36, W40_c37, W40_b2, W40_b4, W40_b7, W40_b8, W40_b9, W40_b16, W40_b17, W40_b18, W40_b21, W40_b23, W40_b28, W40_b33, retW_eq, encT_of, hx]
    · rw [if_neg k12]
      by_cases k11 : t.kind = 11
      · rw [if_pos k11]
        simp [W40, W40_rs, W40_c1, W40_c3, W40_c5, W40_c6, W40_c10, W40_c11, W40_c12, W40_c13, W40_c14, W40_c15, W40_c19, W40_c20, W40_c22, W40_c24, W40_c25, W40_c26, W40_c27, W40_c29, W40_c30, W40_c31, W40_c32, W40_c34, W40_c35, W40_c36, W40_c37, W40_b2, W40_b4, W40_b7, W40_b8, W40_b9, W40_b16, W40_b17, W40_b18, W40_b21, W40_b23, W40_b28, W40_b33, k12, k11, hl]
        refine scall0_pure (sp_nrm x (by omega)) (by simp) (by simp) ?_
        simp [W40, W40_rs, W40_c1, W40_c3, W40_c5, W40_c6, W40_c10, W40_c11, W40_c12, W40_c13, W40_c14, W40_c15, W40_c19, W40_c20, W40_c22, W40_c24, W40_c25, W40_c26, W40_c27, W40_c29, W40_c30, W40_c31, W40_c32, W40_c34, W40_c35, W40_c36, W40_c37, W40_b2, W40_b4, W40_b7, W40_b8, W40_b9, W40_b16, W40_b17, W40_b18, W40_b21, W40_b23, W40_b28, W40_b33, k12, k11, hl]
        refine scall0_pure (sp_nrm y (by omega)) (by simp) (by simp) ?_
        simp [W40, W40_rs, W40_c1, W40_c3, W40_c5, W40_c6, W40_c10, W40_c11, W40_c12, W40_c13, W40_c14, W40_c15, W40_c19, W40_c20, W40_c22, W40_c24, W40_c25, W40_c26, W40_c27, W40_c29, W40_c30, W40_c31, W40_c32, W40_c34, W40_c35, W40_c36, W40_c37, W40_b2, W40_b4, W40_b7, W40_b8, W40_b9, W40_b16, W40_b17, W40_b18, W40_b21, W40_b23, W40_b28, W40_b33]
        refine scall_flat (sp_nsk x.norm) (by simp) (by simp) rfl ?_
        simp [W40, W40_rs, W40_c1, W40_c3, W40_c5, W40_c6, W40_c10, W40_c11, W40_c12, W40_c13, W40_c14, W40_c15, W40_c19, W40_c20, W40_c22, W40_c24, W40_c25, W40_c26, W40_c27, W40_c29, W40_c30, W40_c31, W40_c32, W40_c34, W40_c35, W40_c36, W40_c37, W40_b2, W40_b4, W40_b7, W40_b8, W40_b9, W40_b16, W40_b17, W40_b18, W40_b21, W40_b23, W40_b28, W40_b33]
        by_cases hx : x.norm.kind = 0
        · simp [W40, W40_rs, W40_c1, W40_c3, W40_c5, W40_c6, W40_c10, W40_c11, W40_c12, W40_c13, W40_c14, W40_c15, W40_c19, W40_c20, W40_c22, W40_c24, W40_c25, W40_c26, W40_c27, W40_c29, W40_c30, W40_c31, W40_c32, W40_c34, W40_c35, W40_c36, W40_c37, W40_b2, W40_b4, W40_b7, W40_b8, W40_b9, W40_b16, W40_b17, W40_b18, W40_b21, W40_b23, W40_b28, W40_b33, hx]
          refine scall_flat (sp_nsk y.norm) (by simp) (by simp) rfl ?_
          simp [W40, W40_rs, W40_c1, W40_c3, W40_c5, W40_c6, W40_c10, W40_c11, W40_c12, W40_c13, W40_c14, W40_c15, W40_c19, W40_c20, W40_c22, W40_c24, W40_c25, W40_c26, W40_c27, W40_c29, W40_c30, W40_c31, W40_c32, W40_c34, W40_c35, W40_c36, W40_c37, W40_b2, W40_b4, W40_b7, W40_b8, W40_b9, W40_b16, W40_b17, W40_b18, W40_b21, W40_b23, W40_b28, W40_b33]
          by_cases hy : y.norm.kind = 0
          · simp [W40, W40_rs, W40_c1, W40_c3, W40_c5, W40_c6, W40_c10, W40_c11, W40_c12, W40_c13, W40_c14, W40_c15, W40_c19, W40_c20, W40_c22, W40_c24, W40_c25, W40_c26, W40_c27, W40_c29, W40_c30, W40_c31, W40_c32, W40_c34, W40_c35, W40_c36, W40_c37, W40_b2, W40_b4, W40_b7, W40_b8, W40_b9, W40_b16, W40_b17, W40_b18, W40_b21, W40_b23, W40_b28, W40_b33, hx, hy, retW_eq, encT_skip]
          · simp [W40, W40_rs, W40_c1, W40_c3, W40_c5, W40_c6, W40_c10, W40_c11, W40_c12, W40_c13, W40_c14, W40_c15, W40_c19, W40_c20, W40_c22, W40_c24, W40_c25, W40_c26, W40_c27, W40_c29, W40_c30, W40_c31, W40_c32, W40_c34, W40_c35, W40_c36, W40_c37, W40_b2, W40_b4, W40_b7, W40_b8, W40_b9, W40_b16, W40_b17, W40_b18, W40_b21, W40_b23, W40_b28, W40_b33, hx, hy, retW_eq, encT_of]
        · simp [W40, W40_rs, W40_c1, W40_c3, W40_c5, W40_c6, W40_c10, W40_c11, W40_c12, W40_c13, W40_c14, W40_c15, W40_c19, W40_c20, W40_c22, W40_c24, W40_c25, W40_c26, W40_c27, W40_c29, W40_c30, W40_c31, W40_c32, W40_c34, W40_c35, W40_c36, W40_c37, W40_b2, W40_b4, W40_b7, W40_b8, W40_b9, W40_b16, W40_b17, W40_b18, W40_b21, W40_b23, W40_b28, W40_b33, hx, retW_eq, encT_of]
      · rw [if_neg k11]
        simp [W40, W40_rs, W40_c1, W40_c3, W40_c5, W40_c6, W40_c10, W40_c11, W40_c12, W40_c13, W40_c14, W40_c15, W40_c19, W40_c20, W40_c22, W40_c24, W40_c25, W40_c26, W40_c27, W40_c29, W40_c30, W40_c31, W40_c32, W40_c34, W40_c35, W40_c36, W40_c37, W40_b2, W40_b4, W40_b7, W40_b8, W40_b9, W40_b16, W40_b17, W40_b18, W40_b21, W40_b23, W40_b28, W40_b33, k12, k11, hl]
        by_cases k7 : t.kind = 7
        · simp [W40, W40_rs, W40_c1, W40_c3, W40_c5, W40_c6, W40_c10, W40_c11, W40_c12, W40_c13, W40_c14, W40_c15, W40_c19, W40_c20, W40_c22, W40_c24, W40_c25, W40_c26, W40_c27, W40_c29, W40_c30, W40_c31, W40_c32, W40_c34, W40_c35, W40_c36, W40_c37, W40_b2, W40_b4, W40_b7, W40_b8, W40_b9, W40_b16, W40_b17, W40_b18, W40_b21, W40_b23, W40_b28, W40_b33, k7, hl]
          refine scall_pure (sp_own t (by omega)) (by simp) (by simp) ?_
          simp [W40, W40_rs, W40_c1, W40_c3, W40_c5, W40_c6, W40_c10, W40_c11, W40_c12, W40_c13, W40_c14, W40_c15, W40_c19, W40_c20, W40_c22, W40_c24, W40_c25, W40_c26, W40_c27, W40_c29, W40_c30, W40_c31, W40_c32, W40_c34, W40_c35, W40_c36, W40_c37, W40_b2, W40_b4, W40_b7, W40_b8, W40_b9, W40_b16, W40_b17, W40_b18, W40_b21, W40_b23, W40_b28, W40_b33, retW_eq]
        · simp [W40, W40_rs, W40_c1, W40_c3, W40_c5, W40_c6, W40_c10, W40_c11, W40_c12, W40_c13, W40_c14, W40_c15, W40_c19, W40_c20, W40_c22, W40_c24, W40_c25, W40_c26, W40_c27, W40_c29, W40_c30, W40_c31, W40_c32, W40_c34, W40_c35, W40_c36, W40_c37, W40_b2, W40_b4, W40_b7, W40_b8, W40_b9, W40_b16, W40_b17, W40_b18, W40_b21, W40_b23, W40_b28, W40_b33, k7]
          refine scall_pure (sp_own t (by omega)) (by simp) (by simp) ?_
          simp [W40, W40_rs, W40_c1, W40_c3, W40_c5, W40_c6, W40_c10, W40_c11, W40_c12, W40_c13, W40_c14, W40_c15, W40_c19, W40_c20, W40_c22, W40_c24, W40_c25, W40_c26, W40_c27, W40_c29, W40_c30, W40_c31, W40_c32, W40_c34, W40_c35, W40_c36, W40_c37, W40_b2, W40_b4, W40_b7, W40_b8, W40_b9, W40_b16, W40_b17, W40_b18, W40_b21, W40_b23, W40_b28, W40_b33, retW_eq]
  · by_cases h1 : t.l.length = 1
    · obtain ⟨x, hl⟩ : ∃ x, t.l = [x] := by
        rcases hl : t.l with _ | ⟨x, _ | ⟨y, r⟩⟩ <;> simp [hl] at h1
        exact ⟨x, rfl⟩
      have wx : x.wt < t.wt := by rw [hwt, hl]; simp only [Tm.wts]; omega
      have mx : x ∈ t.l := by rw [hl]; simp
      rw [Tm.norm_one hl]
      by_cases k7 : t.kind = 7
      · rw [if_pos k7]
        simp [W40, W40_rs, W40_c1, W40_c3, W40_c5, W40_c6, W40_c10, W40_c11, W40_c12, W40_c13, W40_c14, W40_c15, W40_c19, W40_c20, W40_c22, W40_c24, W40_c25, W40_c26, W40_c27, W40_c29, W40_c30, W40_c31, W40_c32, W40_c34, W40_c35, W40_c36, W40_c37, W40_b2, W40_b4, W40_b7, W40_b8, W40_b9, W40_b16, W40_b17, W40_b18, W40_b21, W40_b23, W40_b28, W40_b33, k7, hl]
        refine scall_pure (sp_nrm x (by omega)) (by simp) (by simp) ?_
        simp [W40, W40_rs, W40_c1, W40_c3, W40_c5, W40_c6, W40_c10, W40_c11, W40_c12, W40_c13, W40_c14, W40_c15, W40_c19, W40_c20, W40_c22, W40_c24, W40_c25, W40_c26, W40_c27, W40_c29, W40_c30, W40_c31, W40_c32, W40_c34, W40_c35, W40_c36, W40_c37, W40_b2, W40_b4, W40_b7, W40_b8, W40_b9, W40_b16, W40_b17, W40_b18, W40_b21, W40_b23, W40_b28, W40_b33]
        refine scall_flat (sp_nsk x.norm) (by simp) (by simp) rfl ?_
        simp [W40, W40_rs, W40_c1, W40_c3, W40_c5, W40_c6, W40_c10, W40_c11, W40_c12, W40_c13, W40_c14, W40_c15, W40_c19, W40_c20, W40_c22, W40_c24, W40_c25, W40_c26, W40_c27, W40_c29, W40_c30, W40_c31, W40_c32, W40_c34, W40_c35, W40_c36, W40_c37, W40_b2, W40_b4, W40_b7, W40_b8, W40_b9, W40_b16, W40_b17, W40_b18, W40_b21, W40_b23, W40_b28, W40_b33]
        by_cases hx : x.norm.kind = 0
        · simp [W40, W40_rs, W40_c1, W40_c3, W40_c5, W40_c6, W40_c10, W40_c11, W40_c12, W40_c13, W40_c14, W40_c15, W40_c19, W40_c20, W40_c22, W40_c24, W40_c25, W40_c26, W40_c27, W40_c29, W40_c30, W40_c31, W40_c32, W40_c34, W40_c35, W40_c36, W40_c37, W40_b2, W40_b4, W40_b7, W40_b8, W40_b9, W40_b16, W40_b17, W40_b18, W40_b21, W40_b23, W40_b28, W40_b33, hx, retW_eq, encT_skip]
        · simp [W40, W40_rs, W40_c1, W40_c3, W40_c5, W40_c6, W40_c10, W40_c11, W40_c12, W40_c13, W40_c14, W40_c15, W40_c19, W40_c20, W40_c22, W40_c24, W40_c25, W40_c26, W40_c27, W40_c29, W40_c30, W40_c31, W40_c32, W40_c34, W40_c35, W40_c36, W40_c37, W40_b2, W40_b4, W40_b7, W40_b8, W40_b9, W40_b16, W40_b17, W40_b18, W40_b21, W40_b23, W40_b28, W40_b33, hx, retW_eq, encT_of]
      · rw [if_neg k7]
        by_cases k12 : t.kind = 12
        · simp [W40, W40_rs, W40_c1, W40_c3, W40_c5, W40_c6, W40_c10, W40_c11, W40_c12, W40_c13, W40_c14, W40_c15, W40_c19, W40_c20, W40_c22, W40_c24, W40_c25, W40_c26, W40_c27, W40_c29, W40_c30, W40_c31, W40_c32, W40_c34, W40_c35, W40_c36, W40_c37, W40_b2, W40_b4, W40_b7, W40_b8, W40_b9, W40_b16, W40_b17, W40_b18, W40_b21, W40_b23, W40_b28, W40_b33, k12, hl]
          refine scall_pure (sp_own t (by omega)) (by simp) (by simp) ?_
          simp [W40, W40_rs, W40_c1, W40_c3, W40_c5, W40_c6, W40_c10, W40_c11, W40_c12, W40_c13, W40_c14, W40_c15, W40_c19, W40_c20, W40_c22, W40_c24, W40_c25, W40_c26, W40_c27, W40_c29, W40_c30, W40_c31, W40_c32, W40_c34, W40_c35, W40_c36, W40_c37, W40_b2, W40_b4, W40_b7, W40_b8, W40_b9, W40_b16, W40_b17, W40_b18, W40_b21, W40_b23, W40_b28, W40_b33, retW_eq]
        · by_cases k11 : t.kind = 11
          · simp [W40, W40_rs, W40_c1, W40_c3, W40_c5, W40_c6, W40_c10, W40_c11, W40_c12, W40_c13, W40_c14, W40_c15, W40_c19, W40_c20, W40_c22, W40_c24, W40_c25, W40_c26, W40_c27, W40_c29, W40_c30, W40_c31, W40_c32, W40_c34, W40_c35, W40_c36, W40_c37, W40_b2, W40_b4, W40_b7, W40_b8, W40_b9, W40_b16, W40_b17, W40_b18, W40_b21, W40_b23, W40_b28, W40_b33, k12, k11, hl]
            refine scall_pure (sp_own t (by omega)) (by simp) (by simp) ?_
            simp [W40, W40_rs, W40_c1, W40_c3, W40_c5, W40_c6, W40_c10, W40_c11, W40_c12, W40_c13, W40_c14, W40_c15, W40_c19, W40_c20, W40_c22, W40_c24, W40_c25, W40_c26, W40_c27, W40_c29, W40_c30, W40_c31, W40_c32, W40_c34, W40_c35, W40_c36, W40_c37, W40_b2, W40_b4, W40_b7, W40_b8, W40_b9, W40_b16, W40_b17, W40_b18, W40_b21, W40_b23, W40_b28, W40_b33, retW_eq]
          · simp [W40, W40_rs, W40_c1, W40_c3, W40_c5, W40_c6, W40_c10, W40_c11, W40_c12, W40_c13, W40_c14, W40_c15, W40_c19, W40_c20, W40_c22, W40_c24, W40_c25, W40_c26, W40_c27, W40_c29, W40_c30, W40_c31, W40_c32, W40_c34, W40_c35, W40_c36, W40_c37, W40_b2, W40_b4, W40_b7, W40_b8, W40_b9, W40_b16, W40_b17, W40_b18, W40_b21, W40_b23, W40_b28, W40_b33, k12, k11, k7, hl]
            refine scall_pure (sp_own t (by omega)) (by simp) (by simp) ?_
            simp [W40, W40_rs, W40_c1, W40_c3, W40_c5, W40_c6, W40_c10, W40_c11, W40_c12, W40_c13, W40_c14, W40_c15, W40_c19, W40_c20, W40_c22, W40_c24, W40_c25, W40_c26, W40_c27, W40_c29, W40_c30, W40_c31, W40_c32, W40_c34, W40_c35, W40_c36, W40_c37, W40_b2, W40_b4, W40_b7, W40_b8, W40_b9, W40_b16, W40_b17, W40_b18, W40_b21, W40_b23, W40_b28, W40_b33, retW_eq]
    · rw [Tm.norm_else h1 h2]
      have g1 : ¬ (t.l.length : Int) = 1 := by omega
      have g2 : ¬ (t.l.length : Int) = 2 := by omega
      by_cases k12 : t.kind = 12
      · simp [W40, W40_rs, W40_c1, W40_c3, W40_c5, W40_c6, W40_c10, W40_c11, W40_c12, W40_c13, W40_c14, W40_c15, W40_c19, W40_c20, W40_c22, W40_c24, W40_c25, W40_c26, W40_c27, W40_c29, W40_c30, W40_c31, W40_c32, W40_c34, W40_c35, W40_c36, W40_c37, W40_b2, W40_b4, W40_b7, W40_b8, W40_b9, W40_b16, W40_b17, W40_b18, W40_b21, W40_b23, W40_b28, W40_b33, k12, g2, g1]
        refine scall_pure (sp_own t (by omega)) (by simp) (by simp) ?_
        simp [W40, W40_rs, W40_c1, W40_c3, W40_c5, W40_c6, W40_c10, W40_c11, W40_c12, W40_c13, W40_c14, W40_c15, W40_c19, W40_c20, W40_c22, W40_c24, W40_c25, W40_c26, W40_c27, W40_c29, W40_c30, W40_c31, W40_c32, W40_c34, W40_c35, W40_c36, W40_c37, W40_b2, W40_b4, W40_b7, W40_b8, W40_b9, W40_b16, W40_b17, W40_b18, W40_b21, W40_b23, W40_b28, W40_b33, retW_eq]
      · by_cases k11 : t.kind = 11
        · simp [W40, W40_rs, W40_c1, W40_c3, W40_c5, W40_c6, W40_c10, W40_c11, W40_c12, W40_c13, W40_c14, W40_c15, W40_c19, W40_c20, W40_c22, W40_c24, W40_c25, W40_c26, W40_c27, W40_c29, W40_c30, W40_c31, W40_c32, W40_c34, W40_c35, W40_c36, W40_c37, W40_b2, W40_b4, W40_b7, W40_b8, W40_b9, W40_b16, W40_b17, W40_b18, W40_b21, W40_b23, W40_b28, W40_b33, k12, k11, g2, g1]
          refine scall_pure (sp_own t (by omega)) (by simp) (by simp) ?_
          simp [W40, W40_rs, W40_c1, W40_c3, W40_c5, W40_c6, W40_c10, W40_c11, W40_c12, W40_c13, W40_c14, W40_c15, W40_c19, W40_c20, W40_c22, W40_c24, W40_c25, W40_c26, W40_c27, W40_c29, W40_c30, W40_c31, W40_c32, W40_c34, W40_c35, W40_c36, W40_c37, W40_b2, W40_b4, W40_b7, W40_b8, W40_b9, W40_b16, W40_b17, W40_b18, W40_b21, W40_b23, W40_b28, W40_b33, retW_eq]
        · by_cases k7 : t.kind = 7
          · simp [W40, W40_rs, W40_c1, W40_c3, W40_c5, W40_c6, W40_c10, W40_c11, W40_c12, W40_c13, W40_c14, W40_c15, W40_c19, W40_c20, W40_c22, W40_c24, W40_c25, W40_c26, W40_c27, W40_c29, W40_c30, W40_c31, W40_c32, W40_c34, W40_c35, W40_c36, W40_c37, W40_b2, W40_b4, W40_b7, W40_b8, W40_b9, W40_b16, W40_b17, W40_b18, W40_b21, W40_b23, W40_b28, W40_b33, k12, k11, k7, g1, g2]
            refine scall_pure (sp_own t (by omega)) (by simp) (by simp) ?_
            simp [W40, W40_rs, W40_c1, W40_c3, W40_c5, W40_c6, W40_c10, W40_c11, W40_c12, W40_c13, W40_c14, W40_c15, W40_c19, W40_c20, W40_c22, W40_c24, W40_c25, W40_c26, W40_c27, W40_c29, W40_c30, W40_c31, W40_c32, W40_c34, W40_c35, W40_c36, W40_c37, W40_b2, W40_b4, W40_b7, W40_b8, W40_b9, W40_b16, W40_b17, W40_b18, W40_b21, W40_b23, W40_b28, W40_b33, retW_eq]
          · simp [W40, W40_rs, W40_c1, W40_c3, W40_c5, W40_c6, W40_c10, W40_c11, W40_c12, W40_c13, W40_c14, W40_c15, W40_c19, W40_c20, W40_c22, W40_c24, W40_c25, W40_c26, W40_c27, W40_c29, W40_c30, W40_c31, W40_c32, W40_c34, W40_c35, W40_c36, W40_c37, W40_b2, W40_b4, W40_b7, W40_b8, W40_b9, W40_b16, W40_b17, W40_b18, W40_b21, W40_b23, W40_b28, W40_b33, k12, k11, k7, g1, g2]
            refine scall_pure (sp_own t (by omega)) (by simp) (by simp) ?_
            simp [W40, W40_rs, W40_c1, W40_c3, W40_c5, W40_c6, W40_c10, W40_c11, W40_c12, W40_c13, W40_c14, W40_c15, W40_c19, W40_c20, W40_c22, W40_c24, W40_c25, W40_c26, W40_c27, W40_c29, W40_c30, W40_c31, W40_c32, W40_c34, W40_c35, W40_c36, W40_c37, W40_b2, W40_b4, W40_b7, W40_b8, W40_b9, W40_b16, W40_b17, W40_b18, W40_b21, W40_b23, W40_b28, W40_b33, retW_eq]
termination_by SizeOf.sizeOf t
decreasing_by all_goals exact Tm.lt_of_mem (by assumption)
end Go.Proofs.Ytkagfenchknjjaa
set_option linter.unusedVariables false
set_option linter.unusedSimpArgs false
namespace Go.Proofs.Ytkagfenchknjjaa
open Go Go.Am Go.RowKit

theorem sp_wlk (t : Tm) (hw : t.wt ≤ 137438953472) : Am.SpecY Try.prog 85 [.agg (encT t), .yld] (t.act.map fun x => [.agg (encT x)]) (.bool true) (.bool false) := by
  have hwt := t.wt_eq
  refine Am.SpecY.of_W (W := W85) Try.func85 (by kernel_rfl) (by kernel_rfl) (by kernel_rfl) Try.ntmps85 W85_eq (rs := [.tmp 4]) (by kernel_rfl) (by simp) rfl rfl ?_
  intro vs rest
  have body : ∀ (l : List Tm), (∀ x ∈ l, x ∈ t.l) → l.length ≤ 137438953472 → ∀ (K : St → Prop) (i : Nat) (vu : Nat → Nat), i ≤ l.length →
      (∀ l' h' vs' g' (x' : Nat), x' ≤ l.length → l.length - x' < l.length - i → Am.subT l' [(1, .yld), (26, .sl (l.map encT)), (27, .int .i64 l.length), (28, .int .i64 (x' : Nat))] → subA h' [] →
        g' = (⟨(Tm.acts (l.drop x')).map (fun x => [.agg (encT x)]) ++ rest, false⟩ : Am.G) → K ⟨Am.look l', hls h' vs', g'⟩) →
      W85_l7 Try.prog (retYK Try.prog [.tmp 4] (.bool true) (.bool false) rest) K ⟨Am.look [(1, .yld), (26, .sl (l.map encT)), (27, .int .i64 l.length), (28, .int .i64 (i : Nat))], hls [] vu, ⟨(Tm.acts (l.drop i)).map (fun x => [.agg (encT x)]) ++ rest, false⟩⟩ := by
    intro l hl hlen K i vu hi hK
    simp [W85, W85_rs, W85_b1, W85_b3, W85_b4, W85_b6, W85_b9, W85_b10, W85_b12, W85_b13, W85_b14, W85_k2, W85_k8, W85_k11, W85_c5, W85_c15, W85_l7]
    refine sIf_dec (fun h => ?_) (fun h => ?_)
    · have hx := hl _ (List.getElem_mem h)
      have hxw := Tm.wts_mem hx
      rw [Tm.acts_drop l i h]
      simp [W85, W85_rs, W85_b1, W85_b3, W85_b4, W85_b6, W85_b9, W85_b10, W85_b12, W85_b13, W85_b14, W85_k2, W85_k8, W85_k11, W85_c5, W85_c15, W85_l7, h]
      refine scall_ylds ((Tm.acts (l.drop (i + 1))).map (fun x => [.agg (encT x)]) ++ rest) (sp_wlk l[i] (by omega)) (by simp) (by simp) (by simp) ?_ fun q => ?_
      · simp [W85, W85_rs, W85_b1, W85_b3, W85_b4, W85_b6, W85_b9, W85_b10, W85_b12, W85_b13, W85_b14, W85_k2, W85_k8, W85_k11, W85_c5, W85_c15, W85_l7]
        rw [wrap64 (by omega) (by omega)]
        exact hK _ _ _ _ (i + 1) h (by omega) (by simp) (by simp) rfl
      · simp [W85, W85_rs, W85_b1, W85_b3, W85_b4, W85_b6, W85_b9, W85_b10, W85_b12, W85_b13, W85_b14, W85_k2, W85_k8, W85_k11, W85_c5, W85_c15, W85_l7, retYW]
    · have : l.drop i = [] := List.drop_of_length_le (by omega)
      rw [this]
      simp [W85, W85_rs, W85_b1, W85_b3, W85_b4, W85_b6, W85_b9, W85_b10, W85_b12, W85_b13, W85_b14, W85_k2, W85_k8, W85_k11, W85_c5, W85_c15, W85_l7, retYW, Tm.acts_nil]
  rw [Tm.act_eq]
  have hl := Tm.wts_len t.l
  simp [W85, W85_rs, W85_b1, W85_b3, W85_b4, W85_b6, W85_b9, W85_b10, W85_b12, W85_b13, W85_b14, W85_k2, W85_k8, W85_k11, W85_c5, W85_c15, W85_l7]
  refine scall_yield _ (by simp) rfl (by simp) fun b => ?_
  cases b
  · simp [W85, W85_rs, W85_b1, W85_b3, W85_b4, W85_b6, W85_b9, W85_b10, W85_b12, W85_b13, W85_b14, W85_k2, W85_k8, W85_k11, W85_c5, W85_c15, W85_l7, retYW]
  · simp [W85, W85_rs, W85_b1, W85_b3, W85_b4, W85_b6, W85_b9, W85_b10, W85_b12, W85_b13, W85_b14, W85_k2, W85_k8, W85_k11, W85_c5, W85_c15, W85_l7]
    by_cases k12 : t.kind = 12
    · have hm : (if 1 < (t.l.length : Int) then 1 else (t.l.length : Int)) = ((min 1 t.l.length : Nat) : Int) := by split <;> omega
      have hk : t.kidsA = t.l.take 1 := by simp [Tm.kidsA, k12]
      have hb := body (t.l.take 1) (by rw [← hk]; exact t.kidsA_sub) (by simp; omega)
      simp [W85, W85_rs, W85_b1, W85_b3, W85_b4, W85_b6, W85_b9, W85_b10, W85_b12, W85_b13, W85_b14, W85_k2, W85_k8, W85_k11, W85_c5, W85_c15, W85_l7, k12]
      rw [slcV_to 9 _ _ _ _ hm (by simp; omega) (by simp)]
      simp [W85, W85_rs, W85_b1, W85_b3, W85_b4, W85_b6, W85_b9, W85_b10, W85_b12, W85_b13, W85_b14, W85_k2, W85_k8, W85_k11, W85_c5, W85_c15, W85_l7]
      refine sLoop_introG (fun i => i ≤ (t.l.take 1).length) (fun i => (t.l.take 1).length - i) _ _ _ 0 (by simp) (by simp) (by simp) (by simp [hk]) hb
    · by_cases k11 : t.kind = 11
      · have hk : t.kidsA = t.l := by simp [Tm.kidsA, k11]
        simp [W85, W85_rs, W85_b1, W85_b3, W85_b4, W85_b6, W85_b9, W85_b10, W85_b12, W85_b13, W85_b14, W85_k2, W85_k8, W85_k11, W85_c5, W85_c15, W85_l7, k12, k11]
        exact sLoop_introG (fun i => i ≤ t.l.length) (fun i => t.l.length - i) _ _ _ 0 (by simp) (by simp) (by simp) (by simp [hk]) (body t.l (fun _ h => h) (by omega))
      · by_cases k7 : t.kind = 7
        · have hk : t.kidsA = t.l := by simp [Tm.kidsA, k7]
          simp [W85, W85_rs, W85_b1, W85_b3, W85_b4, W85_b6, W85_b9, W85_b10, W85_b12, W85_b13, W85_b14, W85_k2, W85_k8, W85_k11, W85_c5, W85_c15, W85_l7, k12, k11, k7]
          exact sLoop_introG (fun i => i ≤ t.l.length) (fun i => t.l.length - i) _ _ _ 0 (by simp) (by simp) (by simp) (by simp [hk]) (body t.l (fun _ h => h) (by omega))
        · have : t.kidsA = [] := by simp [Tm.kidsA, k12, k11, k7]
          simp [W85, W85_rs, W85_b1, W85_b3, W85_b4, W85_b6, W85_b9, W85_b10, W85_b12, W85_b13, W85_b14, W85_k2, W85_k8, W85_k11, W85_c5, W85_c15, W85_l7, k12, k11, k7, retYW, this, Tm.acts_nil]
termination_by SizeOf.sizeOf t
decreasing_by exact Tm.lt_of_mem hx
theorem sp_acv (t : Tm) (hw : t.wt ≤ 137438953472) : Am.SpecY Try.prog 84 [.yld, .elt (encT t) 0] (t.act.map fun x => [.agg (encT x)]) (.tup []) (.tup []) := by
  refine Am.SpecY.of_W (W := W84) Try.func84 (by kernel_rfl) (by kernel_rfl) (by kernel_rfl) Try.ntmps84 W84_eq (rs := []) (by kernel_rfl) (by simp) rfl rfl ?_
  intro vs rest
  simp [W84, W84_rs, W84_c1]
  refine scall_ylds rest (sp_wlk t hw) (by simp) (by simp) (by simp) ?_ fun q => ?_
  · simp [W84, W84_rs, W84_c1, retYW]
  · simp [W84, W84_rs, W84_c1, retYW]
theorem sp_atv (t : Tm) : Am.Spec Try.prog 62 [.agg (encT t)] (.func 84 [.elt (encT t) 0]) := by
  refine Am.Spec.of_W (W := W62) Try.func62 (by kernel_rfl) (by kernel_rfl) (by kernel_rfl) Try.ntmps62 W62_eq (rs := [.tmp 2]) (by kernel_rfl) (by simp) ?_
  intro vs
  simp [W62, W62_rs, retW_eq]
theorem sp_wts (t : Tm) (hw : t.wt ≤ 137438953472) : Am.Spec Try.prog 41 [.agg (encT t)] (.sl (encI t.waits)) := by
  refine Am.Spec.of_W (W := W41) Try.func41 (by kernel_rfl) (by kernel_rfl) (by kernel_rfl) Try.ntmps41 W41_eq (rs := [.tmp 2]) (by kernel_rfl) (by simp) ?_
  intro vs
  simp [W41, W41_rs, W41_c1, W41_c5, W41_k2, W41_b3, W41_r4]
  refine scall_pure (sp_atv t) (by simp) (by simp) ?_
  simp [W41, W41_rs, W41_c1, W41_c5, W41_k2, W41_b3, W41_r4]
  have hal := t.act_len
  refine sRange_introA (α := Option Nat × List Int) (t.act.map fun x => [.agg (encT x)]) (.tup []) (.tup []) (fun i a => a.2 = wtsL (t.act.take i) ∧ (a.1 = none → a.2 = []))
    (fun a => match a.1 with
      | none => [(3, .box (vs 3 + 1) 41 [.nils])]
      | some v => [(3, .box (vs 3 + 1) 41 [.ref 15 v .o]), (15, .row v 3 1 (encI a.2))]) (none, []) (sp_acv t hw) (by simp) ⟨by simp [wtsL], fun _ => rfl⟩ (by simp) ?_ ?_
  · rintro i hi ⟨o, l⟩ vt Ψ ⟨hl, ho⟩ hn - - -
    refine ⟨by simp, ?_⟩
    simp only at hl ho
    have hi' : i < t.act.length := by simpa using hi
    have hlen : l.length ≤ i := by rw [hl]; refine Nat.le_trans (List.length_filterMap_le _ _) ?_; simp; omega
    cases o with
    | none =>
      have := ho rfl
      subst this
      simp [W41, W41_rs, W41_c1, W41_c5, W41_k2, W41_b3, W41_r4]
      refine sIf_dec (fun h => ?_) (fun h => ?_)
      · simp [W41, W41_rs, W41_c1, W41_c5, W41_k2, W41_b3, W41_r4]
        exact hn _ _ _ (some (vt 15 + 1), [(t.act[i]'hi').a]) ⟨by rw [wtsL_step _ _ hi', if_pos h, ← hl]; rfl, by simp⟩ (by simp [encI])
      · exact hn _ _ _ (none, []) ⟨by rw [wtsL_step _ _ hi', if_neg h, ← hl], by simp⟩ (by simp)
    | some v =>
      simp [W41, W41_rs, W41_c1, W41_c5, W41_k2, W41_b3, W41_r4]
      refine sIf_dec (fun h => ?_) (fun h => ?_)
      · simp [W41, W41_rs, W41_c1, W41_c5, W41_k2, W41_b3, W41_r4]
        have hle : (encI l).length = l.length := by simp [encI]
        rw [decide_eq_true (by omega)]
        simp [W41, W41_rs, W41_c1, W41_c5, W41_k2, W41_b3, W41_r4]
        exact hn _ _ _ (some (v + 1), l ++ [(t.act[i]'hi').a]) ⟨by rw [wtsL_step _ _ hi', if_pos h, ← hl], by simp⟩ (by simp [encI])
      · exact hn _ _ _ (some v, l) ⟨by rw [wtsL_step _ _ hi', if_neg h, ← hl], by simp⟩ (by simp)
  · rintro vt ⟨o, l⟩ ⟨hl, ho⟩
    simp only at hl ho
    have hlen : l.length ≤ t.wt := by rw [hl]; refine Nat.le_trans (List.length_filterMap_le _ _) ?_; simp; omega
    have hl : l = t.waits := by rw [hl]; simp [wtsL, Tm.waits]
    cases o with
    | none =>
      have := ho rfl
      subst this
      simp [W41, W41_rs, W41_c1, W41_c5, W41_k2, W41_b3, W41_r4]
      refine scall_pure (sp_cli [] (by simp) (by simp [closedLL]) (by simp)) (by simp) (by simp [closedLL]) ?_
      simp [W41, W41_rs, W41_c1, W41_c5, W41_k2, W41_b3, W41_r4, retW_eq, ← hl, encI, closedLL]
    | some v =>
      simp [W41, W41_rs, W41_c1, W41_c5, W41_k2, W41_b3, W41_r4]
      refine scall_pure (sp_cli (encI l) (by simp [encI]) (by simp) (by simp [encI]; omega)) (by simp) (by simp) ?_
      simp [W41, W41_rs, W41_c1, W41_c5, W41_k2, W41_b3, W41_r4, retW_eq, hl]
end Go.Proofs.Ytkagfenchknjjaa
set_option linter.unusedVariables false
set_option linter.unusedSimpArgs false
namespace Go.Proofs.Ytkagfenchknjjaa
open Go Go.Am Go.RowKit

theorem sp_blw (t : Tm) (p : List Int) (w : Bool) (i : Nat) (hi : i < t.l.length) (hp : p.length ≤ 137438953471) (hw : t.wt ≤ 137438953472) : Am.Spec Try.prog 94 [.agg (encP t p w), .int .i64 (i : Nat)] (.agg (encP t.l[i] (p ++ [(i : Int)]) (kidW t.kind t.l[i] w))) := by
  have hxw := Tm.wts_mem (List.getElem_mem hi)
  have hwt := t.wt_eq
  refine Am.Spec.of_W (W := W94) Try.func94 (by kernel_rfl) (by kernel_rfl) (by kernel_rfl) Try.ntmps94 W94_eq (rs := [.cell 4 83]) (by kernel_rfl) (by simp) ?_
  intro vs
  simp [W94, W94_rs, W94_k1, W94_c2, W94_c4, W94_b3, hi]
  refine scall0_row (rw_cli p (by omega)) (by simp) (by simp) ?_
  simp [W94, W94_rs, W94_k1, W94_c2, W94_c4, W94_b3]
  rw [decide_eq_true (by omega)]
  simp [W94, W94_rs, W94_k1, W94_c2, W94_c4, W94_b3]
  by_cases k7 : t.kind = 7
  · simp [W94, W94_rs, W94_k1, W94_c2, W94_c4, W94_b3, k7]
    refine scall_pure (sp_wts t.l[i] (by omega)) (by simp) (by simp) ?_
    simp [W94, W94_rs, W94_k1, W94_c2, W94_c4, W94_b3, retW_eq, encI_snoc]
    simp [encP, kidW, k7, closedL_append, closedL]
  · simp [W94, W94_rs, W94_k1, W94_c2, W94_c4, W94_b3, k7, retW_eq, encI_snoc]
    simp [encP, kidW, k7, closedL_append, closedL]
theorem sp_wlp (t : Tm) (p : List Int) (w : Bool) (hw : p.length + t.wt ≤ 137438953471) : Am.SpecY Try.prog 72 [.agg (encP t p w), .yld] ((t.pls p w).map encPl) (.bool true) (.bool false) := by
  have hwt := t.wt_eq
  have hlw := Tm.wts_len t.l
  have hkn := t.kidsP_le
  refine Am.SpecY.of_W (W := W72) Try.func72 (by kernel_rfl) (by kernel_rfl) (by kernel_rfl) Try.ntmps72 W72_eq (rs := [.tmp 4]) (by kernel_rfl) (by simp) rfl rfl ?_
  intro vs rest
  have body : ∀ (v : Nat) (K : St → Prop) (i : Nat) (vu : Nat → Nat), i ≤ t.kidsP →
      (∀ l' h' vs' g' (x' : Nat), x' ≤ t.kidsP → t.kidsP - x' < t.kidsP - i → Am.subT l' [(1, .yld), (2, .ref 2 v (.p 0)), (25, .int .i64 t.kidsP), (26, .int .i64 (x' : Nat))] → subA h' [(2, .box v 83 (encP t p w))] →
        g' = (⟨(Tm.plsL t.kind ((t.l.take t.kidsP).drop x') p w x').map encPl ++ rest, false⟩ : Am.G) → K ⟨Am.look l', hls h' vs', g'⟩) →
      W72_l8 Try.prog (retYK Try.prog [.tmp 4] (.bool true) (.bool false) rest) K ⟨Am.look [(1, .yld), (2, .ref 2 v (.p 0)), (25, .int .i64 t.kidsP), (26, .int .i64 (i : Nat))], hls [(2, .box v 83 (encP t p w))] vu, ⟨(Tm.plsL t.kind ((t.l.take t.kidsP).drop i) p w i).map encPl ++ rest, false⟩⟩ := by
    intro v K i vu hi hK
    simp [W72, W72_rs, W72_b1, W72_b3, W72_b4, W72_b7, W72_b10, W72_b11, W72_b12, W72_b14, W72_b15, W72_k2, W72_k9, W72_k13, W72_c5, W72_c6, W72_c16, W72_l8]
    refine sIf_dec (fun h => ?_) (fun h => ?_)
    · have hlt : i < t.l.length := by omega
      have hx := List.getElem_mem hlt
      have hxw := Tm.wts_mem hx
      have hg : (t.l.take t.kidsP)[i]'(by simp; omega) = t.l[i] := by simp
      rw [Tm.plsL_drop _ _ _ _ i (by simp; omega), hg]
      simp [W72, W72_rs, W72_b1, W72_b3, W72_b4, W72_b7, W72_b10, W72_b11, W72_b12, W72_b14, W72_b15, W72_k2, W72_k9, W72_k13, W72_c5, W72_c6, W72_c16, W72_l8, h]
      refine scall_pure (sp_blw t p w i hlt (by omega) (by omega)) (by simp) (by simp) ?_
      simp [W72, W72_rs, W72_b1, W72_b3, W72_b4, W72_b7, W72_b10, W72_b11, W72_b12, W72_b14, W72_b15, W72_k2, W72_k9, W72_k13, W72_c5, W72_c6, W72_c16, W72_l8]
      refine scall_ylds ((Tm.plsL t.kind ((t.l.take t.kidsP).drop (i + 1)) p w (i + 1)).map encPl ++ rest) (sp_wlp t.l[i] (p ++ [(i : Int)]) (kidW t.kind t.l[i] w) (by simp; omega)) (by simp) (by simp) (by simp) ?_ fun q => ?_
      · simp [W72, W72_rs, W72_b1, W72_b3, W72_b4, W72_b7, W72_b10, W72_b11, W72_b12, W72_b14, W72_b15, W72_k2, W72_k9, W72_k13, W72_c5, W72_c6, W72_c16, W72_l8]
        rw [wrap64 (by omega) (by omega)]
        exact hK _ _ _ _ (i + 1) h (by omega) (by simp) (by simp) rfl
      · simp [W72, W72_rs, W72_b1, W72_b3, W72_b4, W72_b7, W72_b10, W72_b11, W72_b12, W72_b14, W72_b15, W72_k2, W72_k9, W72_k13, W72_c5, W72_c6, W72_c16, W72_l8, retYW]
    · have : (t.l.take t.kidsP).drop i = [] := List.drop_of_length_le (by simp; omega)
      rw [this]
      simp [W72, W72_rs, W72_b1, W72_b3, W72_b4, W72_b7, W72_b10, W72_b11, W72_b12, W72_b14, W72_b15, W72_k2, W72_k9, W72_k13, W72_c5, W72_c6, W72_c16, W72_l8, retYW, Tm.plsL]
  rw [Tm.pls_eq]
  simp [W72, W72_rs, W72_b1, W72_b3, W72_b4, W72_b7, W72_b10, W72_b11, W72_b12, W72_b14, W72_b15, W72_k2, W72_k9, W72_k13, W72_c5, W72_c6, W72_c16, W72_l8, encPl]
  refine scall_yield _ (by simp) rfl (by simp) fun b => ?_
  cases b
  · simp [W72, W72_rs, W72_b1, W72_b3, W72_b4, W72_b7, W72_b10, W72_b11, W72_b12, W72_b14, W72_b15, W72_k2, W72_k9, W72_k13, W72_c5, W72_c6, W72_c16, W72_l8, retYW]
  · simp [W72, W72_rs, W72_b1, W72_b3, W72_b4, W72_b7, W72_b10, W72_b11, W72_b12, W72_b14, W72_b15, W72_k2, W72_k9, W72_k13, W72_c5, W72_c6, W72_c16, W72_l8]
    by_cases k12 : t.kind = 12
    · have hk : t.kidsP = min t.l.length 1 := by simp [Tm.kidsP, k12]
      have hm : (if 1 < (t.l.length : Int) then 1 else (t.l.length : Int)) = (t.kidsP : Int) := by rw [hk]; split <;> omega
      simp [W72, W72_rs, W72_b1, W72_b3, W72_b4, W72_b7, W72_b10, W72_b11, W72_b12, W72_b14, W72_b15, W72_k2, W72_k9, W72_k13, W72_c5, W72_c6, W72_c16, W72_l8, k12]
      rw [hm]
      exact sLoop_introG (fun i => i ≤ t.kidsP) (fun i => t.kidsP - i) _ _ _ 0 (by simp) (by simp) (by simp) (by simp [k12]) (body (vs 2 + 1))
    · by_cases k7 : t.kind = 7
      · have hk : t.kidsP = min t.l.length 1 := by simp [Tm.kidsP, k7]
        have hm : (if 1 < (t.l.length : Int) then 1 else (t.l.length : Int)) = (t.kidsP : Int) := by rw [hk]; split <;> omega
        simp [W72, W72_rs, W72_b1, W72_b3, W72_b4, W72_b7, W72_b10, W72_b11, W72_b12, W72_b14, W72_b15, W72_k2, W72_k9, W72_k13, W72_c5, W72_c6, W72_c16, W72_l8, k12, k7]
        rw [hm]
        exact sLoop_introG (fun i => i ≤ t.kidsP) (fun i => t.kidsP - i) _ _ _ 0 (by simp) (by simp) (by simp) (by simp [k7]) (body (vs 2 + 1))
      · by_cases k11 : t.kind = 11
        · have hk : t.kidsP = t.l.length := by simp [Tm.kidsP, k11]
          simp [W72, W72_rs, W72_b1, W72_b3, W72_b4, W72_b7, W72_b10, W72_b11, W72_b12, W72_b14, W72_b15, W72_k2, W72_k9, W72_k13, W72_c5, W72_c6, W72_c16, W72_l8, k12, k7, k11]
          exact sLoop_introG (fun i => i ≤ t.kidsP) (fun i => t.kidsP - i) _ _ _ 0 (by simp) (by simp [hk]) (by simp) (by simp [k11]) (body (vs 2 + 1))
        · have hk : t.kidsP = 0 := by simp [Tm.kidsP, k12, k7, k11]
          simp [W72, W72_rs, W72_b1, W72_b3, W72_b4, W72_b7, W72_b10, W72_b11, W72_b12, W72_b14, W72_b15, W72_k2, W72_k9, W72_k13, W72_c5, W72_c6, W72_c16, W72_l8, k12, k7, k11]
          exact sLoop_introG (fun i => i ≤ t.kidsP) (fun i => t.kidsP - i) _ _ _ 0 (by simp) (by simp [hk]) (by simp) (by simp) (body (vs 2 + 1))
termination_by SizeOf.sizeOf t
decreasing_by exact Tm.lt_of_mem hx
theorem sp_pla (t : Tm) (hw : t.wt ≤ 137438953471) : Am.SpecY Try.prog 71 [.yld, .elt (encT t) 0] ((t.pls [] (decide (0 < t.waits.length))).map encPl) (.tup []) (.tup []) := by
  refine Am.SpecY.of_W (W := W71) Try.func71 (by kernel_rfl) (by kernel_rfl) (by kernel_rfl) Try.ntmps71 W71_eq (rs := []) (by kernel_rfl) (by simp) rfl rfl ?_
  intro vs rest
  simp [W71, W71_rs, W71_c1, W71_c2]
  refine scall0_pure (sp_wts t (by omega)) (by simp) (by simp) ?_
  simp [W71, W71_rs, W71_c1, W71_c2]
  refine scall_ylds rest (sp_wlp t [] (decide (0 < t.waits.length)) (by simpa using hw)) (by simp [encP, encI]) (by simp) (by simp) ?_ fun q => ?_
  · simp [W71, W71_rs, W71_c1, W71_c2, retYW]
  · simp [W71, W71_rs, W71_c1, W71_c2, retYW]
theorem sp_pls (t : Tm) : Am.Spec Try.prog 48 [.agg (encT t)] (.func 71 [.elt (encT t) 0]) := by
  refine Am.Spec.of_W (W := W48) Try.func48 (by kernel_rfl) (by kernel_rfl) (by kernel_rfl) Try.ntmps48 W48_eq (rs := [.tmp 2]) (by kernel_rfl) (by simp) ?_
  intro vs
  simp [W48, W48_rs, retW_eq]
end Go.Proofs.Ytkagfenchknjjaa
set_option linter.unusedVariables false
set_option linter.unusedSimpArgs false
namespace Go.Proofs.Ytkagfenchknjjaa
open Go Go.Am Go.RowKit

def enbH (v3 : Nat) (o : Option Nat) (l : List Stp3) : List (Nat × Blk) := match o with
  | none => [(3, .box v3 37 [.nils])]
  | some v => [(3, .box v3 37 [.ref 40 v .o]), (40, .row v 43 3 (l.map encS))]
theorem enb_body (v3 v4 : Nat) (x : Tm × List Int × Bool) (hx : x.2.1.length ≤ 137438953472) (l0 : List Stp3) (hl : l0.length ≤ 137438953472) (n : Nat) (hn : n ≤ 2) (Ψ : Exit → St → Prop)
    (hΨ : ∀ τ' L vs' (a : Option Nat × List Stp3), (a.2 = l0 ++ stp x.1.kind x.2.1 n ∧ (a.1 = none → a.2 = [])) → subA L (enbH v3 a.1 a.2) → Ψ .normal ⟨τ', hls L vs', noG⟩)
    (K : St → Prop) (c : Nat × Option Nat) (vu : Nat → Nat) (hc : c.1 ≤ n ∧ (c.2 = none → c.1 = 0 ∧ l0 = []))
    (hK : ∀ l' h' vs' (c' : Nat × Option Nat), (c'.1 ≤ n ∧ (c'.2 = none → c'.1 = 0 ∧ l0 = [])) → n - c'.1 < n - c.1 → Am.subT l' [(3, .ref 3 v3 (.p 0)), (4, .ref 4 v4 (.p 0)), (26, .int .i64 n), (27, .int .i64 (c'.1 : Nat))] →
      subA h' ((4, .box v4 83 (encP x.1 x.2.1 x.2.2)) :: enbH v3 c'.2 (l0 ++ stp x.1.kind x.2.1 c'.1)) → K ⟨Am.look l', hls h' vs', noG⟩) :
    W24_l5 Try.prog Ψ K ⟨Am.look [(3, .ref 3 v3 (.p 0)), (4, .ref 4 v4 (.p 0)), (26, .int .i64 n), (27, .int .i64 (c.1 : Nat))], hls ((4, .box v4 83 (encP x.1 x.2.1 x.2.2)) :: enbH v3 c.2 (l0 ++ stp x.1.kind x.2.1 c.1)) vu, noG⟩ := by
  obtain ⟨i, o⟩ := c
  simp only at hc hK ⊢
  simp [W24, W24_rs, W24_c1, W24_c3, W24_c17, W24_c18, W24_c20, W24_c22, W24_c36, W24_c37, W24_k2, W24_k6, W24_k11, W24_k21, W24_k25, W24_k30, W24_b4, W24_b7, W24_b8, W24_b9, W24_b10, W24_b12, W24_b13, W24_b14, W24_b15, W24_b23, W24_b26, W24_b27, W24_b28, W24_b29, W24_b31, W24_b32, W24_b33, W24_b34, W24_l5, W24_l24, W24_r16, W24_r35, W24_s19, W24_g38]
  refine sIf_dec (fun h => ?_) (fun h => ?_)
  · simp [W24, W24_rs, W24_c1, W24_c3, W24_c17, W24_c18, W24_c20, W24_c22, W24_c36, W24_c37, W24_k2, W24_k6, W24_k11, W24_k21, W24_k25, W24_k30, W24_b4, W24_b7, W24_b8, W24_b9, W24_b10, W24_b12, W24_b13, W24_b14, W24_b15, W24_b23, W24_b26, W24_b27, W24_b28, W24_b29, W24_b31, W24_b32, W24_b33, W24_b34, W24_l5, W24_l24, W24_r16, W24_r35, W24_s19, W24_g38, h]
    cases o with
    | none =>
      obtain ⟨e1, e2⟩ := hc.2 rfl
      subst e1 e2
      simp [W24, W24_rs, W24_c1, W24_c3, W24_c17, W24_c18, W24_c20, W24_c22, W24_c36, W24_c37, W24_k2, W24_k6, W24_k11, W24_k21, W24_k25, W24_k30, W24_b4, W24_b7, W24_b8, W24_b9, W24_b10, W24_b12, W24_b13, W24_b14, W24_b15, W24_b23, W24_b26, W24_b27, W24_b28, W24_b29, W24_b31, W24_b32, W24_b33, W24_b34, W24_l5, W24_l24, W24_r16, W24_r35, W24_s19, W24_g38, enbH]
      refine scall0_pure (sp_cli (encI x.2.1) (encI_cell _) (by simp) (by simpa using hx)) (by simp) (by simp) ?_
      simp [W24, W24_rs, W24_c1, W24_c3, W24_c17, W24_c18, W24_c20, W24_c22, W24_c36, W24_c37, W24_k2, W24_k6, W24_k11, W24_k21, W24_k25, W24_k30, W24_b4, W24_b7, W24_b8, W24_b9, W24_b10, W24_b12, W24_b13, W24_b14, W24_b15, W24_b23, W24_b26, W24_b27, W24_b28, W24_b29, W24_b31, W24_b32, W24_b33, W24_b34, W24_l5, W24_l24, W24_r16, W24_r35, W24_s19, W24_g38]
      rw [wrap64 (by omega) (by omega)]
      refine hK _ _ _ (1, some (vu 40 + 1)) ⟨by simp; omega, by simp⟩ (by simp; omega) (by simp) ?_
      simp [enbH, stp_succ, stp_zero, encS]
    | some v =>
      simp [W24, W24_rs, W24_c1, W24_c3, W24_c17, W24_c18, W24_c20, W24_c22, W24_c36, W24_c37, W24_k2, W24_k6, W24_k11, W24_k21, W24_k25, W24_k30, W24_b4, W24_b7, W24_b8, W24_b9, W24_b10, W24_b12, W24_b13, W24_b14, W24_b15, W24_b23, W24_b26, W24_b27, W24_b28, W24_b29, W24_b31, W24_b32, W24_b33, W24_b34, W24_l5, W24_l24, W24_r16, W24_r35, W24_s19, W24_g38, enbH]
      refine scall0_pure (sp_cli (encI x.2.1) (encI_cell _) (by simp) (by simpa using hx)) (by simp) (by simp) ?_
      simp [W24, W24_rs, W24_c1, W24_c3, W24_c17, W24_c18, W24_c20, W24_c22, W24_c36, W24_c37, W24_k2, W24_k6, W24_k11, W24_k21, W24_k25, W24_k30, W24_b4, W24_b7, W24_b8, W24_b9, W24_b10, W24_b12, W24_b13, W24_b14, W24_b15, W24_b23, W24_b26, W24_b27, W24_b28, W24_b29, W24_b31, W24_b32, W24_b33, W24_b34, W24_l5, W24_l24, W24_r16, W24_r35, W24_s19, W24_g38]
      rw [decide_eq_true (by omega)]
      simp [W24, W24_rs, W24_c1, W24_c3, W24_c17, W24_c18, W24_c20, W24_c22, W24_c36, W24_c37, W24_k2, W24_k6, W24_k11, W24_k21, W24_k25, W24_k30, W24_b4, W24_b7, W24_b8, W24_b9, W24_b10, W24_b12, W24_b13, W24_b14, W24_b15, W24_b23, W24_b26, W24_b27, W24_b28, W24_b29, W24_b31, W24_b32, W24_b33, W24_b34, W24_l5, W24_l24, W24_r16, W24_r35, W24_s19, W24_g38]
      rw [wrap64 (by omega) (by omega)]
      refine hK _ _ _ (i + 1, some (v + 1)) ⟨by simp; omega, by simp⟩ (by simp; omega) (by simp) ?_
      simp [enbH, stp_succ, encS]
  · have e : i = n := by omega
    subst e
    simp [W24, W24_rs, W24_c1, W24_c3, W24_c17, W24_c18, W24_c20, W24_c22, W24_c36, W24_c37, W24_k2, W24_k6, W24_k11, W24_k21, W24_k25, W24_k30, W24_b4, W24_b7, W24_b8, W24_b9, W24_b10, W24_b12, W24_b13, W24_b14, W24_b15, W24_b23, W24_b26, W24_b27, W24_b28, W24_b29, W24_b31, W24_b32, W24_b33, W24_b34, W24_l5, W24_l24, W24_r16, W24_r35, W24_s19, W24_g38]
    refine hΨ _ _ _ (o, l0 ++ stp x.1.kind x.2.1 i) ⟨rfl, fun e => ?_⟩ ?_
    · obtain ⟨e1, e2⟩ := hc.2 e
      subst e1 e2
      simp [stp_zero]
    · cases o <;> simp [enbH]
theorem sp_enb (t : Tm) (hw : t.wt ≤ 68719476736) : Am.Spec Try.prog 24 [.agg (encT t)] (.sl (t.enabled.map encS)) := by
  have hnw := t.norm_wt
  refine Am.Spec.of_W (W := W24) Try.func24 (by kernel_rfl) (by kernel_rfl) (by kernel_rfl) Try.ntmps24 W24_eq (rs := [.tmp 2]) (by kernel_rfl) (by simp) ?_
  intro vs
  simp [W24, W24_rs, W24_c1, W24_c3, W24_c17, W24_c18, W24_c20, W24_c22, W24_c36, W24_c37, W24_k2, W24_k6, W24_k11, W24_k21, W24_k25, W24_k30, W24_b4, W24_b7, W24_b8, W24_b9, W24_b10, W24_b12, W24_b13, W24_b14, W24_b15, W24_b23, W24_b26, W24_b27, W24_b28, W24_b29, W24_b31, W24_b32, W24_b33, W24_b34, W24_l5, W24_l24, W24_r16, W24_r35, W24_s19, W24_g38]
  refine sScope_straight fun J => ?_
  simp [W24, W24_rs, W24_c1, W24_c3, W24_c17, W24_c18, W24_c20, W24_c22, W24_c36, W24_c37, W24_k2, W24_k6, W24_k11, W24_k21, W24_k25, W24_k30, W24_b4, W24_b7, W24_b8, W24_b9, W24_b10, W24_b12, W24_b13, W24_b14, W24_b15, W24_b23, W24_b26, W24_b27, W24_b28, W24_b29, W24_b31, W24_b32, W24_b33, W24_b34, W24_l5, W24_l24, W24_r16, W24_r35, W24_s19, W24_g38]
  refine scall_pure (sp_nrm t (by omega)) (by simp) (by simp) ?_
  simp [W24, W24_rs, W24_c1, W24_c3, W24_c17, W24_c18, W24_c20, W24_c22, W24_c36, W24_c37, W24_k2, W24_k6, W24_k11, W24_k21, W24_k25, W24_k30, W24_b4, W24_b7, W24_b8, W24_b9, W24_b10, W24_b12, W24_b13, W24_b14, W24_b15, W24_b23, W24_b26, W24_b27, W24_b28, W24_b29, W24_b31, W24_b32, W24_b33, W24_b34, W24_l5, W24_l24, W24_r16, W24_r35, W24_s19, W24_g38]
  refine scall_pure (sp_pls t.norm) (by simp) (by simp) ?_
  simp [W24, W24_rs, W24_c1, W24_c3, W24_c17, W24_c18, W24_c20, W24_c22, W24_c36, W24_c37, W24_k2, W24_k6, W24_k11, W24_k21, W24_k25, W24_k30, W24_b4, W24_b7, W24_b8, W24_b9, W24_b10, W24_b12, W24_b13, W24_b14, W24_b15, W24_b23, W24_b26, W24_b27, W24_b28, W24_b29, W24_b31, W24_b32, W24_b33, W24_b34, W24_l5, W24_l24, W24_r16, W24_r35, W24_s19, W24_g38]
  generalize hn : t.norm = n at hnw
  have hpl := n.pls_len [] (decide (0 < n.waits.length))
  have hpp := n.pls_path [] (decide (0 < n.waits.length))
  have hen : t.enabled = (n.pls [] (decide (0 < n.waits.length))).flatMap stepsAt := by rw [Tm.enabled, Tm.enabledN, hn]
  generalize hps : n.pls [] (decide (0 < n.waits.length)) = ps at hpl hpp hen
  have hsp := sp_pla n (by omega)
  rw [hps] at hsp
  refine sRange_introA (α := Option Nat × List Stp3) (ps.map encPl) (.tup []) (.tup []) (fun i a => a.2 = (ps.take i).flatMap stepsAt ∧ (a.1 = none → a.2 = []))
    (fun a => enbH (vs 3 + 1) a.1 a.2) (none, []) hsp (by simp) ⟨by simp, fun _ => rfl⟩ (by simp [enbH]) ?_ ?_
  · rintro i hi ⟨o, l⟩ vt Ψ ⟨hl, ho⟩ hn' - - -
    refine ⟨by simp [encPl], ?_⟩
    simp only at hl ho
    have hi' : i < ps.length := by simpa using hi
    have hxl := hpp ps[i] (List.getElem_mem hi')
    have hlen := steps_len (ps.take i)
    rw [← hl] at hlen
    simp at hlen hxl
    have hlen2 : l.length ≤ 137438953472 := by omega
    have hxl2 : (ps[i]).2.1.length ≤ 137438953472 := by omega
    have fin : ∀ τ' L vs' (a : Option Nat × List Stp3), (a.2 = l ++ stp (ps[i]).1.kind (ps[i]).2.1 (stpN ps[i]) ∧ (a.1 = none → a.2 = [])) → subA L (enbH (vs 3 + 1) a.1 a.2) → Ψ .normal ⟨τ', hls L vs', noG⟩ := fun τ' L vs' a ⟨h1, h2⟩ h3 =>
      hn' τ' L vs' a ⟨by rw [steps_take _ _ hi', h1, hl]; rfl, h2⟩ h3
    cases o with
    | none =>
      simp [W24, W24_rs, W24_c1, W24_c3, W24_c17, W24_c18, W24_c20, W24_c22, W24_c36, W24_c37, W24_k2, W24_k6, W24_k11, W24_k21, W24_k25, W24_k30, W24_b4, W24_b7, W24_b8, W24_b9, W24_b10, W24_b12, W24_b13, W24_b14, W24_b15, W24_b23, W24_b26, W24_b27, W24_b28, W24_b29, W24_b31, W24_b32, W24_b33, W24_b34, W24_l5, W24_l24, W24_r16, W24_r35, W24_s19, W24_g38, encPl, enbH]
      by_cases k0 : (ps[i]).1.kind = 0
      · simp [W24, W24_rs, W24_c1, W24_c3, W24_c17, W24_c18, W24_c20, W24_c22, W24_c36, W24_c37, W24_k2, W24_k6, W24_k11, W24_k21, W24_k25, W24_k30, W24_b4, W24_b7, W24_b8, W24_b9, W24_b10, W24_b12, W24_b13, W24_b14, W24_b15, W24_b23, W24_b26, W24_b27, W24_b28, W24_b29, W24_b31, W24_b32, W24_b33, W24_b34, W24_l5, W24_l24, W24_r16, W24_r35, W24_s19, W24_g38, k0]
        exact fin _ _ _ (none, l) ⟨by simp [stpN, k0, stp_zero], ho⟩ (by simp [enbH])
      by_cases k14 : (ps[i]).1.kind = 14
      · simp [W24, W24_rs, W24_c1, W24_c3, W24_c17, W24_c18, W24_c20, W24_c22, W24_c36, W24_c37, W24_k2, W24_k6, W24_k11, W24_k21, W24_k25, W24_k30, W24_b4, W24_b7, W24_b8, W24_b9, W24_b10, W24_b12, W24_b13, W24_b14, W24_b15, W24_b23, W24_b26, W24_b27, W24_b28, W24_b29, W24_b31, W24_b32, W24_b33, W24_b34, W24_l5, W24_l24, W24_r16, W24_r35, W24_s19, W24_g38, k0, k14]
        exact fin _ _ _ (none, l) ⟨by simp [stpN, k14, stp_zero], ho⟩ (by simp [enbH])
      by_cases k12 : (ps[i]).1.kind = 12
      · simp [W24, W24_rs, W24_c1, W24_c3, W24_c17, W24_c18, W24_c20, W24_c22, W24_c36, W24_c37, W24_k2, W24_k6, W24_k11, W24_k21, W24_k25, W24_k30, W24_b4, W24_b7, W24_b8, W24_b9, W24_b10, W24_b12, W24_b13, W24_b14, W24_b15, W24_b23, W24_b26, W24_b27, W24_b28, W24_b29, W24_b31, W24_b32, W24_b33, W24_b34, W24_l5, W24_l24, W24_r16, W24_r35, W24_s19, W24_g38, k0, k14, k12]
        exact fin _ _ _ (none, l) ⟨by simp [stpN, k12, stp_zero], ho⟩ (by simp [enbH])
      by_cases k11 : (ps[i]).1.kind = 11
      · simp [W24, W24_rs, W24_c1, W24_c3, W24_c17, W24_c18, W24_c20, W24_c22, W24_c36, W24_c37, W24_k2, W24_k6, W24_k11, W24_k21, W24_k25, W24_k30, W24_b4, W24_b7, W24_b8, W24_b9, W24_b10, W24_b12, W24_b13, W24_b14, W24_b15, W24_b23, W24_b26, W24_b27, W24_b28, W24_b29, W24_b31, W24_b32, W24_b33, W24_b34, W24_l5, W24_l24, W24_r16, W24_r35, W24_s19, W24_g38, k0, k14, k12, k11]
        exact fin _ _ _ (none, l) ⟨by simp [stpN, k11, stp_zero], ho⟩ (by simp [enbH])
      by_cases k7 : (ps[i]).1.kind = 7
      · simp [W24, W24_rs, W24_c1, W24_c3, W24_c17, W24_c18, W24_c20, W24_c22, W24_c36, W24_c37, W24_k2, W24_k6, W24_k11, W24_k21, W24_k25, W24_k30, W24_b4, W24_b7, W24_b8, W24_b9, W24_b10, W24_b12, W24_b13, W24_b14, W24_b15, W24_b23, W24_b26, W24_b27, W24_b28, W24_b29, W24_b31, W24_b32, W24_b33, W24_b34, W24_l5, W24_l24, W24_r16, W24_r35, W24_s19, W24_g38, k0, k14, k12, k11, k7]
        exact fin _ _ _ (none, l) ⟨by simp [stpN, k7, stp_zero], ho⟩ (by simp [enbH])
      by_cases k8 : (ps[i]).1.kind = 8
      · simp [W24, W24_rs, W24_c1, W24_c3, W24_c17, W24_c18, W24_c20, W24_c22, W24_c36, W24_c37, W24_k2, W24_k6, W24_k11, W24_k21, W24_k25, W24_k30, W24_b4, W24_b7, W24_b8, W24_b9, W24_b10, W24_b12, W24_b13, W24_b14, W24_b15, W24_b23, W24_b26, W24_b27, W24_b28, W24_b29, W24_b31, W24_b32, W24_b33, W24_b34, W24_l5, W24_l24, W24_r16, W24_r35, W24_s19, W24_g38, k0, k14, k12, k11, k7, k8]
        cases hw8 : (ps[i]).2.2
        · simp [W24, W24_rs, W24_c1, W24_c3, W24_c17, W24_c18, W24_c20, W24_c22, W24_c36, W24_c37, W24_k2, W24_k6, W24_k11, W24_k21, W24_k25, W24_k30, W24_b4, W24_b7, W24_b8, W24_b9, W24_b10, W24_b12, W24_b13, W24_b14, W24_b15, W24_b23, W24_b26, W24_b27, W24_b28, W24_b29, W24_b31, W24_b32, W24_b33, W24_b34, W24_l5, W24_l24, W24_r16, W24_r35, W24_s19, W24_g38, hw8]
          have hs : stpN ps[i] = 1 := by simp [stpN, k0, k14, k12, k11, k7, k8, hw8]
          rw [hs] at fin
          exact sLoop_intro (fun c : Nat × Option Nat => c.1 ≤ 1 ∧ (c.2 = none → c.1 = 0 ∧ l = [])) (fun c => 1 - c.1) _ _ (0, none) ⟨by simp, fun e => ⟨rfl, ho e⟩⟩ (by simp) (by simp [enbH, stp_zero, hw8]) (enb_body (vs 3 + 1) (vt 4 + 1) ps[i] hxl2 l hlen2 1 (by omega) Ψ fin)
        · simp [W24, W24_rs, W24_c1, W24_c3, W24_c17, W24_c18, W24_c20, W24_c22, W24_c36, W24_c37, W24_k2, W24_k6, W24_k11, W24_k21, W24_k25, W24_k30, W24_b4, W24_b7, W24_b8, W24_b9, W24_b10, W24_b12, W24_b13, W24_b14, W24_b15, W24_b23, W24_b26, W24_b27, W24_b28, W24_b29, W24_b31, W24_b32, W24_b33, W24_b34, W24_l5, W24_l24, W24_r16, W24_r35, W24_s19, W24_g38, hw8]
          exact fin _ _ _ (none, l) ⟨by simp [stpN, k0, k14, k12, k11, k7, k8, hw8, stp_zero], ho⟩ (by simp [enbH])
      by_cases k10 : (ps[i]).1.kind = 10
      · simp [W24, W24_rs, W24_c1, W24_c3, W24_c17, W24_c18, W24_c20, W24_c22, W24_c36, W24_c37, W24_k2, W24_k6, W24_k11, W24_k21, W24_k25, W24_k30, W24_b4, W24_b7, W24_b8, W24_b9, W24_b10, W24_b12, W24_b13, W24_b14, W24_b15, W24_b23, W24_b26, W24_b27, W24_b28, W24_b29, W24_b31, W24_b32, W24_b33, W24_b34, W24_l5, W24_l24, W24_r16, W24_r35, W24_s19, W24_g38, k0, k14, k12, k11, k7, k8, k10]
        have hs : stpN ps[i] = 2 := by simp [stpN, k0, k14, k12, k11, k7, k8, k10]
        rw [hs] at fin
        exact sLoop_intro (fun c : Nat × Option Nat => c.1 ≤ 2 ∧ (c.2 = none → c.1 = 0 ∧ l = [])) (fun c => 2 - c.1) _ _ (0, none) ⟨by simp, fun e => ⟨rfl, ho e⟩⟩ (by simp) (by simp [enbH, stp_zero, enbH]) (enb_body (vs 3 + 1) (vt 4 + 1) ps[i] hxl2 l hlen2 2 (by omega) Ψ fin)
      · simp [W24, W24_rs, W24_c1, W24_c3, W24_c17, W24_c18, W24_c20, W24_c22, W24_c36, W24_c37, W24_k2, W24_k6, W24_k11, W24_k21, W24_k25, W24_k30, W24_b4, W24_b7, W24_b8, W24_b9, W24_b10, W24_b12, W24_b13, W24_b14, W24_b15, W24_b23, W24_b26, W24_b27, W24_b28, W24_b29, W24_b31, W24_b32, W24_b33, W24_b34, W24_l5, W24_l24, W24_r16, W24_r35, W24_s19, W24_g38, k0, k14, k12, k11, k7, k8, k10]
        have hs : stpN ps[i] = 1 := by simp [stpN, k0, k14, k12, k11, k7, k8, k10]
        rw [hs] at fin
        exact sLoop_intro (fun c : Nat × Option Nat => c.1 ≤ 1 ∧ (c.2 = none → c.1 = 0 ∧ l = [])) (fun c => 1 - c.1) _ _ (0, none) ⟨by simp, fun e => ⟨rfl, ho e⟩⟩ (by simp) (by simp [enbH, stp_zero, enbH]) (enb_body (vs 3 + 1) (vt 4 + 1) ps[i] hxl2 l hlen2 1 (by omega) Ψ fin)
    | some v =>
      simp [W24, W24_rs, W24_c1, W24_c3, W24_c17, W24_c18, W24_c20, W24_c22, W24_c36, W24_c37, W24_k2, W24_k6, W24_k11, W24_k21, W24_k25, W24_k30, W24_b4, W24_b7, W24_b8, W24_b9, W24_b10, W24_b12, W24_b13, W24_b14, W24_b15, W24_b23, W24_b26, W24_b27, W24_b28, W24_b29, W24_b31, W24_b32, W24_b33, W24_b34, W24_l5, W24_l24, W24_r16, W24_r35, W24_s19, W24_g38, encPl, enbH]
      by_cases k0 : (ps[i]).1.kind = 0
      · simp [W24, W24_rs, W24_c1, W24_c3, W24_c17, W24_c18, W24_c20, W24_c22, W24_c36, W24_c37, W24_k2, W24_k6, W24_k11, W24_k21, W24_k25, W24_k30, W24_b4, W24_b7, W24_b8, W24_b9, W24_b10, W24_b12, W24_b13, W24_b14, W24_b15, W24_b23, W24_b26, W24_b27, W24_b28, W24_b29, W24_b31, W24_b32, W24_b33, W24_b34, W24_l5, W24_l24, W24_r16, W24_r35, W24_s19, W24_g38, k0]
        exact fin _ _ _ (some v, l) ⟨by simp [stpN, k0, stp_zero], ho⟩ (by simp [enbH])
      by_cases k14 : (ps[i]).1.kind = 14
      · simp [W24, W24_rs, W24_c1, W24_c3, W24_c17, W24_c18, W24_c20, W24_c22, W24_c36, W24_c37, W24_k2, W24_k6, W24_k11, W24_k21, W24_k25, W24_k30, W24_b4, W24_b7, W24_b8, W24_b9, W24_b10, W24_b12, W24_b13, W24_b14, W24_b15, W24_b23, W24_b26, W24_b27, W24_b28, W24_b29, W24_b31, W24_b32, W24_b33, W24_b34, W24_l5, W24_l24, W24_r16, W24_r35, W24_s19, W24_g38, k0, k14]
        exact fin _ _ _ (some v, l) ⟨by simp [stpN, k14, stp_zero], ho⟩ (by simp [enbH])
      by_cases k12 : (ps[i]).1.kind = 12
      · simp [W24, W24_rs, W24_c1, W24_c3, W24_c17, W24_c18, W24_c20, W24_c22, W24_c36, W24_c37, W24_k2, W24_k6, W24_k11, W24_k21, W24_k25, W24_k30, W24_b4, W24_b7, W24_b8, W24_b9, W24_b10, W24_b12, W24_b13, W24_b14, W24_b15, W24_b23, W24_b26, W24_b27, W24_b28, W24_b29, W24_b31, W24_b32, W24_b33, W24_b34, W24_l5, W24_l24, W24_r16, W24_r35, W24_s19, W24_g38, k0, k14, k12]
        exact fin _ _ _ (some v, l) ⟨by simp [stpN, k12, stp_zero], ho⟩ (by simp [enbH])
      by_cases k11 : (ps[i]).1.kind = 11
      · simp [W24, W24_rs, W24_c1, W24_c3, W24_c17, W24_c18, W24_c20, W24_c22, W24_c36, W24_c37, W24_k2, W24_k6, W24_k11, W24_k21, W24_k25, W24_k30, W24_b4, W24_b7, W24_b8, W24_b9, W24_b10, W24_b12, W24_b13, W24_b14, W24_b15, W24_b23, W24_b26, W24_b27, W24_b28, W24_b29, W24_b31, W24_b32, W24_b33, W24_b34, W24_l5, W24_l24, W24_r16, W24_r35, W24_s19, W24_g38, k0, k14, k12, k11]
        exact fin _ _ _ (some v, l) ⟨by simp [stpN, k11, stp_zero], ho⟩ (by simp [enbH])
      by_cases k7 : (ps[i]).1.kind = 7
      · simp [W24, W24_rs, W24_c1, W24_c3, W24_c17, W24_c18, W24_c20, W24_c22, W24_c36, W24_c37, W24_k2, W24_k6, W24_k11, W24_k21, W24_k25, W24_k30, W24_b4, W24_b7, W24_b8, W24_b9, W24_b10, W24_b12, W24_b13, W24_b14, W24_b15, W24_b23, W24_b26, W24_b27, W24_b28, W24_b29, W24_b31, W24_b32, W24_b33, W24_b34, W24_l5, W24_l24, W24_r16, W24_r35, W24_s19, W24_g38, k0, k14, k12, k11, k7]
        exact fin _ _ _ (some v, l) ⟨by simp [stpN, k7, stp_zero], ho⟩ (by simp [enbH])
      by_cases k8 : (ps[i]).1.kind = 8
      · simp [W24, W24_rs, W24_c1, W24_c3, W24_c17, W24_c18, W24_c20, W24_c22, W24_c36, W24_c37, W24_k2, W24_k6, W24_k11, W24_k21, W24_k25, W24_k30, W24_b4, W24_b7, W24_b8, W24_b9, W24_b10, W24_b12, W24_b13, W24_b14, W24_b15, W24_b23, W24_b26, W24_b27, W24_b28, W24_b29, W24_b31, W24_b32, W24_b33, W24_b34, W24_l5, W24_l24, W24_r16, W24_r35, W24_s19, W24_g38, k0, k14, k12, k11, k7, k8]
        cases hw8 : (ps[i]).2.2
        · simp [W24, W24_rs, W24_c1, W24_c3, W24_c17, W24_c18, W24_c20, W24_c22, W24_c36, W24_c37, W24_k2, W24_k6, W24_k11, W24_k21, W24_k25, W24_k30, W24_b4, W24_b7, W24_b8, W24_b9, W24_b10, W24_b12, W24_b13, W24_b14, W24_b15, W24_b23, W24_b26, W24_b27, W24_b28, W24_b29, W24_b31, W24_b32, W24_b33, W24_b34, W24_l5, W24_l24, W24_r16, W24_r35, W24_s19, W24_g38, hw8]
          have hs : stpN ps[i] = 1 := by simp [stpN, k0, k14, k12, k11, k7, k8, hw8]
          rw [hs] at fin
          exact sLoop_intro (fun c : Nat × Option Nat => c.1 ≤ 1 ∧ (c.2 = none → c.1 = 0 ∧ l = [])) (fun c => 1 - c.1) _ _ (0, some v) ⟨by simp, fun e => ⟨rfl, ho e⟩⟩ (by simp) (by simp [enbH, stp_zero, hw8]) (enb_body (vs 3 + 1) (vt 4 + 1) ps[i] hxl2 l hlen2 1 (by omega) Ψ fin)
        · simp [W24, W24_rs, W24_c1, W24_c3, W24_c17, W24_c18, W24_c20, W24_c22, W24_c36, W24_c37, W24_k2, W24_k6, W24_k11, W24_k21, W24_k25, W24_k30, W24_b4, W24_b7, W24_b8, W24_b9, W24_b10, W24_b12, W24_b13, W24_b14, W24_b15, W24_b23, W24_b26, W24_b27, W24_b28, W24_b29, W24_b31, W24_b32, W24_b33, W24_b34, W24_l5, W24_l24, W24_r16, W24_r35, W24_s19, W24_g38, hw8]
          exact fin _ _ _ (some v, l) ⟨by simp [stpN, k0, k14, k12, k11, k7, k8, hw8, stp_zero], ho⟩ (by simp [enbH])
      by_cases k10 : (ps[i]).1.kind = 10
      · simp [W24, W24_rs, W24_c1, W24_c3, W24_c17, W24_c18, W24_c20, W24_c22, W24_c36, W24_c37, W24_k2, W24_k6, W24_k11, W24_k21, W24_k25, W24_k30, W24_b4, W24_b7, W24_b8, W24_b9, W24_b10, W24_b12, W24_b13, W24_b14, W24_b15, W24_b23, W24_b26, W24_b27, W24_b28, W24_b29, W24_b31, W24_b32, W24_b33, W24_b34, W24_l5, W24_l24, W24_r16, W24_r35, W24_s19, W24_g38, k0, k14, k12, k11, k7, k8, k10]
        have hs : stpN ps[i] = 2 := by simp [stpN, k0, k14, k12, k11, k7, k8, k10]
        rw [hs] at fin
        exact sLoop_intro (fun c : Nat × Option Nat => c.1 ≤ 2 ∧ (c.2 = none → c.1 = 0 ∧ l = [])) (fun c => 2 - c.1) _ _ (0, some v) ⟨by simp, fun e => ⟨rfl, ho e⟩⟩ (by simp) (by simp [enbH, stp_zero, enbH]) (enb_body (vs 3 + 1) (vt 4 + 1) ps[i] hxl2 l hlen2 2 (by omega) Ψ fin)
      · simp [W24, W24_rs, W24_c1, W24_c3, W24_c17, W24_c18, W24_c20, W24_c22, W24_c36, W24_c37, W24_k2, W24_k6, W24_k11, W24_k21, W24_k25, W24_k30, W24_b4, W24_b7, W24_b8, W24_b9, W24_b10, W24_b12, W24_b13, W24_b14, W24_b15, W24_b23, W24_b26, W24_b27, W24_b28, W24_b29, W24_b31, W24_b32, W24_b33, W24_b34, W24_l5, W24_l24, W24_r16, W24_r35, W24_s19, W24_g38, k0, k14, k12, k11, k7, k8, k10]
        have hs : stpN ps[i] = 1 := by simp [stpN, k0, k14, k12, k11, k7, k8, k10]
        rw [hs] at fin
        exact sLoop_intro (fun c : Nat × Option Nat => c.1 ≤ 1 ∧ (c.2 = none → c.1 = 0 ∧ l = [])) (fun c => 1 - c.1) _ _ (0, some v) ⟨by simp, fun e => ⟨rfl, ho e⟩⟩ (by simp) (by simp [enbH, stp_zero, enbH]) (enb_body (vs 3 + 1) (vt 4 + 1) ps[i] hxl2 l hlen2 1 (by omega) Ψ fin)
  · rintro vt ⟨o, l⟩ ⟨hl, ho⟩
    simp only at hl ho
    have hlen := steps_len ps
    rw [hen]
    have hl : l = ps.flatMap stepsAt := by rw [hl]; simp
    rw [← hl]
    rw [← hl] at hlen
    cases o with
    | none =>
      have := ho rfl
      subst this
      simp [W24, W24_rs, W24_c1, W24_c3, W24_c17, W24_c18, W24_c20, W24_c22, W24_c36, W24_c37, W24_k2, W24_k6, W24_k11, W24_k21, W24_k25, W24_k30, W24_b4, W24_b7, W24_b8, W24_b9, W24_b10, W24_b12, W24_b13, W24_b14, W24_b15, W24_b23, W24_b26, W24_b27, W24_b28, W24_b29, W24_b31, W24_b32, W24_b33, W24_b34, W24_l5, W24_l24, W24_r16, W24_r35, W24_s19, W24_g38, enbH]
      refine scall_pure (sp_cls [] (by simp) (by simp [closedLL]) (by simp)) (by simp) (by simp [closedLL]) ?_
      simp [W24, W24_rs, W24_c1, W24_c3, W24_c17, W24_c18, W24_c20, W24_c22, W24_c36, W24_c37, W24_k2, W24_k6, W24_k11, W24_k21, W24_k25, W24_k30, W24_b4, W24_b7, W24_b8, W24_b9, W24_b10, W24_b12, W24_b13, W24_b14, W24_b15, W24_b23, W24_b26, W24_b27, W24_b28, W24_b29, W24_b31, W24_b32, W24_b33, W24_b34, W24_l5, W24_l24, W24_r16, W24_r35, W24_s19, W24_g38, retW_eq, closedLL]
    | some v =>
      simp [W24, W24_rs, W24_c1, W24_c3, W24_c17, W24_c18, W24_c20, W24_c22, W24_c36, W24_c37, W24_k2, W24_k6, W24_k11, W24_k21, W24_k25, W24_k30, W24_b4, W24_b7, W24_b8, W24_b9, W24_b10, W24_b12, W24_b13, W24_b14, W24_b15, W24_b23, W24_b26, W24_b27, W24_b28, W24_b29, W24_b31, W24_b32, W24_b33, W24_b34, W24_l5, W24_l24, W24_r16, W24_r35, W24_s19, W24_g38, enbH]
      refine scall_pure (sp_cls (l.map encS) (fun x hx => by obtain ⟨y, -, rfl⟩ := List.mem_map.1 hx; exact ⟨rfl, encS_cell y⟩) (by simp) (by simp; omega)) (by simp) (by simp) ?_
      simp [W24, W24_rs, W24_c1, W24_c3, W24_c17, W24_c18, W24_c20, W24_c22, W24_c36, W24_c37, W24_k2, W24_k6, W24_k11, W24_k21, W24_k25, W24_k30, W24_b4, W24_b7, W24_b8, W24_b9, W24_b10, W24_b12, W24_b13, W24_b14, W24_b15, W24_b23, W24_b26, W24_b27, W24_b28, W24_b29, W24_b31, W24_b32, W24_b33, W24_b34, W24_l5, W24_l24, W24_r16, W24_r35, W24_s19, W24_g38, retW_eq]
theorem sp_sts (t : Tm) (hw : t.wt ≤ 68719476736) : Am.Spec Try.prog 30 [.agg (encT t)] (.int .i64 (t.status)) := by
  refine Am.Spec.of_W (W := W30) Try.func30 (by kernel_rfl) (by kernel_rfl) (by kernel_rfl) Try.ntmps30 W30_eq (rs := [.tmp 2]) (by kernel_rfl) (by simp) ?_
  intro vs
  simp [W30, W30_rs, W30_b1, W30_b2, W30_b3, W30_b5, W30_c4, W30_c6]
  refine scall_pure (sp_nrm t (by omega)) (by simp) (by simp) ?_
  simp [W30, W30_rs, W30_b1, W30_b2, W30_b3, W30_b5, W30_c4, W30_c6]
  by_cases k : t.norm.kind = 0
  · simp [W30, W30_rs, W30_b1, W30_b2, W30_b3, W30_b5, W30_c4, W30_c6, k, retW_eq, Tm.status]
  · simp [W30, W30_rs, W30_b1, W30_b2, W30_b3, W30_b5, W30_c4, W30_c6, k]
    refine scall_pure (sp_enb t hw) (by simp) (by simp) ?_
    simp [W30, W30_rs, W30_b1, W30_b2, W30_b3, W30_b5, W30_c4, W30_c6]
    by_cases e : t.enabled = []
    · simp [W30, W30_rs, W30_b1, W30_b2, W30_b3, W30_b5, W30_c4, W30_c6, k, e, retW_eq, Tm.status]
    · have : 0 < t.enabled.length := List.length_pos_iff.2 e
      simp [W30, W30_rs, W30_b1, W30_b2, W30_b3, W30_b5, W30_c4, W30_c6, k, this, retW_eq, Tm.status, e]
end Go.Proofs.Ytkagfenchknjjaa
set_option linter.unusedVariables false
set_option linter.unusedSimpArgs false
namespace Go.Proofs.Ytkagfenchknjjaa
open Go Go.Am Go.RowKit

theorem kno_en0 : Tm.skip.enabled = [] := by
  simp [Tm.enabled, Tm.enabledN, Tm.norm_else, Tm.skip, Tm.of, Tm.pls, stepsAt, stpN, stp]
theorem kno_st0 : Tm.skip.status = 2 := by
  simp [Tm.status, Tm.norm_else, Tm.skip, Tm.of]
def tCh : Tm := .of 10 [.skip, .skip]
theorem kno_en1 : (Tm.of 12 [tCh, .skip]).enabled = [(10, [0], 0), (10, [0], 1)] := by
  have h1 : tCh.norm = tCh := by rw [Tm.norm_two (t := tCh) (x := .skip) (y := .skip) rfl]; simp [tCh, Tm.of]
  have h2 : (Tm.of 12 [tCh, .skip]).norm = Tm.of 12 [tCh, .skip] := by rw [Tm.norm_two (x := tCh) (y := .skip) rfl, h1]; simp [tCh, Tm.of]
  simp [Tm.enabled, h2, Tm.enabledN]
  simp [tCh, Tm.of, Tm.pls, Tm.pls1, kidW, stepsAt, stpN, stp, List.range_succ]
theorem kno_st1 : tCh.status = 0 := by
  have h1 : tCh.norm = tCh := by rw [Tm.norm_two (t := tCh) (x := .skip) (y := .skip) rfl]; simp [tCh, Tm.of]
  rw [Tm.status, Tm.enabled, h1, Tm.enabledN]
  simp [tCh, Tm.of, Tm.pls, stepsAt, stpN, stp, List.range_succ]
theorem sp_kno : Am.Spec Try.prog 20 [] (.bool true) := by
  refine Am.Spec.of_W (W := W20) Try.func20 (by kernel_rfl) (by kernel_rfl) (by kernel_rfl) Try.ntmps20 W20_eq (rs := [.tmp 0]) (by kernel_rfl) (by simp) ?_
  intro vs
  simp [W20, W20_rs, W20_c1, W20_c2, W20_c3, W20_c4, W20_c5, W20_c6, W20_c7, W20_c8, W20_c9, W20_c10, W20_c11, W20_c12, W20_c13, W20_c14, W20_c15, W20_c16, W20_c17, W20_c18, W20_c19, W20_c20, W20_c21, W20_c22]
  refine scall_nrm (args' := [.agg (encT (.of 12 [tCh, .skip]))]) (sp_enb _ (by simp [Tm.wt_of, tCh, Tm.skip, Tm.wts])) (by simp [nrmL, nrm, nrmLL, encT_of, encT_skip, tCh]) (by simp [closedL, closedLL]) ?_
  rw [kno_en1]
  simp [W20, W20_rs, W20_c1, W20_c2, W20_c3, W20_c4, W20_c5, W20_c6, W20_c7, W20_c8, W20_c9, W20_c10, W20_c11, W20_c12, W20_c13, W20_c14, W20_c15, W20_c16, W20_c17, W20_c18, W20_c19, W20_c20, W20_c21, W20_c22]
  refine scall_nrm (args' := [.agg (encT .skip)]) (sp_enb _ (by simp [Tm.wt_of, Tm.skip, Tm.wts])) (by simp [nrmL, nrm, nrmLL, encT_skip]) (by simp [closedL, closedLL]) ?_
  rw [kno_en0]
  simp [W20, W20_rs, W20_c1, W20_c2, W20_c3, W20_c4, W20_c5, W20_c6, W20_c7, W20_c8, W20_c9, W20_c10, W20_c11, W20_c12, W20_c13, W20_c14, W20_c15, W20_c16, W20_c17, W20_c18, W20_c19, W20_c20, W20_c21, W20_c22]
  refine scall_nrm (args' := [.agg (encT .skip)]) (sp_sts _ (by simp [Tm.wt_of, Tm.skip, Tm.wts])) (by simp [nrmL, nrm, nrmLL, encT_skip]) (by simp [closedL, closedLL]) ?_
  rw [kno_st0]
  simp [W20, W20_rs, W20_c1, W20_c2, W20_c3, W20_c4, W20_c5, W20_c6, W20_c7, W20_c8, W20_c9, W20_c10, W20_c11, W20_c12, W20_c13, W20_c14, W20_c15, W20_c16, W20_c17, W20_c18, W20_c19, W20_c20, W20_c21, W20_c22, encS, encI]
  refine scall_nrm (args' := [.agg (encT tCh)]) (sp_sts _ (by simp [Tm.wt_of, tCh, Tm.skip, Tm.wts])) (by simp [nrmL, nrm, nrmLL, encT_of, encT_skip, tCh]) (by simp [closedL, closedLL]) ?_
  rw [kno_st1]
  simp [W20, W20_rs, W20_c1, W20_c2, W20_c3, W20_c4, W20_c5, W20_c6, W20_c7, W20_c8, W20_c9, W20_c10, W20_c11, W20_c12, W20_c13, W20_c14, W20_c15, W20_c16, W20_c17, W20_c18, W20_c19, W20_c20, W20_c21, W20_c22, retW_eq]
end Go.Proofs.Ytkagfenchknjjaa
