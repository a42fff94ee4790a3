import Derived.Test.YtkagfenchknjjaaCb
set_option linter.unusedVariables false
set_option linter.unusedSimpArgs false
namespace Go.Proofs.Ytkagfenchknjjaa
open Go Go.Am Go.RowKit

theorem sp_cle (rows : List (List AV)) (h : ∀ x ∈ rows, x.length = 4 ∧ ∀ c ∈ x, c.cell = true) (hc : closedLL rows = true) (hl : rows.length ≤ 137438953472) : Am.Spec Try.prog 100 [.sl rows] (.sl rows) := by
  refine Am.Spec.of_W (W := W100) Try.func100 (by kernel_rfl) (by kernel_rfl) (by kernel_rfl) Try.ntmps100 W100_eq (rs := [.tmp 2]) (by kernel_rfl) (by simp) ?_
  intro vs
  simp [W100, W100_rs, W100_b1, W100_b2, W100_c3]
  refine sNil_sl _ _ _ _ _ _ ?_ fun e => ?_
  · simp [W100, W100_rs, W100_b1, W100_b2, W100_c3]
    rw [if_pos h]
    simp [W100, W100_rs, W100_b1, W100_b2, W100_c3]
    rw [decide_eq_true (by omega)]
    simp [W100, W100_rs, W100_b1, W100_b2, W100_c3, retW_eq, hc]
  · subst e
    simp [W100, W100_rs, W100_b1, W100_b2, W100_c3, retW_eq]
theorem sp_clt (rows : List (List AV)) (h : ∀ x ∈ rows, x.length = 9 ∧ ∀ c ∈ x, c.cell = true) (hc : closedLL rows = true) (hl : rows.length ≤ 137438953472) : Am.Spec Try.prog 82 [.sl rows] (.sl rows) := by
  refine Am.Spec.of_W (W := W82) Try.func82 (by kernel_rfl) (by kernel_rfl) (by kernel_rfl) Try.ntmps82 W82_eq (rs := [.tmp 2]) (by kernel_rfl) (by simp) ?_
  intro vs
  simp [W82, W82_rs, W82_b1, W82_b2, W82_c3]
  refine sNil_sl _ _ _ _ _ _ ?_ fun e => ?_
  · simp [W82, W82_rs, W82_b1, W82_b2, W82_c3]
    rw [if_pos h]
    simp [W82, W82_rs, W82_b1, W82_b2, W82_c3]
    rw [decide_eq_true (by omega)]
    simp [W82, W82_rs, W82_b1, W82_b2, W82_c3, retW_eq, hc]
  · subst e
    simp [W82, W82_rs, W82_b1, W82_b2, W82_c3, retW_eq]
theorem sp_cls (rows : List (List AV)) (h : ∀ x ∈ rows, x.length = 3 ∧ ∀ c ∈ x, c.cell = true) (hc : closedLL rows = true) (hl : rows.length ≤ 137438953472) : Am.Spec Try.prog 50 [.sl rows] (.sl rows) := by
  refine Am.Spec.of_W (W := W50) Try.func50 (by kernel_rfl) (by kernel_rfl) (by kernel_rfl) Try.ntmps50 W50_eq (rs := [.tmp 2]) (by kernel_rfl) (by simp) ?_
  intro vs
  simp [W50, W50_rs, W50_b1, W50_b2, W50_c3]
  refine sNil_sl _ _ _ _ _ _ ?_ fun e => ?_
  · simp [W50, W50_rs, W50_b1, W50_b2, W50_c3]
    rw [if_pos h]
    simp [W50, W50_rs, W50_b1, W50_b2, W50_c3]
    rw [decide_eq_true (by omega)]
    simp [W50, W50_rs, W50_b1, W50_b2, W50_c3, retW_eq, hc]
  · subst e
    simp [W50, W50_rs, W50_b1, W50_b2, W50_c3, retW_eq]
theorem sp_cli (rows : List (List AV)) (h : ∀ x ∈ rows, x.length = 1 ∧ ∀ c ∈ x, c.cell = true) (hc : closedLL rows = true) (hl : rows.length ≤ 137438953472) : Am.Spec Try.prog 49 [.sl rows] (.sl rows) := by
  refine Am.Spec.of_W (W := W49) Try.func49 (by kernel_rfl) (by kernel_rfl) (by kernel_rfl) Try.ntmps49 W49_eq (rs := [.tmp 2]) (by kernel_rfl) (by simp) ?_
  intro vs
  simp [W49, W49_rs, W49_b1, W49_b2, W49_c3]
  refine sNil_sl _ _ _ _ _ _ ?_ fun e => ?_
  · simp [W49, W49_rs, W49_b1, W49_b2, W49_c3]
    rw [if_pos h]
    simp [W49, W49_rs, W49_b1, W49_b2, W49_c3]
    rw [decide_eq_true (by omega)]
    simp [W49, W49_rs, W49_b1, W49_b2, W49_c3, retW_eq, hc]
  · subst e
    simp [W49, W49_rs, W49_b1, W49_b2, W49_c3, retW_eq]
theorem rw_cli (l : List Int) (hl : l.length ≤ 137438953472) : Am.RowSpec Try.prog 49 [.sl (encI l)] 3 1 (encI l) := by
  refine Am.RowSpec.of_W (W := W49) Try.func49 (by kernel_rfl) (by kernel_rfl) (by kernel_rfl) Try.ntmps49 W49_eq (rs := [.tmp 2]) (by kernel_rfl) (by simp) (by simp) ?_
  intro vs
  simp [W49, W49_rs, W49_b1, W49_b2, W49_c3]
  refine sNil_sl _ _ _ _ _ _ ?_ fun e => ?_
  · simp [W49, W49_rs, W49_b1, W49_b2, W49_c3]
    rw [if_pos (by simpa using encI_cell l)]
    simp [W49, W49_rs, W49_b1, W49_b2, W49_c3]
    rw [decide_eq_true (by omega)]
    simp [W49, W49_rs, W49_b1, W49_b2, W49_c3]
    refine retRW_of _ _ _ _ _ _ 5 (vs 5 + 1 + 1) (by simp [resV, resOne]) (by simp)
  · rw [e]
    simp [W49, W49_rs, W49_b1, W49_b2, W49_c3]
    exact retRW_nil _ _ _ _ _ (by simp [resV, resOne]) (by omega)
theorem sp_owe (x : Ex) (hw : x.wt ≤ 137438953472) : Am.Spec Try.prog 83 [.agg (encE x)] (.agg (encE x)) := by
  have hlen := Ex.wts_len x.l
  have hwt := x.wt_eq
  refine Am.Spec.of_W (W := W83) Try.func83 (by kernel_rfl) (by kernel_rfl) (by kernel_rfl) Try.ntmps83 W83_eq (rs := [.cell 2 31]) (by kernel_rfl) (by simp) ?_
  intro vs
  simp [W83, W83_rs, W83_c1, W83_c3, W83_k2, W83_b4, W83_l5]
  rw [decide_eq_true (p := 56 * x.l.length ≤ 281474976710656) (by omega), decide_eq_true (p := x.l.length ≤ maxLen) (by simp only [maxLen]; omega)]
  simp [W83, W83_rs, W83_c1, W83_c3, W83_k2, W83_b4, W83_l5]
  refine sLoop_intro (fun a : Nat × Nat => a.1 ≤ x.l.length) (fun a => x.l.length - a.1)
    (fun a => [(1, .ref 1 (vs 1 + 1) (.p 0)), (2, .ref 2 (vs 2 + 1) (.p 0)), (3, .ref 9 a.2 .o), (11, .sl (x.l.map encE)), (12, .int .i64 x.l.length), (13, .int .i64 (a.1 : Nat))])
    (fun a => [(1, .box (vs 1 + 1) 31 (encE x)), (2, .box (vs 2 + 1) 31 [.int .i64 0, .int .i64 0, .str ⟨#[]⟩, .nils]), (9, .row a.2 31 4 ((x.l.take a.1).map encE))]) (0, vs 9 + 1) (by simp) (by simp) (by simp) ?_
  intro L ⟨i, v⟩ vt hi hL
  simp only at hi
  simp [W83, W83_rs, W83_c1, W83_c3, W83_k2, W83_b4, W83_l5]
  refine sIf_dec (fun h => ?_) (fun h => ?_)
  · simp [W83, W83_rs, W83_c1, W83_c3, W83_k2, W83_b4, W83_l5, h]
    refine scall_pure (sp_owe x.l[i] (by have := Ex.wts_mem (List.getElem_mem h); omega)) (by simp) (by simp) ?_
    simp [W83, W83_rs, W83_c1, W83_c3, W83_k2, W83_b4, W83_l5]
    rw [decide_eq_true (by omega)]
    simp [W83, W83_rs, W83_c1, W83_c3, W83_k2, W83_b4, W83_l5]
    rw [wrap64 (by omega) (by omega)]
    refine hL _ _ _ (i + 1, v + 1) (by simp; omega) (by simp; omega) (by simp) (by simp [take_map_succ encE x.l i h])
  · simp [W83, W83_rs, W83_c1, W83_c3, W83_k2, W83_b4, W83_l5]
    refine scall_pure (sp_cle (x.l.map encE) (by simp; exact fun a _ => encE_cell a) (by simp) (by simp; omega)) (by simp; rw [List.take_of_length_le (by simp; omega)]) (by simp) ?_
    simp [W83, W83_rs, W83_c1, W83_c3, W83_k2, W83_b4, W83_l5, retW_eq]
termination_by SizeOf.sizeOf x
decreasing_by exact Ex.lt_of_mem (List.getElem_mem h)
theorem sp_own (x : Tm) (hw : x.wt ≤ 137438953472) : Am.Spec Try.prog 61 [.agg (encT x)] (.agg (encT x)) := by
  have hlen := Tm.wts_len x.l
  have hwt := x.wt_eq
  refine Am.Spec.of_W (W := W61) Try.func61 (by kernel_rfl) (by kernel_rfl) (by kernel_rfl) Try.ntmps61 W61_eq (rs := [.cell 2 34]) (by kernel_rfl) (by simp) ?_
  intro vs
  simp [W61, W61_rs, W61_c1, W61_c2, W61_c4, W61_k3, W61_b5, W61_l6]
  rw [decide_eq_true (p := 120 * x.l.length ≤ 281474976710656) (by omega), decide_eq_true (p := x.l.length ≤ maxLen) (by simp only [maxLen]; omega)]
  simp [W61, W61_rs, W61_c1, W61_c2, W61_c4, W61_k3, W61_b5, W61_l6]
  refine sLoop_intro (fun a : Nat × Nat => a.1 ≤ x.l.length) (fun a => x.l.length - a.1)
    (fun a => [(1, .ref 1 (vs 1 + 1) (.p 0)), (2, .ref 2 (vs 2 + 1) (.p 0)), (3, .ref 9 a.2 .o), (11, .sl (x.l.map encT)), (12, .int .i64 x.l.length), (13, .int .i64 (a.1 : Nat))])
    (fun a => [(1, .box (vs 1 + 1) 34 (encT x)), (2, .box (vs 2 + 1) 34 [.int .i64 0, .int .i64 0, .int .i64 0, .str ⟨#[]⟩, .int .i64 0, .int .i64 0, .str ⟨#[]⟩, .nils, .nils]), (9, .row a.2 34 9 ((x.l.take a.1).map encT))]) (0, vs 9 + 1) (by simp) (by simp) (by simp) ?_
  intro L ⟨i, v⟩ vt hi hL
  simp only at hi
  simp [W61, W61_rs, W61_c1, W61_c2, W61_c4, W61_k3, W61_b5, W61_l6]
  refine sIf_dec (fun h => ?_) (fun h => ?_)
  · simp [W61, W61_rs, W61_c1, W61_c2, W61_c4, W61_k3, W61_b5, W61_l6, h]
    refine scall_pure (sp_own x.l[i] (by have := Tm.wts_mem (List.getElem_mem h); omega)) (by simp) (by simp) ?_
    simp [W61, W61_rs, W61_c1, W61_c2, W61_c4, W61_k3, W61_b5, W61_l6]
    rw [decide_eq_true (by omega)]
    simp [W61, W61_rs, W61_c1, W61_c2, W61_c4, W61_k3, W61_b5, W61_l6]
    rw [wrap64 (by omega) (by omega)]
    refine hL _ _ _ (i + 1, v + 1) (by simp; omega) (by simp; omega) (by simp) (by simp [take_map_succ encT x.l i h])
  · simp [W61, W61_rs, W61_c1, W61_c2, W61_c4, W61_k3, W61_b5, W61_l6]
    refine scall0_pure (sp_clt (x.l.map encT) (by simp; exact fun a _ => encT_cell a) (by simp) (by simp; omega)) (by simp; rw [List.take_of_length_le (by simp; omega)]) (by simp) ?_
    simp [W61, W61_rs, W61_c1, W61_c2, W61_c4, W61_k3, W61_b5, W61_l6]
    refine scall0_pure (sp_owe x.e (by omega)) (by simp) (by simp) ?_
    simp [W61, W61_rs, W61_c1, W61_c2, W61_c4, W61_k3, W61_b5, W61_l6, retW_eq]
termination_by SizeOf.sizeOf x
decreasing_by exact Tm.lt_of_mem (List.getElem_mem h)
end Go.Proofs.Ytkagfenchknjjaa
