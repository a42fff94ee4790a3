import Derived.Test.YtkagfenchknjjaaCg
set_option linter.unusedVariables false
set_option linter.unusedSimpArgs false
namespace Go.Proofs.Ytkagfenchknjjaa
open Go Go.Am Go.RowKit

theorem sp_wit (a n : Int) (hn : 0 < n) (h2 : n < 1000) : Am.Spec Try.prog 29 [.int .i64 a, .int .i64 n] (.int .i64 (within a n)) := by
  refine Am.Spec.of_W (W := W29) Try.func29 (by kernel_rfl) (by kernel_rfl) (by kernel_rfl) Try.ntmps29 W29_eq (rs := [.tmp 4]) (by kernel_rfl) (by simp) ?_
  intro vs
  simp [W29, W29_rs, W29_k1, W29_b2]
  rw [if_neg (by omega)]
  simp [W29, W29_rs, W29_k1, W29_b2]
  have h1 := Int.tmod_lt_of_pos a hn
  have h3 : -n < a.tmod n := by have := Int.lt_tmod_of_pos a hn; omega
  refine sIf_dec (fun h => ?_) (fun h => ?_)
  · simp [W29, W29_rs, W29_k1, W29_b2]
    rw [wrap64 (by omega) (by omega)]
    simp [W29, W29_rs, W29_k1, W29_b2, retW_eq, within, h]
  · simp [W29, W29_rs, W29_k1, W29_b2, retW_eq, within, h]
theorem kno_en0 : Tm.skip.enabled = [] := by
  simp [Tm.enabled, Tm.enabledN, Tm.norm_else, Tm.skip, Tm.of, Tm.pls, stepsAt, stpN, stp]
theorem kno_st0 : Tm.skip.status = 2 := by
  simp [Tm.status, Tm.norm_else, Tm.skip, Tm.of]
def tCh : Tm := .of 10 [.skip, .skip]
theorem kno_en1 : (Tm.of 12 [tCh, .skip]).enabled = [(10, [0], 0), (10, [0], 1)] := by
  have h1 : tCh.norm = tCh := by rw [Tm.norm_two (t := tCh) (x := .skip) (y := .skip) rfl]; simp [tCh, Tm.of]
  have h2 : (Tm.of 12 [tCh, .skip]).norm = Tm.of 12 [tCh, .skip] := by rw [Tm.norm_two (x := tCh) (y := .skip) rfl, h1]; simp [tCh, Tm.of]
  simp [Tm.enabled, h2, Tm.enabledN]
  simp [tCh, Tm.of, Tm.pls, Tm.pls1, kidW, stepsAt, stpN, stp, List.range_succ]
theorem kno_st1 : tCh.status = 0 := by
  have h1 : tCh.norm = tCh := by rw [Tm.norm_two (t := tCh) (x := .skip) (y := .skip) rfl]; simp [tCh, Tm.of]
  rw [Tm.status, Tm.enabled, h1, Tm.enabledN]
  simp [tCh, Tm.of, Tm.pls, stepsAt, stpN, stp, List.range_succ]
theorem sp_kno : Am.Spec Try.prog 20 [] (.bool true) := by
  refine Am.Spec.of_W (W := W20) Try.func20 (by kernel_rfl) (by kernel_rfl) (by kernel_rfl) Try.ntmps20 W20_eq (rs := [.tmp 0]) (by kernel_rfl) (by simp) ?_
  intro vs
  simp [W20, W20_rs, W20_c1, W20_c2, W20_c3, W20_c4, W20_c5, W20_c6, W20_c7, W20_c8, W20_c9, W20_c10, W20_c11, W20_c12, W20_c13, W20_c14, W20_c15, W20_c16, W20_c17, W20_c18, W20_c19, W20_c20, W20_c21, W20_c22]
  refine scall_nrm (args' := [.agg (encT (.of 12 [tCh, .skip]))]) (sp_enb _ (by simp [Tm.wt_of, tCh, Tm.skip, Tm.wts])) (by simp [nrmL, nrm, nrmLL, encT_of, encT_skip, tCh]) (by simp [closedL, closedLL]) ?_
  rw [kno_en1]
  simp [W20, W20_rs, W20_c1, W20_c2, W20_c3, W20_c4, W20_c5, W20_c6, W20_c7, W20_c8, W20_c9, W20_c10, W20_c11, W20_c12, W20_c13, W20_c14, W20_c15, W20_c16, W20_c17, W20_c18, W20_c19, W20_c20, W20_c21, W20_c22]
  refine scall_nrm (args' := [.agg (encT .skip)]) (sp_enb _ (by simp [Tm.wt_of, Tm.skip, Tm.wts])) (by simp [nrmL, nrm, nrmLL, encT_skip]) (by simp [closedL, closedLL]) ?_
  rw [kno_en0]
  simp [W20, W20_rs, W20_c1, W20_c2, W20_c3, W20_c4, W20_c5, W20_c6, W20_c7, W20_c8, W20_c9, W20_c10, W20_c11, W20_c12, W20_c13, W20_c14, W20_c15, W20_c16, W20_c17, W20_c18, W20_c19, W20_c20, W20_c21, W20_c22]
  refine scall_nrm (args' := [.agg (encT .skip)]) (sp_sts _ (by simp [Tm.wt_of, Tm.skip, Tm.wts])) (by simp [nrmL, nrm, nrmLL, encT_skip]) (by simp [closedL, closedLL]) ?_
  rw [kno_st0]
  simp [W20, W20_rs, W20_c1, W20_c2, W20_c3, W20_c4, W20_c5, W20_c6, W20_c7, W20_c8, W20_c9, W20_c10, W20_c11, W20_c12, W20_c13, W20_c14, W20_c15, W20_c16, W20_c17, W20_c18, W20_c19, W20_c20, W20_c21, W20_c22, encS, encI]
  refine scall_nrm (args' := [.agg (encT tCh)]) (sp_sts _ (by simp [Tm.wt_of, tCh, Tm.skip, Tm.wts])) (by simp [nrmL, nrm, nrmLL, encT_of, encT_skip, tCh]) (by simp [closedL, closedLL]) ?_
  rw [kno_st1]
  simp [W20, W20_rs, W20_c1, W20_c2, W20_c3, W20_c4, W20_c5, W20_c6, W20_c7, W20_c8, W20_c9, W20_c10, W20_c11, W20_c12, W20_c13, W20_c14, W20_c15, W20_c16, W20_c17, W20_c18, W20_c19, W20_c20, W20_c21, W20_c22, retW_eq]
end Go.Proofs.Ytkagfenchknjjaa
