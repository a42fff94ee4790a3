import Derived.Test.YtkagfenchknjjaaGE12
import Derived.Test.YtkagfenchknjjaaGF15
import Derived.Test.YtkagfenchknjjaaGR19
import Derived.Test.YtkagfenchknjjaaGE18
set_option linter.unusedVariables false
set_option linter.unusedSimpArgs false
namespace Go.Proofs.Ytkagfenchknjjaa
open Go Go.Am Go.RowKit
attribute [local simp] W63 W63_rs W63_b1 W63_b3 W63_b4 W63_b6 W63_b8 W63_k2 W63_c5 W63_c9 W63_c10 W63_c11 W63_c12 W63_l7 W42 W42_rs W42_b1 W42_b3 W42_b4 W42_b6 W42_b8 W42_k2 W42_c5 W42_c9 W42_c10 W42_c11 W42_c12 W42_c13 W42_c14 W42_c15 W42_c16 W42_l7 W13 W13_rs W13_b1 W13_b2 W13_b8 W13_b10 W13_c3 W13_c4 W13_c5 W13_c6 W13_c7 W13_c9 W13_c11

mutual
def fewE : Ex → Int → Bool
  | ⟨_, _, _, l⟩, d => decide (d ≤ 10) && (decide (l.length ≤ 5) && fewEs l (d + 1))
def fewEs : List Ex → Int → Bool
  | [], _ => true
  | x :: l, d => fewE x d && fewEs l d
end
theorem fewEs_eq (d : Int) : ∀ l, fewEs l d = l.all fun x => fewE x d
  | [] => rfl
  | x :: l => by simp only [fewEs, List.all_cons, fewEs_eq d l]
theorem fewE_eq (x : Ex) (d : Int) : fewE x d = (decide (d ≤ 10) && (decide (x.l.length ≤ 5) && x.l.all fun y => fewE y (d + 1))) := by cases x; simp only [fewE, fewEs_eq]
mutual
def fewT : Tm → Int → Bool
  | ⟨_, _, _, _, e, l⟩, d => decide (d ≤ 10) && (decide (l.length ≤ 5) && (fewE e 0 && fewTs l (d + 1)))
def fewTs : List Tm → Int → Bool
  | [], _ => true
  | x :: l, d => fewT x d && fewTs l d
end
theorem fewTs_eq (d : Int) : ∀ l, fewTs l d = l.all fun x => fewT x d
  | [] => rfl
  | x :: l => by simp only [fewTs, List.all_cons, fewTs_eq d l]
theorem fewT_eq (x : Tm) (d : Int) : fewT x d = (decide (d ≤ 10) && (decide (x.l.length ≤ 5) && (fewE x.e 0 && x.l.all fun y => fewT y (d + 1)))) := by cases x; simp only [fewT, fewTs_eq]
theorem fewE_lok (x : Ex) (d : Int) (h : fewE x d = true) : x.lok := by
  rw [fewE_eq] at h
  simp only [Bool.and_eq_true] at h
  obtain ⟨-, b, c⟩ := h
  exact .mk x (by have := of_decide_eq_true b; omega) fun y hy => fewE_lok y (d + 1) (List.all_eq_true.1 c y hy)
termination_by SizeOf.sizeOf x
decreasing_by exact Ex.lt_of_mem hy
theorem fewT_lok (x : Tm) (d : Int) (h : fewT x d = true) : x.lok := by
  rw [fewT_eq] at h
  simp only [Bool.and_eq_true] at h
  obtain ⟨-, b, e, c⟩ := h
  exact .mk x (by have := of_decide_eq_true b; omega) (fewE_lok _ _ e) fun y hy => fewT_lok y (d + 1) (List.all_eq_true.1 c y hy)
termination_by SizeOf.sizeOf x
decreasing_by exact Tm.lt_of_mem hy

theorem sp_fwe (x : Ex) (d : Int) (hd : 0 ≤ d) : Am.Spec Try.prog 63 [.agg (encE x), .int .i64 d] (.bool (fewE x d)) := by
  have ih : ∀ z ∈ x.l, ∀ d, 0 ≤ d → Am.Spec Try.prog 63 [.agg (encE z), .int .i64 d] (.bool (fewE z d)) := fun z hz d hd => sp_fwe z d hd
  rw [fewE_eq]
  by_cases c1 : d ≤ 10
  · have c1' : ¬ 10 < d := by omega
    by_cases c2 : x.l.length ≤ 5
    · have c2' : ¬ (5 : Int) < x.l.length := by omega
      rw [decide_eq_true c1, decide_eq_true c2]
      simp only [Bool.true_and]
      generalize hR : (x.l.all fun y => fewE y (d + 1)) = R
      have hwr : IntKind.wrap .i64 (d + 1) = d + 1 := wrap64 (by omega) (by omega)
      refine Am.Spec.of_W (W := W63) Try.func63 (by kernel_rfl) (by kernel_rfl) (by kernel_rfl) Try.ntmps63 W63_eq (rs := [.tmp 4]) (by kernel_rfl) (by simp) ?_
      intro vs
      simp [-W63_l7, c1', c2']
      refine sLoop_intro (fun i => i ≤ x.l.length ∧ R = (x.l.drop i).all fun y => fewE y (d + 1)) (fun i => x.l.length - i) (fun i => [(1, .int .i64 d), (2, .ref 2 (vs 2 + 1) (.p 0)), (5, .int .i64 (i : Nat))]) (fun _ => [(2, .box (vs 2 + 1) 31 (encE x))]) 0 (by simp [hR]) (by simp) (by simp) ?_
      rintro L i vt ⟨hi, hj⟩ hL
      by_cases h : i < x.l.length
      · have h' : (i : Int) < x.l.length := by omega
        have hx := ih _ (List.getElem_mem h) (d + 1) (by omega)
        rw [all_drop _ _ _ h] at hj
        rw [hj]
        generalize fewE x.l[i] (d + 1) = b at *
        cases b
        · simp [h, h', hwr]
          refine scall_pure hx (by simp) (by simp) ?_
          simp [retW_eq]
        · simp [h, h', hwr]
          refine scall_pure hx (by simp) (by simp) ?_
          simp
          rw [wrap64 (by omega) (by omega)]
          exact hL _ _ _ (i + 1) ⟨h, by rw [hj]; simp⟩ (by omega) (by simp) (by simp)
      · have h' : ¬ (i : Int) < x.l.length := by omega
        rw [hj, all_end _ _ _ (by omega)]
        simp [h, h', retW_eq]
    · have c2' : (5 : Int) < x.l.length := by omega
      rw [decide_eq_false c2]
      simp only [Bool.false_and, Bool.and_false]
      refine Am.Spec.of_W (W := W63) Try.func63 (by kernel_rfl) (by kernel_rfl) (by kernel_rfl) Try.ntmps63 W63_eq (rs := [.tmp 4]) (by kernel_rfl) (by simp) ?_
      intro vs
      simp [c1', c2', retW_eq]
  · have c1' : 10 < d := by omega
    rw [decide_eq_false c1]
    simp only [Bool.false_and]
    refine Am.Spec.of_W (W := W63) Try.func63 (by kernel_rfl) (by kernel_rfl) (by kernel_rfl) Try.ntmps63 W63_eq (rs := [.tmp 4]) (by kernel_rfl) (by simp) ?_
    intro vs
    simp [c1', retW_eq]
termination_by SizeOf.sizeOf x
decreasing_by exact Ex.lt_of_mem hz
theorem sp_fwt (x : Tm) (d : Int) (hd : 0 ≤ d) : Am.Spec Try.prog 42 [.agg (encT x), .int .i64 d] (.bool (fewT x d)) := by
  have ih : ∀ z ∈ x.l, ∀ d, 0 ≤ d → Am.Spec Try.prog 42 [.agg (encT z), .int .i64 d] (.bool (fewT z d)) := fun z hz d hd => sp_fwt z d hd
  rw [fewT_eq]
  by_cases c1 : d ≤ 10
  · have c1' : ¬ 10 < d := by omega
    by_cases c2 : x.l.length ≤ 5
    · have c2' : ¬ (5 : Int) < x.l.length := by omega
      have he := sp_fwe x.e 0 (by omega)
      rw [decide_eq_true c1, decide_eq_true c2]
      simp only [Bool.true_and]
      generalize fewE x.e 0 = be at *
      generalize hR : (x.l.all fun y => fewT y (d + 1)) = R
      cases be
      · simp only [Bool.false_and]
        refine Am.Spec.of_W (W := W42) Try.func42 (by kernel_rfl) (by kernel_rfl) (by kernel_rfl) Try.ntmps42 W42_eq (rs := [.tmp 4]) (by kernel_rfl) (by simp) ?_
        intro vs
        simp [-W42_l7, c1', c2']
        refine scall_pure he (by simp) (by simp) ?_
        simp [retW_eq]
      · simp only [Bool.true_and]
        have hwr : IntKind.wrap .i64 (d + 1) = d + 1 := wrap64 (by omega) (by omega)
        refine Am.Spec.of_W (W := W42) Try.func42 (by kernel_rfl) (by kernel_rfl) (by kernel_rfl) Try.ntmps42 W42_eq (rs := [.tmp 4]) (by kernel_rfl) (by simp) ?_
        intro vs
        simp [-W42_l7, c1', c2']
        refine scall_pure he (by simp) (by simp) ?_
        simp [-W42_l7]
        refine sLoop_intro (fun i => i ≤ x.l.length ∧ R = (x.l.drop i).all fun y => fewT y (d + 1)) (fun i => x.l.length - i) (fun i => [(1, .int .i64 d), (2, .ref 2 (vs 2 + 1) (.p 0)), (5, .int .i64 (i : Nat))]) (fun _ => [(2, .box (vs 2 + 1) 34 (encT x))]) 0 (by simp [hR]) (by simp) (by simp) ?_
        rintro L i vt ⟨hi, hj⟩ hL
        by_cases h : i < x.l.length
        · have h' : (i : Int) < x.l.length := by omega
          have hx := ih _ (List.getElem_mem h) (d + 1) (by omega)
          rw [all_drop _ _ _ h] at hj
          rw [hj]
          generalize fewT x.l[i] (d + 1) = b at *
          cases b
          · simp [h, h', hwr]
            refine scall_pure hx (by simp) (by simp) ?_
            simp [retW_eq]
          · simp [h, h', hwr]
            refine scall_pure hx (by simp) (by simp) ?_
            simp
            rw [wrap64 (by omega) (by omega)]
            exact hL _ _ _ (i + 1) ⟨h, by rw [hj]; simp⟩ (by omega) (by simp) (by simp)
        · have h' : ¬ (i : Int) < x.l.length := by omega
          rw [hj, all_end _ _ _ (by omega)]
          simp [h, h', retW_eq]
    · have c2' : (5 : Int) < x.l.length := by omega
      rw [decide_eq_false c2]
      simp only [Bool.false_and, Bool.and_false]
      refine Am.Spec.of_W (W := W42) Try.func42 (by kernel_rfl) (by kernel_rfl) (by kernel_rfl) Try.ntmps42 W42_eq (rs := [.tmp 4]) (by kernel_rfl) (by simp) ?_
      intro vs
      simp [c1', c2', retW_eq]
  · have c1' : 10 < d := by omega
    rw [decide_eq_false c1]
    simp only [Bool.false_and]
    refine Am.Spec.of_W (W := W42) Try.func42 (by kernel_rfl) (by kernel_rfl) (by kernel_rfl) Try.ntmps42 W42_eq (rs := [.tmp 4]) (by kernel_rfl) (by simp) ?_
    intro vs
    simp [c1', retW_eq]
termination_by SizeOf.sizeOf x
decreasing_by exact Tm.lt_of_mem hz
theorem sp_traw (x : Tm) : Am.Spec Try.prog 13 [.agg (encT x)] (.bool true) := by
  have hf := sp_fwt x 0 (by omega)
  cases hF : fewT x 0
  · rw [hF] at hf
    refine Am.Spec.of_W (W := W13) Try.func13 (by kernel_rfl) (by kernel_rfl) (by kernel_rfl) Try.ntmps13 W13_eq (rs := [.tmp 2]) (by kernel_rfl) (by simp) ?_
    intro vs
    simp
    refine scall_pure sp_kn5 (by simp) (by simp) ?_
    simp
    refine scall_pure hf (by simp) (by simp) ?_
    simp [retW_eq]
  · rw [hF] at hf
    have hl := fewT_lok x 0 hF
    have h1 := sp_tr x 3 2 5 hl
    have h2 := sp_rr x 3 2 5 hl
    have h3 := sp_samL x x hl
    rw [(Tm.same_iff x x).2 rfl] at h3
    generalize tmRight 3 2 5 x false = b at *
    refine Am.Spec.of_W (W := W13) Try.func13 (by kernel_rfl) (by kernel_rfl) (by kernel_rfl) Try.ntmps13 W13_eq (rs := [.tmp 2]) (by kernel_rfl) (by simp) ?_
    intro vs
    simp
    refine scall_pure sp_kn5 (by simp) (by simp) ?_
    simp
    refine scall_pure hf (by simp) (by simp) ?_
    simp
    refine scall0_pure h1 (by simp) (by simp) ?_
    simp
    refine scall0_pure h2 (by simp) (by simp) ?_
    simp
    refine scall0_pure h3 (by simp) (by simp) ?_
    simp [retW_eq]
end Go.Proofs.Ytkagfenchknjjaa
set_option linter.unusedVariables false
set_option linter.unusedSimpArgs false
namespace Go.Proofs.Ytkagfenchknjjaa
open Go Go.Am Go.RowKit
attribute [local simp] W17 W17_rs W17_b1 W17_b2 W17_b21 W17_b23 W17_c3 W17_c4 W17_c5 W17_c6 W17_c7 W17_c8 W17_c9 W17_c10 W17_c11 W17_c12 W17_c13 W17_c14 W17_c15 W17_c16 W17_c17 W17_c18 W17_c19 W17_c20 W17_c22 W17_c24

theorem tsm_go (r : Rw3) (w wh v a : Int) (t x : Tm) (hfew : Am.Spec Try.prog 21 [.agg [.int .i64 0, .int .i64 0, .sl ([r].map encR3)]] (.bool true)) (ht : Am.Spec Try.prog 23 [.agg (encR3 r), .int .i64 w] (.agg (encT t)))
    (hx : Am.Spec Try.prog 33 [.agg (encT t), .int .i64 wh, .int .i64 v, .int .i64 a] (.agg (encT x))) (hlt : t.lok) (hlx : x.lok) : Am.Spec Try.prog 17 [.agg (encR3 r), .int .i64 w, .int .i64 wh, .int .i64 v, .int .i64 a] (.bool true) := by
  have h1 := sp_samL t t hlt
  rw [(Tm.same_iff t t).2 rfl] at h1
  have h2 := sp_samL t x hlt
  have h3 := sp_s5 t x hlt
  have h4 := sp_samL x t hlx
  have h5 := sp_s5 x t hlx
  generalize Tm.same t x = b1 at *
  generalize Tm.same x t = b2 at *
  refine Am.Spec.of_W (W := W17) Try.func17 (by kernel_rfl) (by kernel_rfl) (by kernel_rfl) Try.ntmps17 W17_eq (rs := [.tmp 10]) (by kernel_rfl) (by simp) ?_
  intro vs
  simp
  refine scall_pure sp_kn5 (by simp) (by simp) ?_
  simp
  refine scall_pure hfew (by simp) (by simp) ?_
  simp
  refine scall0_pure ht (by simp) (by simp) ?_
  simp
  refine scall0_pure ht (by simp) (by simp) ?_
  simp
  refine scall_pure hx (by simp) (by simp) ?_
  simp
  refine scall0_pure h1 (by simp) (by simp) ?_
  simp
  refine scall0_pure h2 (by simp) (by simp) ?_
  simp
  refine scall0_pure h3 (by simp) (by simp) ?_
  simp
  refine scall0_pure h4 (by simp) (by simp) ?_
  simp
  refine scall0_pure h5 (by simp) (by simp) ?_
  simp [retW_eq]
theorem sp_tsm (r : Rw3) (w wh v a : Int) : Am.Spec Try.prog 17 [.agg (encR3 r), .int .i64 w, .int .i64 wh, .int .i64 v, .int .i64 a] (.bool true) := by
  have hfew := sp_fw3 (.int .i64 0) (.int .i64 0) [r] (by simp [maxLen]) (by simp [closed]) (by simp [closed])
  rw [few_one5] at hfew
  by_cases h : r.sz 0 ≤ 40
  · rw [decide_eq_true h] at hfew
    have hw1 := mkT_wt r w h
    obtain ⟨x, hxw, hx⟩ := sp_spo (mkT r w) wh v a (by omega)
    have hq : 5040 ≤ 137438953472 := by omega
    have hq2 : x.wt ≤ 137438953472 := by omega
    exact tsm_go r w wh v a _ x hfew (sp_mkT r w h) hx (lok_le (mkT r w) 5040 hw1 hq) (Tm.lok_of_wt x hq2)
  · rw [decide_eq_false h] at hfew
    refine Am.Spec.of_W (W := W17) Try.func17 (by kernel_rfl) (by kernel_rfl) (by kernel_rfl) Try.ntmps17 W17_eq (rs := [.tmp 10]) (by kernel_rfl) (by simp) ?_
    intro vs
    simp
    refine scall_pure sp_kn5 (by simp) (by simp) ?_
    simp
    refine scall_pure hfew (by simp) (by simp) ?_
    simp [retW_eq]
end Go.Proofs.Ytkagfenchknjjaa
