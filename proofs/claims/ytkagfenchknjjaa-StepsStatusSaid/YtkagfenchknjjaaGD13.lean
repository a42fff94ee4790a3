import Derived.Test.YtkagfenchknjjaaGD12
set_option linter.unusedVariables false
set_option linter.unusedSimpArgs false
namespace Go.Proofs.Ytkagfenchknjjaa
open Go Go.Am Go.RowKit

/-! What is made of a raw one may be lowered. -/
theorem nthB_known (l : List ByteArray) (a n : Int) (hn : 0 < n) (h : n = l.length) : ¬ idxB l (nthB l (within a n)) < 0 := by
  have h0 := within_ge a n hn
  have h1 := within_lt a n hn
  have : 0 ≤ idxB l (nthB l (within a n)) := by
    rw [idxB_mem]
    unfold nthB
    rw [List.getD_eq_getElem?_getD, List.getElem?_eq_getElem (by omega)]
    exact List.getElem_mem _
  omega
theorem badE_vs (x : Rw2) : badE vsL (x.ex vsL) = false := by
  have ih : ∀ y ∈ x.l, badE vsL (y.ex vsL) = false := fun y hy => badE_vs y
  have hp : ∀ i, badE vsL (x.part vsL i) = false := fun i => by
    unfold Rw2.part
    rcases Rw2.nodess_get x.l i with ⟨y, h1, h2⟩ | h1
    · rw [h1]; exact ih y h2
    · rw [h1]; simp [leafE, badE, badEs]
  have w0 := within_ge x.k 24 (by omega)
  have hk := nthB_known vsL x.n vsL.length (by simp [vsL]) rfl
  rw [x.ex_eq]
  split
  · simp [badE, badEs]
  · split
    · rw [if_pos (by simp [vsL])]
      simp only [badE, badEs, decide_eq_false hk]
      simp
    · split
      · simp [badE, badEs, hp]
      · split
        · simp [badE, badEs, hp]
        · have : ¬ within x.k 24 - 6 = 2 := by omega
          simp [badE, badEs, hp, this]
termination_by SizeOf.sizeOf x
decreasing_by exact Rw2.lt_of_mem hy
theorem badE_one (l : List Rw2) : badE vsL (oneE vsL l) = false := by
  cases l with
  | nil => simp [oneE, badE, badEs]
  | cons x l => exact badE_vs x
theorem badP_ite {V S D : List ByteArray} {c : Prop} [Decidable c] {x y : Pr} (h1 : badP V S D x = false) (h2 : badP V S D y = false) : badP V S D (if c then x else y) = false := by split <;> assumption
theorem okS_ite {c : Prop} [Decidable c] {x y : Pr} (h1 : x.okS = true) (h2 : y.okS = true) : (if c then x else y).okS = true := by split <;> assumption
theorem badP_prOf (k a b : Int) (e : List Rw2) (p q : Pr) (hp : badP vsL ssL dsL p = false) (hq : badP vsL ssL dsL q = false) : badP vsL ssL dsL (prOf k a b e p q) = false := by
  have h1 := nthB_known vsL a 3 (by omega) rfl
  have h2 := nthB_known ssL a 2 (by omega) rfl
  have h3 := nthB_known ssL b 2 (by omega) rfl
  have h4 := nthB_known dsL a 5 (by omega) rfl
  have h5 := badE_one e
  unfold prOf
  repeat' apply badP_ite
  all_goals simp [badP, badP0, badPs, Pr.of, Pr.skip, hp, hq, h1, h2, h3, h4, h5]
theorem okS_prOf (k a b : Int) (e : List Rw2) (p q : Pr) (hp : p.okS = true) (hq : q.okS = true) : (prOf k a b e p q).okS = true := by
  unfold prOf
  repeat' apply okS_ite
  all_goals simp [Pr.okS, Pr.okSs, Pr.of, Pr.skip, hp, hq]
theorem skip_ok : badP vsL ssL dsL .skip = false ∧ Pr.skip.okS = true := by
  constructor
  · simp [Pr.skip, Pr.of, badP, badP0, badPs]
  · simp [Pr.skip, Pr.of, Pr.okS, Pr.okSs]
theorem pr_ok (x : Rw3) (d : Nat) : badP vsL ssL dsL (x.pr d) = false ∧ (x.pr d).okS = true := by
  have ih : ∀ y ∈ x.l, ∀ d, badP vsL ssL dsL (y.pr d) = false ∧ (y.pr d).okS = true := fun y hy d => pr_ok y d
  have hp : ∀ i, badP vsL ssL dsL (x.part i d) = false ∧ (x.part i d).okS = true := fun i => by
    unfold Rw3.part
    split
    · cases h : x.l[i]? with
      | none => exact skip_ok
      | some y => exact ih y (List.mem_of_getElem? h) _
    · exact skip_ok
  rw [x.pr_eq]
  exact ⟨badP_prOf _ _ _ _ _ _ (hp 0).1 (hp 1).1, okS_prOf _ _ _ _ _ _ (hp 0).2 (hp 1).2⟩
termination_by SizeOf.sizeOf x
decreasing_by exact Rw3.lt_of_mem hy
theorem payP_ok : badP vsL ssL dsL payP = false ∧ payP.okS = true ∧ payP.wt ≤ 5040 := by
  refine ⟨?_, ?_, ?_⟩
  · simp [payP, Pr.of, badP, badP0, badPs]
  · simp [payP, Pr.of, Pr.okS, Pr.okSs]
  · simp [payP, Pr.of_wt, Pr.wts]
theorem mkV (r : Rw3) : (mkProg r).V = vsL := by simp [Prog.V, mkProg, List.range_succ, shV, nthB, vsL]
theorem mkD (r : Rw3) : (mkProg r).D = dsL := by simp [Prog.D, mkProg, nthB, dsL]
theorem mkS (r : Rw3) : (mkProg r).stacks = ssL := rfl
theorem bulk_of (r : Rw3) (h : r.sz 0 ≤ 40) : r.bulk ≤ 840 := by have := r.sz_le 0; omega
theorem okP_mk (r : Rw3) (h : r.sz 0 ≤ 40) : okP (mkProg r) := by
  have hb := bulk_of r h
  have hw := r.pr_wt 0
  have hr := pr_ok r 0
  have hp := payP_ok
  refine ⟨by simp [mkProg], by simp [mkProg, List.range_succ], by simp [mkProg, ssL], by simp [mkProg], ?_, by rw [mkV]; decide, by rw [mkS]; decide, by rw [mkD]; decide, ?_, by rw [mkD]; rfl⟩
  · intro d hd
    simp only [mkProg, List.mem_cons, List.not_mem_nil, or_false] at hd
    rcases hd with rfl | rfl | rfl | rfl | rfl
    · exact ⟨hr.2, by simp only; omega⟩
    all_goals exact ⟨hp.2.1, by have := hp.2.2; simp only; omega⟩
  · intro d hd
    rw [mkV, mkS, mkD]
    simp only [mkProg, List.mem_cons, List.not_mem_nil, or_false] at hd
    rcases hd with rfl | rfl | rfl | rfl | rfl
    · exact hr.1
    all_goals exact hp.1
mutual
theorem lowE_wt (V : List ByteArray) : ∀ x : Ex, (lowE V x).wt = x.wt
  | ⟨k, n, s, l⟩ => by simp [lowE, Ex.wt, lowEs_wt V l]
theorem lowEs_wt (V : List ByteArray) : ∀ l : List Ex, Ex.wts (lowEs V l) = Ex.wts l
  | [] => rfl
  | x :: l => by simp [lowEs, Ex.wts, lowE_wt V x, lowEs_wt V l]
end
mutual
theorem lowP_wt (V S D : List ByteArray) : ∀ x : Pr, (lowP V S D x).wt ≤ x.wt
  | ⟨k, s, t, e, l⟩ => by
    have h1 := lowPs_wt V S D l
    have h2 := Ex.wt_pos e
    have h3 := lowE_wt V e
    unfold lowP lowP0
    simp only [Pr.wt]
    repeat' split
    all_goals simp only [Tm.wt, Ex.zero_wt]
    all_goals omega
theorem lowPs_wt (V S D : List ByteArray) : ∀ l : List Pr, Tm.wts (lowPs V S D l) ≤ Pr.wts l
  | [] => Nat.le_refl _
  | x :: l => by
    have h1 := lowP_wt V S D x
    have h2 := lowPs_wt V S D l
    simp only [lowPs, Tm.wts, Pr.wts]
    omega
end
mutual
theorem wtT_wt (bits : Int) : ∀ (t : Tm) (k : Nat) (p : Bool), (wtT bits t k p).1.wt ≤ t.wt
  | ⟨kd, a, b, nm, e, l⟩, k, p => by
    have h1 := wtTs_wt bits l (if kd = 1 then k + 1 else k) (p || decide (kd = 3))
    have h2 := Ex.wt_pos e
    unfold wtT
    split
    · simp only [Tm.wt, Ex.zero_wt, Tm.wts]; omega
    · simp only [Tm.wt]; omega
theorem wtTs_wt (bits : Int) : ∀ (l : List Tm) (k : Nat) (p : Bool), Tm.wts (wtTs bits l k p).1 ≤ Tm.wts l
  | [], k, p => Nat.le_refl _
  | x :: l, k, p => by
    have h1 := wtT_wt bits x k p
    have h2 := wtTs_wt bits l (wtT bits x k p).2 p
    simp only [wtTs, Tm.wts]
    omega
end
theorem re4_wt (r : Rw3) (h : r.sz 0 ≤ 40) : (re4T (mkProg r)).wt ≤ 5040 := by
  have hb := bulk_of r h
  have hw := r.pr_wt 0
  unfold re4T
  split
  · simp [Tmz, Tm.wt, Ex.zero_wt, Tm.wts]
  · have := lowP_wt (mkProg r).V (mkProg r).stacks (mkProg r).D (r.pr 0)
    simp only [ppr, mkProg, List.map_cons, List.getElem?_cons_zero, Option.getD_some] at this ⊢
    omega
theorem mkT_wt (r : Rw3) (waits : Int) (h : r.sz 0 ≤ 40) : (mkT r waits).wt ≤ 5040 := by
  have h1 := re4_wt r h
  have h2 := wtT_wt waits (re4T (mkProg r)) 0 false
  unfold mkT
  split
  · simp [askT, Tm.wt, Ex.zero_wt, Tm.wts]
  · omega
theorem sp_mkT (r : Rw3) (waits : Int) (h : r.sz 0 ≤ 40) : Am.Spec Try.prog 23 [.agg (encR3 r), .int .i64 waits] (.agg (encT (mkT r waits))) :=
  sp_mk5 r waits (okP_mk r h) (by have := re4_wt r h; omega)
end Go.Proofs.Ytkagfenchknjjaa
