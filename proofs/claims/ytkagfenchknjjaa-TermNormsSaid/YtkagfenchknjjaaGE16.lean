import Derived.Test.YtkagfenchknjjaaGD14
import Derived.Test.YtkagfenchknjjaaGE12
import Derived.Test.YtkagfenchknjjaaGD13
set_option linter.unusedVariables false
set_option linter.unusedSimpArgs false
namespace Go.Proofs.Ytkagfenchknjjaa
open Go Go.Am Go.RowKit
attribute [local simp] W22 W22_rs W22_c1 W22_c4 W22_c8 W22_c9 W22_c10 W22_c11 W22_c12 W22_c16 W22_b2 W22_b3 W22_b5 W22_b6 W22_b7 W22_b13 W22_b14 W22_b15 W22_b17 W22_b18 W22_b19 W22_b20

/-! Rows, pairs have two parts, blocks one. -/
mutual
def okN : Tm → Bool
  | ⟨k, _, _, _, _, l⟩ => (!(decide (k = 12) || decide (k = 11)) || decide (l.length = 2)) && ((!decide (k = 7) || decide (l.length = 1)) && okNs l)
def okNs : List Tm → Bool
  | [] => true
  | x :: l => okN x && okNs l
end
theorem okN_eq (t : Tm) : okN t = ((!(decide (t.kind = 12) || decide (t.kind = 11)) || decide (t.l.length = 2)) && ((!decide (t.kind = 7) || decide (t.l.length = 1)) && okNs t.l)) := by cases t; rfl
theorem okNs_mem : ∀ {l : List Tm}, okNs l = true → ∀ x ∈ l, okN x = true
  | y :: l, h, x, hx => by
    simp only [okNs, Bool.and_eq_true] at h
    rcases List.mem_cons.1 hx with rfl | hx
    · exact h.1
    · exact okNs_mem h.2 x hx
theorem okN_two {t : Tm} (h : okN t = true) (hk : t.kind = 12 ∨ t.kind = 11) : ∃ x y, t.l = [x, y] ∧ okN x = true ∧ okN y = true := by
  rw [okN_eq] at h
  have hl : t.l.length = 2 := by rcases hk with hk | hk <;> simp [hk] at h <;> exact h.1
  have hm : okNs t.l = true := by simp at h; exact h.2.2
  rcases hh : t.l with _ | ⟨x, _ | ⟨y, _ | ⟨z, l⟩⟩⟩ <;> simp [hh] at hl
  rw [hh] at hm
  exact ⟨x, y, rfl, okNs_mem hm x (by simp), okNs_mem hm y (by simp)⟩
theorem okN_one {t : Tm} (h : okN t = true) (hk : t.kind = 7) : ∃ x, t.l = [x] ∧ okN x = true := by
  rw [okN_eq] at h
  have hl : t.l.length = 1 := by simp [hk] at h; exact h.1
  have hm : okNs t.l = true := by simp at h; exact h.2.2
  rcases hh : t.l with _ | ⟨x, _ | ⟨y, l⟩⟩ <;> simp [hh] at hl
  rw [hh] at hm
  exact ⟨x, rfl, okNs_mem hm x (by simp)⟩
theorem norm_leaf {t : Tm} (h : okN t = true) (h1 : t.kind ≠ 12) (h2 : t.kind ≠ 11) (h3 : t.kind ≠ 7) : t.norm = t := by
  rcases hh : t.l with _ | ⟨x, _ | ⟨y, _ | ⟨z, l⟩⟩⟩
  · exact Tm.norm_else (by simp [hh]) (by simp [hh])
  · rw [Tm.norm_one hh, if_neg h3]
  · rw [Tm.norm_two hh, if_neg h1, if_neg h2]
  · exact Tm.norm_else (by simp [hh]) (by simp [hh])
theorem sp_n5 (t : Tm) (h : okN t = true) : Am.Spec Try.prog 22 [.agg (encT t)] (.agg (encT t.norm)) := by
  by_cases k12 : t.kind = 12
  · obtain ⟨x, y, hl, hx, hy⟩ := okN_two h (.inl k12)
    have ix := sp_n5 x hx
    have iy := sp_n5 y hy
    rw [Tm.norm_two hl, if_pos k12]
    by_cases h0 : x.norm.kind = 0
    · rw [if_pos h0]
      refine Am.Spec.of_W (W := W22) Try.func22 (by kernel_rfl) (by kernel_rfl) (by kernel_rfl) Try.ntmps22 W22_eq (rs := [.cell 2 34]) (by kernel_rfl) (by simp) ?_
      intro vs
      simp [k12, hl]
      refine scall_pure ix (by simp) (by simp) ?_
      simp [h0, hl]
      refine scall_pure iy (by simp) (by simp) ?_
      simp [retW_eq]
    · rw [if_neg h0]
      refine Am.Spec.of_W (W := W22) Try.func22 (by kernel_rfl) (by kernel_rfl) (by kernel_rfl) Try.ntmps22 W22_eq (rs := [.cell 2 34]) (by kernel_rfl) (by simp) ?_
      intro vs
      simp [k12, hl]
      refine scall_pure ix (by simp) (by simp) ?_
      simp [h0, hl, retW_eq, encT_of]
  · by_cases k11 : t.kind = 11
    · obtain ⟨x, y, hl, hx, hy⟩ := okN_two h (.inr k11)
      have ix := sp_n5 x hx
      have iy := sp_n5 y hy
      rw [Tm.norm_two hl, if_neg k12, if_pos k11]
      by_cases h0 : x.norm.kind = 0
      · by_cases h1 : y.norm.kind = 0
        · rw [if_pos ⟨h0, h1⟩]
          refine Am.Spec.of_W (W := W22) Try.func22 (by kernel_rfl) (by kernel_rfl) (by kernel_rfl) Try.ntmps22 W22_eq (rs := [.cell 2 34]) (by kernel_rfl) (by simp) ?_
          intro vs
          simp [k11, hl]
          refine scall0_pure ix (by simp) (by simp) ?_
          simp [hl]
          refine scall0_pure iy (by simp) (by simp) ?_
          simp [h0, h1, hl, retW_eq, encT_skip]
        · rw [if_neg fun e => h1 e.2]
          refine Am.Spec.of_W (W := W22) Try.func22 (by kernel_rfl) (by kernel_rfl) (by kernel_rfl) Try.ntmps22 W22_eq (rs := [.cell 2 34]) (by kernel_rfl) (by simp) ?_
          intro vs
          simp [k11, hl]
          refine scall0_pure ix (by simp) (by simp) ?_
          simp [hl]
          refine scall0_pure iy (by simp) (by simp) ?_
          simp [h0, h1, hl, retW_eq, encT_of]
      · rw [if_neg fun e => h0 e.1]
        refine Am.Spec.of_W (W := W22) Try.func22 (by kernel_rfl) (by kernel_rfl) (by kernel_rfl) Try.ntmps22 W22_eq (rs := [.cell 2 34]) (by kernel_rfl) (by simp) ?_
        intro vs
        simp [k11, hl]
        refine scall0_pure ix (by simp) (by simp) ?_
        simp [hl]
        refine scall0_pure iy (by simp) (by simp) ?_
        simp [h0, hl, retW_eq, encT_of]
    · by_cases k7 : t.kind = 7
      · obtain ⟨x, hl, hx⟩ := okN_one h k7
        have ix := sp_n5 x hx
        rw [Tm.norm_one hl, if_pos k7]
        by_cases h0 : x.norm.kind = 0
        · rw [if_pos h0]
          refine Am.Spec.of_W (W := W22) Try.func22 (by kernel_rfl) (by kernel_rfl) (by kernel_rfl) Try.ntmps22 W22_eq (rs := [.cell 2 34]) (by kernel_rfl) (by simp) ?_
          intro vs
          simp [k7, hl]
          refine scall_pure ix (by simp) (by simp) ?_
          simp [h0, hl, retW_eq, encT_skip]
        · rw [if_neg h0]
          refine Am.Spec.of_W (W := W22) Try.func22 (by kernel_rfl) (by kernel_rfl) (by kernel_rfl) Try.ntmps22 W22_eq (rs := [.cell 2 34]) (by kernel_rfl) (by simp) ?_
          intro vs
          simp [k7, hl]
          refine scall_pure ix (by simp) (by simp) ?_
          simp [h0, hl, retW_eq, encT_of]
      · rw [norm_leaf h k12 k11 k7]
        refine Am.Spec.of_W (W := W22) Try.func22 (by kernel_rfl) (by kernel_rfl) (by kernel_rfl) Try.ntmps22 W22_eq (rs := [.cell 2 34]) (by kernel_rfl) (by simp) ?_
        intro vs
        simp [k12, k11, k7, retW_eq]
termination_by SizeOf.sizeOf t
decreasing_by all_goals exact Tm.lt_of_mem (by simp [hl])
end Go.Proofs.Ytkagfenchknjjaa
set_option linter.unusedVariables false
set_option linter.unusedSimpArgs false
namespace Go.Proofs.Ytkagfenchknjjaa
open Go Go.Am Go.RowKit


/-! What is made of a raw one has as many parts as it should. -/
mutual
def okQ : Pr → Bool
  | ⟨k, _, _, _, l⟩ => (!(decide (k = 12) || decide (k = 11)) || decide (l.length = 2)) && ((!decide (k = 7) || decide (l.length = 1)) && okQs l)
def okQs : List Pr → Bool
  | [] => true
  | x :: l => okQ x && okQs l
end
theorem okQ_ite {c : Prop} [Decidable c] {x y : Pr} (h1 : okQ x = true) (h2 : okQ y = true) : okQ (if c then x else y) = true := by split <;> assumption
theorem okQ_prOf (k a b : Int) (e : List Rw2) (p q : Pr) (hp : okQ p = true) (hq : okQ q = true) : okQ (prOf k a b e p q) = true := by
  unfold prOf
  repeat' apply okQ_ite
  all_goals simp [okQ, okQs, Pr.of, Pr.skip, hp, hq]
theorem okQ_pr (x : Rw3) (d : Nat) : okQ (x.pr d) = true := by
  have ih : ∀ y ∈ x.l, ∀ d, okQ (y.pr d) = true := fun y hy d => okQ_pr y d
  have hs : okQ .skip = true := by simp [Pr.skip, Pr.of, okQ, okQs]
  have hp : ∀ i, okQ (x.part i d) = true := fun i => by
    unfold Rw3.part
    split
    · cases h : x.l[i]? with
      | none => exact hs
      | some y => exact ih y (List.mem_of_getElem? h) _
    · exact hs
  rw [x.pr_eq]
  exact okQ_prOf _ _ _ _ _ _ (hp 0) (hp 1)
termination_by SizeOf.sizeOf x
decreasing_by exact Rw3.lt_of_mem hy
theorem lowP0_kind (V S D : List ByteArray) (k : Int) (s t : ByteArray) (e : Ex) (l : List Tm) : (lowP0 V S D k s t e l).kind = k ∧ (lowP0 V S D k s t e l).l = l := by
  unfold lowP0
  repeat' split
  all_goals simp_all
mutual
theorem okN_low (V S D : List ByteArray) : ∀ x : Pr, okQ x = true → okN (lowP V S D x) = true
  | ⟨k, s, t, e, l⟩, h => by
    have h0 := lowP0_kind V S D k s t e (lowPs V S D l)
    have hn := okNs_low V S D l
    have hl : (lowPs V S D l).length = l.length := by rw [lowPs_map]; simp
    rw [okN_eq, lowP, h0.1, h0.2, hl]
    simp only [okQ, Bool.and_eq_true] at h
    simp only [Bool.and_eq_true]
    exact ⟨h.1, h.2.1, hn h.2.2⟩
theorem okNs_low (V S D : List ByteArray) : ∀ l : List Pr, okQs l = true → okNs (lowPs V S D l) = true
  | [], _ => rfl
  | x :: l, h => by
    simp only [okQs, Bool.and_eq_true] at h
    simp only [lowPs, okNs, Bool.and_eq_true]
    exact ⟨okN_low V S D x h.1, okNs_low V S D l h.2⟩
end
mutual
theorem okN_wt (bits : Int) : ∀ (t : Tm) (k : Nat) (p : Bool), okN t = true → okN (wtT bits t k p).1 = true
  | ⟨kd, a, b, nm, e, l⟩, k, p, h => by
    have h1 := okNs_wt bits l (if kd = 1 then k + 1 else k) (p || decide (kd = 3))
    unfold wtT
    split
    · simp [okN, okNs]
    · simp only [okN, Bool.and_eq_true, wtTs_len] at h ⊢
      exact ⟨h.1, h.2.1, h1 h.2.2⟩
theorem okNs_wt (bits : Int) : ∀ (l : List Tm) (k : Nat) (p : Bool), okNs l = true → okNs (wtTs bits l k p).1 = true
  | [], k, p, _ => rfl
  | x :: l, k, p, h => by
    simp only [okNs, Bool.and_eq_true] at h
    simp only [wtTs, okNs, Bool.and_eq_true]
    exact ⟨okN_wt bits x k p h.1, okNs_wt bits l _ p h.2⟩
end
theorem okN_mk (r : Rw3) (waits : Int) : okN (mkT r waits) = true := by
  unfold mkT
  split
  · simp [askT, okN, okNs]
  · refine okN_wt _ _ _ _ ?_
    unfold re4T
    split
    · simp [Tmz, okN, okNs]
    · have := okN_low (mkProg r).V (mkProg r).stacks (mkProg r).D (r.pr 0) (okQ_pr r 0)
      simp only [ppr, mkProg, List.map_cons, List.getElem?_cons_zero, Option.getD_some] at this ⊢
      exact this
/-! What stands behind does not matter. -/
def rowE (a : Tm) : List Stp3 := (a.norm.pls [0] (decide (0 < a.norm.waits.length))).flatMap stepsAt
theorem seq_waits (n b : Tm) : (Tm.of 12 [n, b]).waits = n.waits := by
  unfold Tm.waits
  rw [Tm.act_eq (Tm.of 12 [n, b])]
  have hk : (Tm.of 12 [n, b]).kidsA = [n] := by simp [Tm.kidsA, Tm.of]
  rw [hk]
  simp only [Tm.acts, List.append_nil, List.filterMap_cons]
  simp [Tm.of]
end Go.Proofs.Ytkagfenchknjjaa
set_option linter.unusedVariables false
set_option linter.unusedSimpArgs false
namespace Go.Proofs.Ytkagfenchknjjaa
open Go Go.Am Go.RowKit
attribute [local simp] W26 W26_rs W26_b1 W26_b2 W26_b3 W26_b4 W26_b6 W26_k5 W31 W31_rs W31_b1 W31_b4 W31_b7 W31_k2 W31_c3 W31_c5 W31_l6

def aN (t : Tm) : Nat := if t.kind = 12 ∨ t.kind = 7 then 1 else if t.kind = 11 then 2 else 0
theorem sp_a5 (t : Tm) : Am.Spec Try.prog 26 [.agg (encT t)] (.int .i64 (aN t : Nat)) := by
  by_cases k1 : t.kind = 12
  · refine Am.Spec.of_W (W := W26) Try.func26 (by kernel_rfl) (by kernel_rfl) (by kernel_rfl) Try.ntmps26 W26_eq (rs := [.tmp 2]) (by kernel_rfl) (by simp) ?_
    intro vs
    simp [k1, aN, retW_eq]
  · by_cases k2 : t.kind = 7
    · refine Am.Spec.of_W (W := W26) Try.func26 (by kernel_rfl) (by kernel_rfl) (by kernel_rfl) Try.ntmps26 W26_eq (rs := [.tmp 2]) (by kernel_rfl) (by simp) ?_
      intro vs
      simp [k1, k2, aN, retW_eq]
    · by_cases k3 : t.kind = 11
      · refine Am.Spec.of_W (W := W26) Try.func26 (by kernel_rfl) (by kernel_rfl) (by kernel_rfl) Try.ntmps26 W26_eq (rs := [.tmp 2]) (by kernel_rfl) (by simp) ?_
        intro vs
        simp [k1, k2, k3, aN, retW_eq]
      · refine Am.Spec.of_W (W := W26) Try.func26 (by kernel_rfl) (by kernel_rfl) (by kernel_rfl) Try.ntmps26 W26_eq (rs := [.tmp 2]) (by kernel_rfl) (by simp) ?_
        intro vs
        simp [k1, k2, k3, aN, retW_eq]
theorem aN_le (t : Tm) (h : okN t = true) : aN t ≤ t.l.length ∧ aN t ≤ 2 := by
  unfold aN
  split
  · rename_i k
    rcases k with k | k
    · obtain ⟨x, y, hl, -⟩ := okN_two h (.inl k); simp [hl]
    · obtain ⟨x, hl, -⟩ := okN_one h k; simp [hl]
  · split
    · rename_i k
      obtain ⟨x, y, hl, -⟩ := okN_two h (.inr k); simp [hl]
    · simp
theorem okN_mem {t : Tm} (h : okN t = true) : ∀ x ∈ t.l, okN x = true := by
  rw [okN_eq] at h
  simp only [Bool.and_eq_true] at h
  exact okNs_mem h.2.2
def wk (t : Tm) (i : Nat) : List Int := (t.l.take i).flatMap Tm.waits
theorem acts_waits : ∀ l : List Tm, ((Tm.acts l).filterMap fun x => if x.kind = 14 then some x.a else none) = l.flatMap Tm.waits
  | [] => rfl
  | x :: l => by
    rw [Tm.acts_cons, List.filterMap_append, acts_waits l, List.flatMap_cons]
    rfl
theorem waits_eq (t : Tm) (h : okN t = true) : t.waits = if t.kind = 14 then [t.a] else wk t (aN t) := by
  have e : t.waits = ((t :: Tm.acts t.kidsA).filterMap fun x => if x.kind = 14 then some x.a else none) := by unfold Tm.waits; rw [Tm.act_eq]
  have e2 := acts_waits t.kidsA
  by_cases k14 : t.kind = 14
  · have hk : t.kidsA = [] := by simp [Tm.kidsA, k14]
    rw [e, hk, if_pos k14]
    simp [Tm.acts, k14]
  · rw [e, List.filterMap_cons, if_neg k14, if_neg k14]
    simp only
    rw [e2]
    have hk : t.kidsA = t.l.take (aN t) := by
      unfold Tm.kidsA aN
      by_cases k12 : t.kind = 12
      · simp [k12]
      · by_cases k7 : t.kind = 7
        · obtain ⟨x, hl, -⟩ := okN_one h k7; simp [k7, hl]
        · by_cases k11 : t.kind = 11
          · obtain ⟨x, y, hl, -⟩ := okN_two h (.inr k11); simp [k11, hl]
          · simp [k12, k7, k11]
    rw [hk, wk]
theorem wk_succ (t : Tm) (i : Nat) (h : i < t.l.length) : wk t (i + 1) = wk t i ++ t.l[i].waits := by
  unfold wk
  rw [List.take_succ_eq_append_getElem h]
  simp only [List.flatMap_append, List.flatMap_cons, List.flatMap_nil, List.append_nil]
theorem wk_len (t : Tm) (i : Nat) : (wk t i).length ≤ Tm.wts t.l := by
  unfold wk
  have : ∀ l : List Tm, (l.flatMap Tm.waits).length ≤ Tm.wts l := by
    intro l
    induction l with
    | nil => simp [Tm.wts]
    | cons x l ih => have := x.waits_len; simp only [List.flatMap_cons, List.length_append, Tm.wts]; omega
  have h1 := this (t.l.take i)
  have h2 : ∀ (l : List Tm) (i : Nat), Tm.wts (l.take i) ≤ Tm.wts l := by
    intro l
    induction l with
    | nil => simp
    | cons x l ih => intro i; cases i with
      | zero => simp [Tm.wts]
      | succ i => have := ih i; simp only [List.take_succ_cons, Tm.wts]; omega
  exact Nat.le_trans h1 (h2 _ _)
@[simp] theorem encI_cells' (p : List Int) : (∀ x ∈ encI p, x.length = 1 ∧ ∀ c ∈ x, c.cell = true) ↔ True := ⟨fun _ => trivial, fun _ => encI_cell p⟩
theorem sp_w5 (t : Tm) (h : okN t = true) (hw : t.wt ≤ 1000000) : Am.Spec Try.prog 31 [.agg (encT t)] (.sl (encI t.waits)) := by
  have ih : ∀ y ∈ t.l, Am.Spec Try.prog 31 [.agg (encT y)] (.sl (encI y.waits)) := fun y hy => sp_w5 y (okN_mem h y hy) (by have := Tm.wts_mem hy; have := t.wt_eq; omega)
  have hwt := t.wt_eq
  have ha := aN_le t h
  have hac := sp_a5 t
  rw [waits_eq t h]
  by_cases k14 : t.kind = 14
  · rw [if_pos k14]
    refine Am.Spec.of_W (W := W31) Try.func31 (by kernel_rfl) (by kernel_rfl) (by kernel_rfl) Try.ntmps31 W31_eq (rs := [.tmp 2]) (by kernel_rfl) (by simp) ?_
    intro vs
    simp [k14, retW_eq, encI]
  · rw [if_neg k14]
    refine Am.Spec.of_W (W := W31) Try.func31 (by kernel_rfl) (by kernel_rfl) (by kernel_rfl) Try.ntmps31 W31_eq (rs := [.tmp 2]) (by kernel_rfl) (by simp) ?_
    intro vs
    simp [-W31_l6, k14]
    refine sLoop_intro (fun a : Nat × Nat => a.1 ≤ aN t) (fun a => aN t - a.1) (fun a => [(1, .ref 1 (vs 1 + 1) (.p 0)), (3, if a.1 = 0 then .nils else .ref 24 a.2 .o), (4, .int .i64 (a.1 : Nat))])
      (fun a => (1, .box (vs 1 + 1) 34 (encT t)) :: if a.1 = 0 then [] else [(24, .row a.2 3 1 (encI (wk t a.1)))]) (0, 0) (by simp) (by simp) (by simp) ?_
    rintro L ⟨i, w⟩ vt hi hL
    simp only at hi hL ⊢
    by_cases hc : i < aN t
    · have hc' : (i : Int) < aN t := by omega
      have hil : i < t.l.length := by omega
      have hil' : (i : Int) < t.l.length := by omega
      have hx := ih _ (List.getElem_mem hil)
      have hs := wk_succ t i hil
      have hlen := wk_len t i
      have hlen2 := (t.l[i]).waits_len
      have hmem := Tm.wts_mem (List.getElem_mem hil)
      by_cases h0 : i = 0
      · subst h0
        simp
        refine scall_pure hac (by simp) (by simp) ?_
        simp [hc, hil]
        refine scall_pure hx (by simp) (by simp) ?_
        simp
        rw [decide_eq_true (by omega)]
        simp
        rw [wrap64 (by omega) (by omega)]
        refine hL _ _ _ (1, vt 24 + 1) (by simp only; omega) (by simp only; omega) (by simp) ?_
        have : wk t 1 = t.l[0].waits := by simpa [wk] using hs
        simp [this]
      · simp [h0]
        refine scall_pure hac (by simp) (by simp) ?_
        simp [hc, hil]
        refine scall_pure hx (by simp) (by simp) ?_
        simp
        rw [decide_eq_true (by omega)]
        simp
        rw [wrap64 (by omega) (by omega)]
        refine hL _ _ _ (i + 1, w + 1) (by simp only; omega) (by simp only; omega) (by simp) ?_
        simp [hs, encI]
    · obtain rfl : i = aN t := by omega
      by_cases h0 : aN t = 0
      · simp [h0]
        refine scall_pure hac (by simp) (by simp) ?_
        simp [h0, retW_eq, wk]
      · simp [h0]
        refine scall_pure hac (by simp) (by simp) ?_
        simp [h0, retW_eq]
termination_by SizeOf.sizeOf t
decreasing_by exact Tm.lt_of_mem hy
end Go.Proofs.Ytkagfenchknjjaa
set_option linter.unusedVariables false
set_option linter.unusedSimpArgs false
namespace Go.Proofs.Ytkagfenchknjjaa
open Go Go.Am Go.RowKit


theorem par_waits (a b : Tm) : (Tm.of 11 [a, b]).waits = a.waits ++ b.waits := by
  have e : (Tm.of 11 [a, b]).waits = ((Tm.of 11 [a, b] :: Tm.acts (Tm.of 11 [a, b]).kidsA).filterMap fun x => if x.kind = 14 then some x.a else none) := by unfold Tm.waits; rw [Tm.act_eq]
  rw [e, List.filterMap_cons, if_neg (by simp [Tm.of])]
  simp only
  rw [acts_waits]
  simp [Tm.kidsA, Tm.of]
theorem blk_waits (a : Tm) : (Tm.of 7 [a]).waits = a.waits := by
  have e : (Tm.of 7 [a]).waits = ((Tm.of 7 [a] :: Tm.acts (Tm.of 7 [a]).kidsA).filterMap fun x => if x.kind = 14 then some x.a else none) := by unfold Tm.waits; rw [Tm.act_eq]
  rw [e, List.filterMap_cons, if_neg (by simp [Tm.of])]
  simp only
  rw [acts_waits]
  simp [Tm.kidsA, Tm.of]
/-- What is left may do something, or waits for something. -/
theorem live (t : Tm) (h : okN t = true) (h0 : t.norm.kind ≠ 0) (p : List Int) : (t.norm.pls p false).flatMap stepsAt ≠ [] ∨ t.norm.waits ≠ [] := by
  by_cases k12 : t.kind = 12
  · obtain ⟨x, y, hl, hx, hy⟩ := okN_two h (.inl k12)
    have ix := live x hx
    have iy := live y hy
    rw [Tm.norm_two hl, if_pos k12] at h0 ⊢
    by_cases hx0 : x.norm.kind = 0
    · rw [if_pos hx0] at h0 ⊢
      exact iy h0 p
    · rw [if_neg hx0, seq_waits]
      refine (ix hx0 (p ++ [0])).imp (fun h e => h ?_) id
      simp [Tm.of, Tm.pls, Tm.pls1, kidW] at e
      simpa using e.2
  · by_cases k11 : t.kind = 11
    · obtain ⟨x, y, hl, hx, hy⟩ := okN_two h (.inr k11)
      have ix := live x hx
      have iy := live y hy
      rw [Tm.norm_two hl, if_neg k12, if_pos k11] at h0 ⊢
      by_cases hxy : x.norm.kind = 0 ∧ y.norm.kind = 0
      · rw [if_pos hxy] at h0; exact absurd rfl h0
      · rw [if_neg hxy, par_waits]
        by_cases hx0 : x.norm.kind = 0
        · have hy0 : y.norm.kind ≠ 0 := fun e => hxy ⟨hx0, e⟩
          refine (iy hy0 (p ++ [1])).imp (fun h e => h ?_) (fun h e => h (List.append_eq_nil_iff.1 e).2)
          simp [Tm.of, Tm.pls, Tm.plsL, kidW] at e
          simpa using e.2.2
        · refine (ix hx0 (p ++ [0])).imp (fun h e => h ?_) (fun h e => h (List.append_eq_nil_iff.1 e).1)
          simp [Tm.of, Tm.pls, Tm.plsL, kidW] at e
          simpa using e.2.1
    · by_cases k7 : t.kind = 7
      · obtain ⟨x, hl, hx⟩ := okN_one h k7
        have ix := live x hx
        rw [Tm.norm_one hl, if_pos k7] at h0 ⊢
        by_cases hx0 : x.norm.kind = 0
        · rw [if_pos hx0] at h0; exact absurd rfl h0
        · rw [if_neg hx0, blk_waits]
          by_cases hwx : x.norm.waits = []
          · left
            intro e
            simp [Tm.of, Tm.pls, Tm.pls1, kidW, hwx] at e
            rcases ix hx0 (p ++ [0]) with h | h
            · exact h (by simpa using e.2)
            · exact h hwx
          · exact .inr hwx
      · rw [norm_leaf h k12 k11 k7] at h0 ⊢
        by_cases k14 : t.kind = 14
        · right; rw [waits_eq t h, if_pos k14]; simp
        · left
          have hk : t.kidsP = 0 := by simp [Tm.kidsP, k12, k7, k11]
          rw [Tm.pls_eq, hk]
          have : stpN (t, p, false) ≠ 0 := by
            unfold stpN
            rw [if_neg (by simp only; omega)]
            split
            · simp
            · split <;> simp
          simp [Tm.plsL, stepsAt, stp]
          exact this
termination_by SizeOf.sizeOf t
decreasing_by all_goals exact Tm.lt_of_mem (by simp [hl])
end Go.Proofs.Ytkagfenchknjjaa
set_option linter.unusedVariables false
set_option linter.unusedSimpArgs false
namespace Go.Proofs.Ytkagfenchknjjaa
open Go Go.Am Go.RowKit


/-! What stands at a path. -/
def folw : Tm → List Int → Option Tm
  | t, [] => some t
  | t, j :: p => if 0 ≤ j ∧ j < aN t then (match t.l[j.toNat]? with | some y => folw y p | none => none) else none
theorem norm_norm (t : Tm) (h : okN t = true) : t.norm.norm = t.norm := by
  by_cases k12 : t.kind = 12
  · obtain ⟨x, y, hl, hx, hy⟩ := okN_two h (.inl k12)
    have ix := norm_norm x hx
    have iy := norm_norm y hy
    rw [Tm.norm_two hl, if_pos k12]
    by_cases hx0 : x.norm.kind = 0
    · rw [if_pos hx0]; exact iy
    · rw [if_neg hx0, Tm.norm_two (x := x.norm) (y := y) rfl, if_pos (show (Tm.of 12 [x.norm, y]).kind = 12 from rfl), ix, if_neg hx0]
  · by_cases k11 : t.kind = 11
    · obtain ⟨x, y, hl, hx, hy⟩ := okN_two h (.inr k11)
      have ix := norm_norm x hx
      have iy := norm_norm y hy
      rw [Tm.norm_two hl, if_neg k12, if_pos k11]
      by_cases h0 : x.norm.kind = 0 ∧ y.norm.kind = 0
      · rw [if_pos h0]; exact Tm.norm_else (by simp [Tm.skip, Tm.of]) (by simp [Tm.skip, Tm.of])
      · rw [if_neg h0, Tm.norm_two (x := x.norm) (y := y.norm) rfl, if_neg (show (Tm.of 11 [x.norm, y.norm]).kind ≠ 12 by simp [Tm.of]), if_pos (show (Tm.of 11 [x.norm, y.norm]).kind = 11 from rfl), ix, iy, if_neg h0]
    · by_cases k7 : t.kind = 7
      · obtain ⟨x, hl, hx⟩ := okN_one h k7
        have ix := norm_norm x hx
        rw [Tm.norm_one hl, if_pos k7]
        by_cases h0 : x.norm.kind = 0
        · rw [if_pos h0]; exact Tm.norm_else (by simp [Tm.skip, Tm.of]) (by simp [Tm.skip, Tm.of])
        · rw [if_neg h0, Tm.norm_one (x := x.norm) rfl, if_pos (show (Tm.of 7 [x.norm]).kind = 7 from rfl), ix, if_neg h0]
      · rw [norm_leaf h k12 k11 k7, norm_leaf h k12 k11 k7]
termination_by SizeOf.sizeOf t
decreasing_by all_goals exact Tm.lt_of_mem (by simp [hl])
structure PlOk (n : Tm) (s : Stp3) (x : Tm) : Prop where
  fol : folw n s.2.1 = some x
  kind : x.kind = s.1
  leaf : aN x = 0
  k0 : s.1 ≠ 0
  k14 : s.1 ≠ 14
  a0 : 0 ≤ s.2.2
  a1 : s.2.2 ≤ 1
  ch : s.2.2 = 1 → s.1 = 10
end Go.Proofs.Ytkagfenchknjjaa
set_option linter.unusedVariables false
set_option linter.unusedSimpArgs false
namespace Go.Proofs.Ytkagfenchknjjaa
open Go Go.Am Go.RowKit


mutual
theorem size_wt : ∀ t : Tm, t.size ≤ t.wt
  | ⟨k, a, b, s, e, l⟩ => by have := sizes_wt l; simp only [Tm.size, Tm.wt]; omega
theorem sizes_wt : ∀ l : List Tm, Tm.sizes l ≤ Tm.wts l
  | [] => by simp [Tm.sizes, Tm.wts]
  | x :: l => by have := size_wt x; have := sizes_wt l; simp only [Tm.sizes, Tm.wts]; omega
end
end Go.Proofs.Ytkagfenchknjjaa
set_option linter.unusedVariables false
set_option linter.unusedSimpArgs false
namespace Go.Proofs.Ytkagfenchknjjaa
open Go Go.Am Go.RowKit


/-! Rows, pairs, blocks of nothing. -/
inductive Nil : Nat → Tm → Prop
  | skip : Nil 0 .skip
  | blk {n : Nat} {t : Tm} : Nil n t → Nil (n + 1) (.of 7 [t])
  | seq1 {n : Nat} {t : Tm} : Nil n t → Nil (n + 1) (.of 12 [t, .skip])
  | seq2 {n : Nat} {t : Tm} : Nil n t → Nil (n + 1) (.of 12 [.skip, t])
  | par {n : Nat} {t : Tm} : Nil n t → Nil (n + 1) (.of 11 [t, .skip])
theorem skip_norm' : Tm.skip.norm = .skip := Tm.norm_else (by simp [Tm.skip, Tm.of]) (by simp [Tm.skip, Tm.of])
theorem Nil.norm {n : Nat} {t : Tm} (h : Nil n t) : t.norm = .skip := by
  induction h with
  | skip => exact skip_norm'
  | @blk n t _ ih => rw [Tm.norm_one (x := t) rfl, ih]; rfl
  | @seq1 n t _ ih => rw [Tm.norm_two (x := t) (y := .skip) rfl, ih, skip_norm']; rfl
  | @seq2 n t _ ih => rw [Tm.norm_two (x := .skip) (y := t) rfl, ih, skip_norm']; rfl
  | @par n t _ ih => rw [Tm.norm_two (x := t) (y := .skip) rfl, ih, skip_norm']; rfl
theorem acts_w : ∀ l : List Tm, ((Tm.acts l).filterMap fun x => if x.kind = 14 then some x.a else none) = l.flatMap Tm.waits
  | [] => rfl
  | x :: l => by
    rw [Tm.acts_cons, List.filterMap_append, acts_w l, List.flatMap_cons]
    rfl
theorem of_w (k : Int) (l : List Tm) (hk : k ≠ 14) : (Tm.of k l).waits = (Tm.of k l).kidsA.flatMap Tm.waits := by
  have e : (Tm.of k l).waits = ((Tm.of k l :: Tm.acts (Tm.of k l).kidsA).filterMap fun x => if x.kind = 14 then some x.a else none) := by unfold Tm.waits; rw [Tm.act_eq]
  rw [e, List.filterMap_cons, if_neg (by simpa [Tm.of] using hk)]
  simp only
  rw [acts_w]
theorem skip_w : Tm.skip.waits = [] := by rw [Tm.skip, of_w _ _ (by omega)]; simp [Tm.kidsA, Tm.of]
theorem Nil.waits {n : Nat} {t : Tm} (h : Nil n t) : t.waits = [] := by
  induction h with
  | skip => exact skip_w
  | @blk n t _ ih => rw [of_w _ _ (by omega)]; simp [Tm.kidsA, Tm.of, ih]
  | @seq1 n t _ ih => rw [of_w _ _ (by omega)]; simp [Tm.kidsA, Tm.of, ih]
  | @seq2 n t _ ih => rw [of_w _ _ (by omega)]; simp [Tm.kidsA, Tm.of, skip_w]
  | @par n t _ ih => rw [of_w _ _ (by omega)]; simp [Tm.kidsA, Tm.of, ih, skip_w]
theorem Nil.wt {n : Nat} {t : Tm} (h : Nil n t) : t.wt ≤ 2 + 4 * n := by
  induction h with
  | skip => simp [Tm.skip, Tm.of, Tm.wt, Ex.zero_wt, Tm.wts]
  | @blk n t _ ih => simp only [Tm.of, Tm.wt, Ex.zero_wt, Tm.wts]; omega
  | @seq1 n t _ ih => simp only [Tm.skip, Tm.of, Tm.wt, Ex.zero_wt, Tm.wts]; omega
  | @seq2 n t _ ih => simp only [Tm.skip, Tm.of, Tm.wt, Ex.zero_wt, Tm.wts]; omega
  | @par n t _ ih => simp only [Tm.skip, Tm.of, Tm.wt, Ex.zero_wt, Tm.wts]; omega
def exT : Tm := .of 8 []
/-- The box: what is stored is told as it is when it leaves. -/
structure Bx (c : List AV) (t : Tm) : Prop where
  len : c.length = 9
  rd : readA c 0 9 true = some (.agg c)
  pur : ∀ H : Heap, c.map (pur0 H) = encT t
  frz : ∀ H : Heap, c.foldl frz0 H = H
theorem Bx.nine {c : List AV} (h : c.length = 9) : readA c 0 9 true = some (.agg c) := by rw [← h]; simp [readA]
theorem bx_of (k : Int) (rows : List (List AV)) (l : List Tm) (h : rows = l.map encT) : Bx [.int .i64 k, .int .i64 0, .int .i64 0, .str ⟨#[]⟩, .int .i64 0, .int .i64 0, .str ⟨#[]⟩, .nils, .slt rows] (.of k l) :=
  ⟨rfl, Bx.nine rfl, fun H => by rw [encT_of, h]; simp, fun H => by simp⟩
end Go.Proofs.Ytkagfenchknjjaa
set_option linter.unusedVariables false
set_option linter.unusedSimpArgs false
namespace Go.Proofs.Ytkagfenchknjjaa
open Go Go.Am Go.RowKit
attribute [local simp] W43 W43_rs W43_k1 W43_b2 W33 W33_rs W33_c1 W33_c2 W33_c5 W33_c7 W33_c9 W33_c11 W33_c13 W33_c14 W33_c27 W33_c29 W33_c30 W33_c31 W33_b3 W33_b6 W33_b8 W33_b10 W33_b12 W33_b15 W33_b16 W33_b17 W33_b18 W33_b19 W33_b20 W33_b21 W33_b22 W33_b23 W33_b24 W33_b25 W33_b26 W33_b28 W33_k4

theorem sp_wi5' (a n : Int) (hn : 0 < n) (h2 : n < 4611686018427387904) : Am.Spec Try.prog 43 [.int .i64 a, .int .i64 n] (.int .i64 (within a n)) := by
  refine Am.Spec.of_W (W := W43) Try.func43 (by kernel_rfl) (by kernel_rfl) (by kernel_rfl) Try.ntmps43 W43_eq (rs := [.tmp 4]) (by kernel_rfl) (by simp) ?_
  intro vs
  simp
  rw [if_neg (by omega)]
  simp
  have h1 := Int.tmod_lt_of_pos a hn
  have h3 : -n < a.tmod n := by have := Int.lt_tmod_of_pos a hn; omega
  refine sIf_dec (fun h => ?_) (fun h => ?_)
  · simp
    rw [wrap64 (by omega) (by omega)]
    simp [retW_eq, within, h]
  · simp [retW_eq, within, h]
theorem bx_enc (t : Tm) : Bx (encT t) t := ⟨by simp, by simp, fun H => by simp, fun H => by simp⟩
def Zc : List AV := [.int .i64 0, .int .i64 0, .int .i64 0, .str ⟨#[]⟩, .int .i64 0, .int .i64 0, .str ⟨#[]⟩, .nils, .nils]
theorem spo_k4 (c : List AV) (x : Tm) (hb : Bx c x) (hcl : ∀ y ∈ c, y.cell = true) (v4 v8 : Nat) (vs : Nat → Nat) (T : List (Nat × AV)) (h4 : Am.look T 4 = .ref 4 v4 (.p 0)) (h8 : Am.look T 8 = .ref 8 v8 (.p 0)) :
    W33_k4 Try.prog (retK Try.prog [.cell 8 34] (.agg (encT x))) ⟨Am.look T, hls [(4, .box v4 34 c), (8, .box v8 34 Zc)] vs, noG⟩ := by
  obtain ⟨b1, b2, b3, b4⟩ := hb
  have hset : setL Zc 0 c = c := setL_whole (by rw [b1]; rfl)
  have hc : (∀ y ∈ c, y.cell = true) ↔ True := ⟨fun _ => trivial, fun _ => hcl⟩
  have hz : Zc.length = 9 := rfl
  simp [h4, h8, b1, b2, hset, hc, hz, retW_eq, b3, b4]
theorem spo_case0 (t : Tm) (wh v : Int) (hw : t.wt ≤ 100000) (hz : within wh 8 = 0) : ∃ x : Tm, x.wt ≤ t.wt + 10 ∧ ∀ (v4 v8 : Nat) (vs : Nat → Nat) (T : List (Nat × AV)), Am.look T 1 = .int .i64 wh → Am.look T 2 = .int .i64 v → Am.look T 4 = .ref 4 v4 (.p 0) → Am.look T 8 = .ref 8 v8 (.p 0) →
    W33_b28 Try.prog (retK Try.prog [.cell 8 34] (.agg (encT x))) ⟨Am.look T, hls [(4, .box v4 34 (encT t)), (8, .box v8 34 Zc)] vs, noG⟩ := by
    have e1 := Ex.wt_pos t.e
    have ew := t.wt_eq
    have w8 := sp_wi5' wh 8 (by omega) (by omega)
    rw [hz] at w8
    have w17 := sp_wi5' v 17 (by omega) (by omega)
    have ga := within_ge v 17 (by omega)
    have gb := within_lt v 17 (by omega)
    generalize within v 17 = zv at *
    refine ⟨⟨zv - 1, t.a, t.b, t.name, t.e, t.l⟩, by simp only [Tm.wt]; omega, ?_⟩
    intro v4 v8 vs T h1 h2 h4 h8
    have hwr : IntKind.wrap .i64 (zv - 1) = zv - 1 := wrap64 (by omega) (by omega)
    have hset : setL (encT t) 0 [.int .i64 (zv - 1)] = encT ⟨zv - 1, t.a, t.b, t.name, t.e, t.l⟩ := by rw [encT_eq, encT_eq]; rfl
    simp [-W33_k4, h1, h2, h4, h8]
    refine scall_pure w8 (by simp) (by simp) ?_
    simp [-W33_k4, h1, h2, h4, h8]
    refine scall_pure w17 (by simp) (by simp) ?_
    simp [-W33_k4, h1, h2, h4, h8, hwr, hset]
    refine spo_k4 _ _ (bx_enc _) (encT_cell _) v4 v8 vs _ ?_ ?_
    · simp [h4]
    · simp [h8]
theorem spo_case1 (t : Tm) (wh v : Int) (hw : t.wt ≤ 100000) (hz : within wh 8 = 1) : ∃ x : Tm, x.wt ≤ t.wt + 10 ∧ ∀ (v4 v8 : Nat) (vs : Nat → Nat) (T : List (Nat × AV)), Am.look T 1 = .int .i64 wh → Am.look T 2 = .int .i64 v → Am.look T 4 = .ref 4 v4 (.p 0) → Am.look T 8 = .ref 8 v8 (.p 0) →
    W33_b28 Try.prog (retK Try.prog [.cell 8 34] (.agg (encT x))) ⟨Am.look T, hls [(4, .box v4 34 (encT t)), (8, .box v8 34 Zc)] vs, noG⟩ := by
    have e1 := Ex.wt_pos t.e
    have ew := t.wt_eq
    have w8 := sp_wi5' wh 8 (by omega) (by omega)
    rw [hz] at w8
    have w6 := sp_wi5' v 6 (by omega) (by omega)
    have ga := within_ge v 6 (by omega)
    have gb := within_lt v 6 (by omega)
    obtain ⟨m, hm⟩ : ∃ m : Int, ixRows [[AV.int .i64 (-2)], [.int .i64 (-1)], [.int .i64 0], [.int .i64 2], [.int .i64 5], [.int .i64 v]] (within v 6) 1 = some (.elt [.int .i64 m] 0) := by
      have : within v 6 = 0 ∨ within v 6 = 1 ∨ within v 6 = 2 ∨ within v 6 = 3 ∨ within v 6 = 4 ∨ within v 6 = 5 := by omega
      rcases this with h | h | h | h | h | h <;> rw [h]
      · exact ⟨-2, by simp⟩
      · exact ⟨-1, by simp⟩
      · exact ⟨0, by simp⟩
      · exact ⟨2, by simp⟩
      · exact ⟨5, by simp⟩
      · exact ⟨v, by simp⟩
    generalize within v 6 = zv at *
    refine ⟨⟨t.kind, m, t.b, t.name, t.e, t.l⟩, by simp only [Tm.wt]; omega, ?_⟩
    intro v4 v8 vs T h1 h2 h4 h8
    have hset : setL (encT t) 1 [.int .i64 m] = encT ⟨t.kind, m, t.b, t.name, t.e, t.l⟩ := by rw [encT_eq, encT_eq]; rfl
    simp [-W33_k4, h1, h2, h4, h8]
    refine scall_pure w8 (by simp) (by simp) ?_
    simp [-W33_k4, h1, h2, h4, h8]
    refine scall_pure w6 (by simp) (by simp) ?_
    simp [-W33_k4, h1, h2, h4, h8, hm, hset]
    refine spo_k4 _ _ (bx_enc _) (encT_cell _) v4 v8 vs _ ?_ ?_
    · simp [h4]
    · simp [h8]
theorem spo_case2 (t : Tm) (wh v : Int) (hw : t.wt ≤ 100000) (hz : within wh 8 = 2) : ∃ x : Tm, x.wt ≤ t.wt + 10 ∧ ∀ (v4 v8 : Nat) (vs : Nat → Nat) (T : List (Nat × AV)), Am.look T 1 = .int .i64 wh → Am.look T 2 = .int .i64 v → Am.look T 4 = .ref 4 v4 (.p 0) → Am.look T 8 = .ref 8 v8 (.p 0) →
    W33_b28 Try.prog (retK Try.prog [.cell 8 34] (.agg (encT x))) ⟨Am.look T, hls [(4, .box v4 34 (encT t)), (8, .box v8 34 Zc)] vs, noG⟩ := by
    have e1 := Ex.wt_pos t.e
    have ew := t.wt_eq
    have w8 := sp_wi5' wh 8 (by omega) (by omega)
    rw [hz] at w8
    have w6 := sp_wi5' v 6 (by omega) (by omega)
    have ga := within_ge v 6 (by omega)
    have gb := within_lt v 6 (by omega)
    obtain ⟨m, hm⟩ : ∃ m : Int, ixRows [[AV.int .i64 (-2)], [.int .i64 (-1)], [.int .i64 0], [.int .i64 2], [.int .i64 3], [.int .i64 v]] (within v 6) 1 = some (.elt [.int .i64 m] 0) := by
      have : within v 6 = 0 ∨ within v 6 = 1 ∨ within v 6 = 2 ∨ within v 6 = 3 ∨ within v 6 = 4 ∨ within v 6 = 5 := by omega
      rcases this with h | h | h | h | h | h <;> rw [h]
      · exact ⟨-2, by simp⟩
      · exact ⟨-1, by simp⟩
      · exact ⟨0, by simp⟩
      · exact ⟨2, by simp⟩
      · exact ⟨3, by simp⟩
      · exact ⟨v, by simp⟩
    generalize within v 6 = zv at *
    refine ⟨⟨t.kind, t.a, m, t.name, t.e, t.l⟩, by simp only [Tm.wt]; omega, ?_⟩
    intro v4 v8 vs T h1 h2 h4 h8
    have hset : setL (encT t) 2 [.int .i64 m] = encT ⟨t.kind, t.a, m, t.name, t.e, t.l⟩ := by rw [encT_eq, encT_eq]; rfl
    simp [-W33_k4, h1, h2, h4, h8]
    refine scall_pure w8 (by simp) (by simp) ?_
    simp [-W33_k4, h1, h2, h4, h8]
    refine scall_pure w6 (by simp) (by simp) ?_
    simp [-W33_k4, h1, h2, h4, h8, hm, hset]
    refine spo_k4 _ _ (bx_enc _) (encT_cell _) v4 v8 vs _ ?_ ?_
    · simp [h4]
    · simp [h8]
theorem spo_case3 (t : Tm) (wh v : Int) (hw : t.wt ≤ 100000) (hz : within wh 8 = 3) : ∃ x : Tm, x.wt ≤ t.wt + 10 ∧ ∀ (v4 v8 : Nat) (vs : Nat → Nat) (T : List (Nat × AV)), Am.look T 1 = .int .i64 wh → Am.look T 2 = .int .i64 v → Am.look T 4 = .ref 4 v4 (.p 0) → Am.look T 8 = .ref 8 v8 (.p 0) →
    W33_b28 Try.prog (retK Try.prog [.cell 8 34] (.agg (encT x))) ⟨Am.look T, hls [(4, .box v4 34 (encT t)), (8, .box v8 34 Zc)] vs, noG⟩ := by
    have e1 := Ex.wt_pos t.e
    have ew := t.wt_eq
    have w8 := sp_wi5' wh 8 (by omega) (by omega)
    rw [hz] at w8
    have w5 := sp_wi5' v 5 (by omega) (by omega)
    have ga := within_ge v 5 (by omega)
    have gb := within_lt v 5 (by omega)
    obtain ⟨m, hm⟩ : ∃ m : ByteArray, ixRows [[AV.str ⟨#[]⟩], [.str ⟨#[112, 97, 121]⟩], [.str ⟨#[100, 111]⟩], [.str ⟨#[97, 32, 98]⟩], [.str ⟨#[80, 97, 121]⟩]] (within v 5) 1 = some (.elt [.str m] 0) := by
      have : within v 5 = 0 ∨ within v 5 = 1 ∨ within v 5 = 2 ∨ within v 5 = 3 ∨ within v 5 = 4 := by omega
      rcases this with h | h | h | h | h <;> rw [h]
      all_goals exact ⟨_, by simp; rfl⟩
    generalize within v 5 = zv at *
    refine ⟨⟨t.kind, t.a, t.b, m, t.e, t.l⟩, by simp only [Tm.wt]; omega, ?_⟩
    intro v4 v8 vs T h1 h2 h4 h8
    have hset : setL (encT t) 3 [.str m] = encT ⟨t.kind, t.a, t.b, m, t.e, t.l⟩ := by rw [encT_eq, encT_eq]; rfl
    simp [-W33_k4, h1, h2, h4, h8]
    refine scall_pure w8 (by simp) (by simp) ?_
    simp [-W33_k4, h1, h2, h4, h8]
    refine scall_pure w5 (by simp) (by simp) ?_
    simp [-W33_k4, h1, h2, h4, h8, hm, hset]
    refine spo_k4 _ _ (bx_enc _) (encT_cell _) v4 v8 vs _ ?_ ?_
    · simp [h4]
    · simp [h8]
theorem spo_case4 (t : Tm) (wh v : Int) (hw : t.wt ≤ 100000) (hz : within wh 8 = 4) : ∃ x : Tm, x.wt ≤ t.wt + 10 ∧ ∀ (v4 v8 : Nat) (vs : Nat → Nat) (T : List (Nat × AV)), Am.look T 1 = .int .i64 wh → Am.look T 2 = .int .i64 v → Am.look T 4 = .ref 4 v4 (.p 0) → Am.look T 8 = .ref 8 v8 (.p 0) →
    W33_b28 Try.prog (retK Try.prog [.cell 8 34] (.agg (encT x))) ⟨Am.look T, hls [(4, .box v4 34 (encT t)), (8, .box v8 34 Zc)] vs, noG⟩ := by
    have e1 := Ex.wt_pos t.e
    have ew := t.wt_eq
    have w8 := sp_wi5' wh 8 (by omega) (by omega)
    rw [hz] at w8
    have w4 := sp_wi5' v 4 (by omega) (by omega)
    obtain ⟨q, hq⟩ : ∃ q, IntKind.wrap .i64 (v.tdiv 4) = q := ⟨_, rfl⟩
    have w5 := sp_wi5' q 5 (by omega) (by omega)
    generalize within v 4 = zk at *
    generalize within q 5 = zn at *
    refine ⟨⟨t.kind, t.a, t.b, t.name, ⟨zk, zn, ⟨#[]⟩, []⟩, t.l⟩, by simp only [Tm.wt, Ex.wt, Ex.wts]; omega, ?_⟩
    intro v4 v8 vs T h1 h2 h4 h8
    have hbx : Bx [.int .i64 t.kind, .int .i64 t.a, .int .i64 t.b, .str t.name, .int .i64 zk, .int .i64 zn, .str ⟨#[]⟩, .nils, .sl (t.l.map encT)] ⟨t.kind, t.a, t.b, t.name, ⟨zk, zn, ⟨#[]⟩, []⟩, t.l⟩ := ⟨rfl, Bx.nine rfl, fun H => by rw [encT_eq]; simp, fun H => by simp⟩
    have hcl : ∀ y ∈ [AV.int .i64 t.kind, .int .i64 t.a, .int .i64 t.b, .str t.name, .int .i64 zk, .int .i64 zn, .str ⟨#[]⟩, .nils, .sl (t.l.map encT)], y.cell = true := by simp
    have hset : setL (encT t) 4 [.int .i64 zk, .int .i64 zn, .str ⟨#[]⟩, .nils] = [.int .i64 t.kind, .int .i64 t.a, .int .i64 t.b, .str t.name, .int .i64 zk, .int .i64 zn, .str ⟨#[]⟩, .nils, .sl (t.l.map encT)] := by rw [encT_eq]; rfl
    generalize [AV.int .i64 t.kind, .int .i64 t.a, .int .i64 t.b, .str t.name, .int .i64 zk, .int .i64 zn, .str ⟨#[]⟩, .nils, .sl (t.l.map encT)] = C at *
    generalize (⟨t.kind, t.a, t.b, t.name, ⟨zk, zn, ⟨#[]⟩, []⟩, t.l⟩ : Tm) = X at *
    simp [-W33_k4, h1, h2, h4, h8]
    refine scall_pure w8 (by simp) (by simp) ?_
    simp [-W33_k4, h1, h2, h4, h8]
    refine scall_pure w4 (by simp) (by simp) ?_
    simp [-W33_k4, h1, h2, h4, h8, hq]
    refine scall_pure w5 (by simp) (by simp) ?_
    simp [-W33_k4, h1, h2, h4, h8, hset]
    refine spo_k4 C X hbx hcl v4 v8 vs _ ?_ ?_
    · simp [h4]
    · simp [h8]
theorem spo_case5 (t : Tm) (wh v : Int) (hw : t.wt ≤ 100000) (hz : within wh 8 = 5) : ∃ x : Tm, x.wt ≤ t.wt + 10 ∧ ∀ (v4 v8 : Nat) (vs : Nat → Nat) (T : List (Nat × AV)), Am.look T 1 = .int .i64 wh → Am.look T 2 = .int .i64 v → Am.look T 4 = .ref 4 v4 (.p 0) → Am.look T 8 = .ref 8 v8 (.p 0) →
    W33_b28 Try.prog (retK Try.prog [.cell 8 34] (.agg (encT x))) ⟨Am.look T, hls [(4, .box v4 34 (encT t)), (8, .box v8 34 Zc)] vs, noG⟩ := by
    have e1 := Ex.wt_pos t.e
    have ew := t.wt_eq
    have w8 := sp_wi5' wh 8 (by omega) (by omega)
    rw [hz] at w8
    have hlen := Tm.wts_len t.l
    have hwts : ∀ l : List Tm, Tm.wts (l ++ [⟨14, 0, -1, ⟨#[112, 97, 121]⟩, .zero, []⟩]) = Tm.wts l + 2 := by
      intro l
      induction l with
      | nil => simp [Tm.wts, Tm.wt, Ex.zero_wt]
      | cons x l ih => simp only [List.cons_append, Tm.wts, ih]; omega
    refine ⟨⟨t.kind, t.a, t.b, t.name, t.e, t.l ++ [⟨14, 0, -1, ⟨#[112, 97, 121]⟩, .zero, []⟩]⟩, by simp only [Tm.wt, hwts]; omega, ?_⟩
    intro v4 v8 vs T h1 h2 h4 h8
    have hset : ∀ x : AV, setL (encT t) 8 [x] = [.int .i64 t.kind, .int .i64 t.a, .int .i64 t.b, .str t.name, .int .i64 t.e.kind, .int .i64 t.e.n, .str t.e.name, .sl (t.e.l.map encE), x] := fun x => by rw [encT_eq]; rfl
    have hz : Zc = [.int .i64 0, .int .i64 0, .int .i64 0, .str ⟨#[]⟩, .int .i64 0, .int .i64 0, .str ⟨#[]⟩, .nils, .nils] := rfl
    simp [-W33_k4, h1, h2, h4, h8]
    refine scall_pure w8 (by simp) (by simp) ?_
    simp [-W33_k4, h1, h2, h4, h8]
    rw [decide_eq_true (by omega)]
    simp [-W33_k4, h1, h2, h4, h8]
    rw [decide_eq_true (by omega)]
    simp [h1, h2, h4, h8, hset, hz, retW_eq]
    rw [encT_eq]
    simp [Ex.zero, encT_mk, encE_mk, closedLL_append, closedLL, closedL, closed]
theorem spo_case6 (t : Tm) (wh v : Int) (hw : t.wt ≤ 100000) (hz : within wh 8 = 6) : ∃ x : Tm, x.wt ≤ t.wt + 10 ∧ ∀ (v4 v8 : Nat) (vs : Nat → Nat) (T : List (Nat × AV)), Am.look T 1 = .int .i64 wh → Am.look T 2 = .int .i64 v → Am.look T 4 = .ref 4 v4 (.p 0) → Am.look T 8 = .ref 8 v8 (.p 0) →
    W33_b28 Try.prog (retK Try.prog [.cell 8 34] (.agg (encT x))) ⟨Am.look T, hls [(4, .box v4 34 (encT t)), (8, .box v8 34 Zc)] vs, noG⟩ := by
    have e1 := Ex.wt_pos t.e
    have ew := t.wt_eq
    have w8 := sp_wi5' wh 8 (by omega) (by omega)
    rw [hz] at w8
    by_cases h0 : 0 < t.l.length
    · have hwd : Tm.wts (t.l.drop 1) ≤ Tm.wts t.l := by cases t.l <;> simp [Tm.wts]
      refine ⟨⟨t.kind, t.a, t.b, t.name, t.e, t.l.drop 1⟩, by simp only [Tm.wt]; omega, ?_⟩
      intro v4 v8 vs T h1 h2 h4 h8
      have hsl : slcV 9 (t.l.map encT) (some (.i64, 1)) none = some (.sl ((t.l.drop 1).map encT)) := by
        rw [slcV_from 9 _ .i64 1 1 rfl (by simp; omega) (fun r hr => by obtain ⟨y, -, rfl⟩ := List.mem_map.1 hr; simp), List.map_drop]
      have hset : setL (encT t) 8 [.sl ((t.l.drop 1).map encT)] = encT ⟨t.kind, t.a, t.b, t.name, t.e, t.l.drop 1⟩ := by rw [encT_eq, encT_eq]; rfl
      generalize (⟨t.kind, t.a, t.b, t.name, t.e, t.l.drop 1⟩ : Tm) = X at *
      simp [-W33_k4, h1, h2, h4, h8]
      refine scall_pure w8 (by simp) (by simp) ?_
      generalize (t.l.drop 1).map encT = D at *
      simp [-W33_k4, h1, h2, h4, h8, h0, hsl, hset]
      refine spo_k4 (encT X) X (bx_enc X) (encT_cell X) v4 v8 vs _ ?_ ?_
      · simp [h4]
      · simp [h8]
    · refine ⟨t, by omega, ?_⟩
      intro v4 v8 vs T h1 h2 h4 h8
      have h0' : ¬ (0 : Int) < t.l.length := by omega
      simp [-W33_k4, h1, h2, h4, h8]
      refine scall_pure w8 (by simp) (by simp) ?_
      simp [-W33_k4, h1, h2, h4, h8, h0, h0']
      refine spo_k4 (encT t) t (bx_enc t) (encT_cell t) v4 v8 vs _ ?_ ?_
      · simp [h4]
      · simp [h8]
theorem spo_case7 (t : Tm) (wh v : Int) (hw : t.wt ≤ 100000) (hz : within wh 8 = 7) : ∃ x : Tm, x.wt ≤ t.wt + 10 ∧ ∀ (v4 v8 : Nat) (vs : Nat → Nat) (T : List (Nat × AV)), Am.look T 1 = .int .i64 wh → Am.look T 2 = .int .i64 v → Am.look T 4 = .ref 4 v4 (.p 0) → Am.look T 8 = .ref 8 v8 (.p 0) →
    W33_b28 Try.prog (retK Try.prog [.cell 8 34] (.agg (encT x))) ⟨Am.look T, hls [(4, .box v4 34 (encT t)), (8, .box v8 34 Zc)] vs, noG⟩ := by
    have e1 := Ex.wt_pos t.e
    have ew := t.wt_eq
    have w8 := sp_wi5' wh 8 (by omega) (by omega)
    rw [hz] at w8
    refine ⟨.of 3 [t], by simp only [Tm.of, Tm.wt, Ex.zero_wt, Tm.wts]; omega, ?_⟩
    intro v4 v8 vs T h1 h2 h4 h8
    simp [-W33_k4, h1, h2, h4, h8]
    refine scall_pure w8 (by simp) (by simp) ?_
    simp [-W33_k4, h1, h2, h4, h8]
    have hbx := bx_of 3 [encT t] [t] rfl
    have hcl : ∀ y ∈ [AV.int .i64 3, .int .i64 0, .int .i64 0, .str ⟨#[]⟩, .int .i64 0, .int .i64 0, .str ⟨#[]⟩, .nils, .slt [encT t]], y.cell = true := by simp
    generalize [AV.int .i64 3, .int .i64 0, .int .i64 0, .str ⟨#[]⟩, .int .i64 0, .int .i64 0, .str ⟨#[]⟩, .nils, .slt [encT t]] = C at *
    refine spo_k4 C _ hbx hcl v4 v8 vs _ ?_ ?_
    · simp [h4]
    · simp [h8]
theorem spo_b28 (t : Tm) (wh v : Int) (hw : t.wt ≤ 100000) : ∃ x : Tm, x.wt ≤ t.wt + 10 ∧ ∀ (v4 v8 : Nat) (vs : Nat → Nat) (T : List (Nat × AV)), Am.look T 1 = .int .i64 wh → Am.look T 2 = .int .i64 v → Am.look T 4 = .ref 4 v4 (.p 0) → Am.look T 8 = .ref 8 v8 (.p 0) →
    W33_b28 Try.prog (retK Try.prog [.cell 8 34] (.agg (encT x))) ⟨Am.look T, hls [(4, .box v4 34 (encT t)), (8, .box v8 34 Zc)] vs, noG⟩ := by
  have g8 := within_ge wh 8 (by omega)
  have g9 := within_lt wh 8 (by omega)
  have cs : within wh 8 = 0 ∨ within wh 8 = 1 ∨ within wh 8 = 2 ∨ within wh 8 = 3 ∨ within wh 8 = 4 ∨ within wh 8 = 5 ∨ within wh 8 = 6 ∨ within wh 8 = 7 := by omega
  rcases cs with h | h | h | h | h | h | h | h
  · exact spo_case0 t wh v hw h
  · exact spo_case1 t wh v hw h
  · exact spo_case2 t wh v hw h
  · exact spo_case3 t wh v hw h
  · exact spo_case4 t wh v hw h
  · exact spo_case5 t wh v hw h
  · exact spo_case6 t wh v hw h
  · exact spo_case7 t wh v hw h
theorem wts_set : ∀ (l : List Tm) (i : Nat) (x : Tm) (h : i < l.length), x.wt ≤ l[i].wt + 10 → Tm.wts (l.set i x) ≤ Tm.wts l + 10
  | [], _, _, h, _ => absurd h (by simp)
  | y :: l, 0, x, _, hx => by simp only [List.set_cons_zero, Tm.wts, List.getElem_cons_zero] at *; omega
  | y :: l, i + 1, x, h, hx => by
    have := wts_set l i x (by simpa using h) (by simpa using hx)
    simp only [List.set_cons_succ, Tm.wts]; omega
theorem sp_spo (t : Tm) (wh v at_ : Int) (hw : t.wt ≤ 100000) : ∃ x : Tm, x.wt ≤ t.wt + 10 ∧ Am.Spec Try.prog 33 [.agg (encT t), .int .i64 wh, .int .i64 v, .int .i64 at_] (.agg (encT x)) := by
  have hwt := t.wt_eq
  have hlen := Tm.wts_len t.l
  have ih : ∀ z ∈ t.l, ∀ at_, ∃ x : Tm, x.wt ≤ z.wt + 10 ∧ Am.Spec Try.prog 33 [.agg (encT z), .int .i64 wh, .int .i64 v, .int .i64 at_] (.agg (encT x)) := fun z hz at_ => sp_spo z wh v at_ (by have := Tm.wts_mem hz; omega)
  have w4 := sp_wi5' at_ 4 (by omega) (by omega)
  by_cases h0 : 0 < t.l.length
  · have h0' : (0 : Int) < t.l.length := by omega
    by_cases h1 : 0 < within at_ 4
    · generalize within at_ 4 = za at *
      obtain ⟨q, hq⟩ : ∃ q, IntKind.wrap .i64 (at_.tdiv 4) = q := ⟨_, rfl⟩
      obtain ⟨q9, hq9⟩ : ∃ q, IntKind.wrap .i64 (at_.tdiv 9) = q := ⟨_, rfl⟩
      have wl := sp_wi5' q t.l.length (by omega) (by omega)
      have ga := within_ge q t.l.length (by omega)
      have gb := within_lt q t.l.length (by omega)
      obtain ⟨k, hk⟩ : ∃ k : Nat, within q t.l.length = k := ⟨(within q t.l.length).toNat, by omega⟩
      rw [hk] at wl ga gb
      have hkl : k < t.l.length := by omega
      obtain ⟨x, hxw, hx⟩ := ih t.l[k] (List.getElem_mem hkl) q9
      have hws := wts_set t.l k x hkl hxw
      refine ⟨⟨t.kind, t.a, t.b, t.name, t.e, t.l.set k x⟩, by simp only [Tm.wt]; omega, ?_⟩
      have hset : ∀ x : AV, setL (encT t) 8 [x] = [.int .i64 t.kind, .int .i64 t.a, .int .i64 t.b, .str t.name, .int .i64 t.e.kind, .int .i64 t.e.n, .str t.e.name, .sl (t.e.l.map encE), x] := fun x => by rw [encT_eq]; rfl
      refine Am.Spec.of_W (W := W33) Try.func33 (by kernel_rfl) (by kernel_rfl) (by kernel_rfl) Try.ntmps33 W33_eq (rs := [.cell 8 34]) (by kernel_rfl) (by simp) ?_
      intro vs
      simp [-W33_b28, h0, h0']
      refine scall_pure w4 (by simp) (by simp) ?_
      simp [-W33_b28, h0, h0', h1]
      rw [decide_eq_true (by omega)]
      simp [-W33_b28, hq]
      refine scall_pure wl (by simp) (by simp) ?_
      simp [-W33_b28, hkl, hq9]
      refine scall_pure hx (by simp) (by simp) ?_
      simp [hkl, hset, retW_eq]
      rw [← List.map_set]
      exact ⟨closedLL_sl_map encT encT_closed _, by rw [encT_mk, encE_eq]; rfl⟩
    · obtain ⟨x, hxw, hx⟩ := spo_b28 t wh v hw
      generalize within at_ 4 = za at *
      refine ⟨x, hxw, ?_⟩
      refine Am.Spec.of_W (W := W33) Try.func33 (by kernel_rfl) (by kernel_rfl) (by kernel_rfl) Try.ntmps33 W33_eq (rs := [.cell 8 34]) (by kernel_rfl) (by simp) ?_
      intro vs
      simp [-W33_b28, h0, h0']
      refine scall_pure w4 (by simp) (by simp) ?_
      simp [-W33_b28, h0, h0', h1]
      refine hx (vs 4 + 1) (vs 8 + 1) _ _ ?_ ?_ ?_ ?_
      all_goals simp
  · obtain ⟨x, hxw, hx⟩ := spo_b28 t wh v hw
    have h0' : ¬ (0 : Int) < t.l.length := by omega
    refine ⟨x, hxw, ?_⟩
    refine Am.Spec.of_W (W := W33) Try.func33 (by kernel_rfl) (by kernel_rfl) (by kernel_rfl) Try.ntmps33 W33_eq (rs := [.cell 8 34]) (by kernel_rfl) (by simp) ?_
    intro vs
    simp [-W33_b28, h0, h0']
    refine hx (vs 4 + 1) (vs 8 + 1) _ _ ?_ ?_ ?_ ?_
    all_goals simp
termination_by SizeOf.sizeOf t
decreasing_by exact Tm.lt_of_mem hz
end Go.Proofs.Ytkagfenchknjjaa
