import Derived.Test.YtkagfenchknjjaaGF15
import Derived.Test.YtkagfenchknjjaaGE16
set_option linter.unusedVariables false
set_option linter.unusedSimpArgs false
namespace Go.Proofs.Ytkagfenchknjjaa
open Go Go.Am Go.RowKit

/-! ### What is made may be -/
theorem nthB_in (l : List ByteArray) (a n : Int) (hn : 0 < n) (h : n = l.length) : 0 ≤ idxB l (nthB l (within a n)) ∧ idxB l (nthB l (within a n)) < n := by
  have h1 := nthB_known l a n hn h
  have h2 := idxB_lt l (nthB l (within a n))
  omega
theorem exRight_of (v k n : Int) (l : List Ex) (h : exOk v ⟨k, n, ⟨#[]⟩, l⟩ = true) (hl : ∀ x ∈ l, exRight v x = true) : exRight v ⟨k, n, ⟨#[]⟩, l⟩ = true := by
  rw [exRight_eq, h]
  exact List.all_eq_true.2 hl
theorem leaf_right (n i : Int) : exRight 3 (lowE vsL (leafE n i)) = true := by
  have h := within_ge (IntKind.wrap .i64 (n + i)) 5 (by omega)
  rw [lowE_eq]
  simp only [leafE, List.map_nil]
  exact exRight_of _ _ _ _ (by simp [exOk, kids, h]) (by simp)
theorem ex_right (x : Rw2) : exRight 3 (lowE vsL (x.ex vsL)) = true := by
  have ih : ∀ y ∈ x.l, exRight 3 (lowE vsL (y.ex vsL)) = true := fun y hy => ex_right y
  have hp : ∀ i, exRight 3 (lowE vsL (x.part vsL i)) = true := fun i => by
    unfold Rw2.part
    rcases Rw2.nodess_get x.l i with ⟨y, h1, h2⟩ | h1
    · rw [h1]; exact ih y h2
    · rw [h1]; exact leaf_right _ _
  have w0 := within_ge x.k 24 (by omega)
  have w1 := within_lt x.k 24 (by omega)
  have w2 := within_ge x.n 8 (by omega)
  have w3 := within_lt x.n 8 (by omega)
  have hk := nthB_in vsL x.n vsL.length (by simp [vsL]) rfl
  have hv : (vsL.length : Int) = 3 := rfl
  have hnum : 0 ≤ numsE.getD (within x.n 8).toNat 0 := by
    generalize within x.n 8 = z at *
    have : z = 0 ∨ z = 1 ∨ z = 2 ∨ z = 3 ∨ z = 4 ∨ z = 5 ∨ z = 6 ∨ z = 7 := by omega
    rcases this with rfl | rfl | rfl | rfl | rfl | rfl | rfl | rfl <;> decide
  rw [x.ex_eq]
  generalize numsE.getD (within x.n 8).toNat 0 = z at *
  split
  · rw [lowE_eq]
    exact exRight_of _ _ _ _ (by simp [exOk, kids, hnum]) (by simp)
  · split
    · rw [if_pos (by simp [vsL]), lowE_eq]
      exact exRight_of _ _ _ _ (by simp [exOk, kids]; omega) (by simp)
    · split
      · rw [lowE_eq]
        exact exRight_of _ _ _ _ (by simp [exOk, kids]) (by simp [hp])
      · split
        · rw [lowE_eq]
          exact exRight_of _ _ _ _ (by simp [exOk, kids]) (by simp [hp])
        · have h1 : ¬ within x.k 24 - 6 = 1 := by omega
          have h2 : ¬ within x.k 24 - 6 = 2 := by omega
          have h3 : ¬ within x.k 24 - 6 = 3 := by omega
          have h4 : ¬ within x.k 24 - 6 = 4 := by omega
          rw [lowE_eq]
          exact exRight_of _ _ _ _ (by simp [exOk, kids, h1, h2, h3, h4]; omega) (by simp [hp])
termination_by SizeOf.sizeOf x
decreasing_by exact Rw2.lt_of_mem hy
theorem one_right (l : List Rw2) : exRight 3 (lowE vsL (oneE vsL l)) = true := by
  cases l with
  | nil =>
    rw [lowE_eq]
    exact exRight_of _ _ _ _ (by simp [exOk, kids, oneE]) (by simp [oneE])
  | cons x l => exact ex_right x
abbrev rgt3 (t : Tm) (d : Bool) : Prop := tmRight 3 2 5 t d = true
theorem rgt_of (t : Tm) (d : Bool) (h0 : 0 ≤ t.kind) (h1 : t.kind ≤ 13) (h : tmOk 3 2 5 t = true) (hl : ∀ x ∈ t.l, rgt3 x true) (hd : d = true ∨ t.kind = 3 ∨ ∀ x ∈ t.l, rgt3 x d) : rgt3 t d := by
  unfold rgt3 at *
  rw [tmRight_eq, h, decide_eq_true h0, decide_eq_true (show t.kind ≤ 14 by omega), decide_eq_false (show ¬ t.kind = 14 by omega)]
  simp only [Bool.true_and, Bool.and_false, Bool.not_false]
  rw [List.all_eq_true]
  rcases hd with rfl | h3 | hd
  · simpa using hl
  · rw [decide_eq_true h3, Bool.or_true]; exact hl
  · cases d
    · by_cases h3 : t.kind = 3
      · rw [decide_eq_true h3]; exact hl
      · rw [decide_eq_false h3]; exact hd
    · simpa using hl
theorem name_ps (b : Int) : nameOk (nthB psL (within b 3)) = true := by
  have h1 := within_ge b 3 (by omega)
  have h2 := within_lt b 3 (by omega)
  generalize within b 3 = z at *
  have : z = 0 ∨ z = 1 ∨ z = 2 := by omega
  rcases this with rfl | rfl | rfl <;> decide +kernel
theorem ne_vs (a : Int) : ¬ nthB vsL (within a 3) = ⟨#[]⟩ := by
  have h1 := within_ge a 3 (by omega)
  have h2 := within_lt a 3 (by omega)
  generalize within a 3 = z at *
  have : z = 0 ∨ z = 1 ∨ z = 2 := by omega
  rcases this with rfl | rfl | rfl <;> decide +kernel
theorem zero_none : Ex.zero.none = true := by decide +kernel
theorem rgt_ite {c : Prop} [Decidable c] {x y : Pr} (h1 : rgt3 (lowP vsL ssL dsL x) true) (h2 : rgt3 (lowP vsL ssL dsL y) true) : rgt3 (lowP vsL ssL dsL (if c then x else y)) true := by split <;> assumption
theorem rgt_prOf (k a b : Int) (e : List Rw2) (p q : Pr) (hp : rgt3 (lowP vsL ssL dsL p) true) (hq : rgt3 (lowP vsL ssL dsL q) true) : rgt3 (lowP vsL ssL dsL (prOf k a b e p q)) true := by
  have h1 := nthB_in vsL a 3 (by omega) rfl
  have h2 := nthB_in ssL a 2 (by omega) rfl
  have h3 := nthB_in ssL b 2 (by omega) rfl
  have h4 := nthB_in dsL a 5 (by omega) rfl
  have h5 := one_right e
  have h6 := name_ps b
  have h7 := ne_vs a
  have h8 : -1 ≤ idxB vsL (nthB vsL (within a 3)) := by omega
  unfold prOf
  generalize nthB vsL (within a 3) = va at *
  generalize nthB ssL (within a 2) = sa at *
  generalize nthB ssL (within b 2) = sb at *
  generalize nthB dsL (within a 5) = da at *
  generalize nthB psL (within b 3) = pb at *
  generalize oneE vsL e = oe at *
  repeat' apply rgt_ite
  all_goals
    rw [lowP_eq]
    simp only [Pr.of, Pr.skip, lowP0]
    first
      | (refine rgt_of _ _ ?_ ?_ ?_ ?_ (.inl rfl)
         · simp
         · simp
         · simp [tmOk, numOk, kA, kB, kN, kE, kL, h1, h2, h3, h4, h5, h6, h7, h8, zero_none]
         · intro x hx
           simp at hx
           first
             | done
             | exact hx.elim
             | (subst hx; assumption)
             | (rcases hx with rfl | rfl <;> assumption))
theorem pr_right (x : Rw3) (d : Nat) : rgt3 (lowP vsL ssL dsL (x.pr d)) true := by
  have ih : ∀ y ∈ x.l, ∀ d, rgt3 (lowP vsL ssL dsL (y.pr d)) true := fun y hy d => pr_right y d
  have hs : rgt3 (lowP vsL ssL dsL .skip) true := by decide +kernel
  have hp : ∀ i, rgt3 (lowP vsL ssL dsL (x.part i d)) true := fun i => by
    unfold Rw3.part
    split
    · cases h : x.l[i]? with
      | none => exact hs
      | some y => exact ih y (List.mem_of_getElem? h) _
    · exact hs
  rw [x.pr_eq]
  exact rgt_prOf _ _ _ _ _ _ (hp 0) (hp 1)
termination_by SizeOf.sizeOf x
decreasing_by exact Rw3.lt_of_mem hy
theorem re4_right (r : Rw3) : rgt3 (re4T (mkProg r)) true := by
  unfold re4T
  split
  · decide +kernel
  · simp only [ppr, mkV, mkD, mkS]
    exact pr_right r 0
theorem wtTs_mem (bits : Int) (p : Bool) : ∀ (l : List Tm) (k : Nat), ∀ x ∈ (wtTs bits l k p).1, ∃ y ∈ l, ∃ k', x = (wtT bits y k' p).1
  | [], k, x, h => by simp [wtTs] at h
  | y :: l, k, x, h => by
    simp only [wtTs, List.mem_cons] at h
    rcases h with rfl | h
    · exact ⟨y, by simp, k, rfl⟩
    · obtain ⟨z, hz, k', e⟩ := wtTs_mem bits p l _ x h
      exact ⟨z, by simp [hz], k', e⟩
theorem wt_right (bits : Int) (t : Tm) (k : Nat) (p : Bool) (h : rgt3 t true) : rgt3 (wtT bits t k p).1 p := by
  have ih : ∀ y ∈ t.l, ∀ k p, rgt3 y true → rgt3 (wtT bits y k p).1 p := fun y hy k p => wt_right bits y k p
  unfold rgt3 at h
  rw [tmRight_eq] at h
  simp only [Bool.and_eq_true, Bool.true_and, Bool.true_or] at h
  obtain ⟨h0, h1, h2, h3, h4⟩ := h
  have h0 := of_decide_eq_true h0
  have h1 := of_decide_eq_true h1
  have h2 : ¬ t.kind = 14 := by simpa using h2
  rw [wtT_eq]
  split
  · rename_i hk
    obtain ⟨hk, hp, -⟩ := hk
    subst hp
    unfold tmOk at h3
    simp only [Bool.and_eq_true, hk] at h3
    obtain ⟨a1, -, -, a4, -⟩ := h3
    have a1 : numOk 3 2 5 2 t.a = true := a1
    have a4 : nameOk t.name = true := a4
    unfold rgt3
    rw [tmRight_eq]
    simp [tmOk, kA, kB, kN, kE, kL, a1, a4, zero_none, numOk]
    simpa [numOk] using a1
  · unfold rgt3
    rw [tmRight_eq]
    simp only [Bool.and_eq_true]
    refine ⟨decide_eq_true h0, decide_eq_true h1, ?_, ?_, ?_⟩
    · simp [h2]
    · unfold tmOk at h3 ⊢
      simp only [wtTs_len]
      exact h3
    · rw [List.all_eq_true] at h4 ⊢
      intro x hx
      obtain ⟨y, hy, k', rfl⟩ := wtTs_mem _ _ _ _ x hx
      exact ih y hy k' _ (h4 y hy)
termination_by SizeOf.sizeOf t
decreasing_by exact Tm.lt_of_mem hy
theorem mk_right (r : Rw3) (w : Int) : rgt3 (mkT r w) false := by
  unfold mkT
  split
  · decide +kernel
  · exact wt_right _ _ _ _ (re4_right r)
theorem norm_right (t : Tm) (d : Bool) (ho : okN t = true) (h : rgt3 t d) : rgt3 t.norm d := by
  have hk : ∀ k : Int, (k = 12 ∨ k = 11 ∨ k = 7) → t.kind = k → ∀ x ∈ t.l, rgt3 x d := fun k hk e x hx => by
    unfold rgt3 at h ⊢
    rw [tmRight_eq] at h
    simp only [Bool.and_eq_true] at h
    have := List.all_eq_true.1 h.2.2.2.2 x hx
    rwa [decide_eq_false (by omega), Bool.or_false] at this
  have two : ∀ k x y, (k = 12 ∨ k = 11) → rgt3 x d → rgt3 y d → rgt3 (.of k [x, y]) d := fun k x y hk hx hy => by
    unfold rgt3 at *
    rw [tmRight_eq]
    simp only [Tm.of, List.all_cons, List.all_nil]
    rcases hk with rfl | rfl <;> simp [hx, hy, tmOk, numOk, kA, kB, kN, kE, kL, zero_none]
  have one : ∀ x, rgt3 x d → rgt3 (.of 7 [x]) d := fun x hx => by
    unfold rgt3 at *
    rw [tmRight_eq]
    simp only [Tm.of, List.all_cons, List.all_nil]
    simp [hx, tmOk, numOk, kA, kB, kN, kE, kL, zero_none]
  have sk : rgt3 .skip d := by cases d <;> decide +kernel
  by_cases k12 : t.kind = 12
  · obtain ⟨x, y, hl, hx, hy⟩ := okN_two ho (.inl k12)
    have ix := norm_right x d hx (hk 12 (by omega) k12 x (by simp [hl]))
    have ry := hk 12 (by omega) k12 y (by simp [hl])
    have iy := norm_right y d hy ry
    rw [Tm.norm_two hl, if_pos k12]
    split
    · exact iy
    · exact two 12 _ _ (.inl rfl) ix ry
  · by_cases k11 : t.kind = 11
    · obtain ⟨x, y, hl, hx, hy⟩ := okN_two ho (.inr k11)
      have ix := norm_right x d hx (hk 11 (by omega) k11 x (by simp [hl]))
      have iy := norm_right y d hy (hk 11 (by omega) k11 y (by simp [hl]))
      rw [Tm.norm_two hl, if_neg k12, if_pos k11]
      split
      · exact sk
      · exact two 11 _ _ (.inr rfl) ix iy
    · by_cases k7 : t.kind = 7
      · obtain ⟨x, hl, hx⟩ := okN_one ho k7
        have ix := norm_right x d hx (hk 7 (by omega) k7 x (by simp [hl]))
        rw [Tm.norm_one hl, if_pos k7]
        split
        · exact sk
        · exact one _ ix
      · rw [norm_leaf ho k12 k11 k7]; exact h
termination_by SizeOf.sizeOf t
decreasing_by all_goals (apply Tm.lt_of_mem; simp [hl])
theorem norm_size (t : Tm) (ho : okN t = true) : t.norm.size ≤ t.size := by
  by_cases k12 : t.kind = 12
  · obtain ⟨x, y, hl, hx, hy⟩ := okN_two ho (.inl k12)
    have ix := norm_size x hx
    have iy := norm_size y hy
    have px := x.size_pos
    have py := y.size_pos
    rw [Tm.norm_two hl, if_pos k12, t.size_eq, hl]
    simp only [Tm.sizes]
    split
    · omega
    · simp only [Tm.of, Tm.size, Tm.sizes]; omega
  · by_cases k11 : t.kind = 11
    · obtain ⟨x, y, hl, hx, hy⟩ := okN_two ho (.inr k11)
      have ix := norm_size x hx
      have iy := norm_size y hy
      have px := x.size_pos
      have py := y.size_pos
      rw [Tm.norm_two hl, if_neg k12, if_pos k11, t.size_eq, hl]
      simp only [Tm.sizes]
      split
      · simp only [Tm.skip, Tm.of, Tm.size, Tm.sizes]; omega
      · simp only [Tm.of, Tm.size, Tm.sizes]; omega
    · by_cases k7 : t.kind = 7
      · obtain ⟨x, hl, hx⟩ := okN_one ho k7
        have ix := norm_size x hx
        have px := x.size_pos
        rw [Tm.norm_one hl, if_pos k7, t.size_eq, hl]
        simp only [Tm.sizes]
        split
        · simp only [Tm.skip, Tm.of, Tm.size, Tm.sizes]; omega
        · simp only [Tm.of, Tm.size, Tm.sizes]; omega
      · rw [norm_leaf ho k12 k11 k7]; omega
termination_by SizeOf.sizeOf t
decreasing_by all_goals (apply Tm.lt_of_mem; simp [hl])
end Go.Proofs.Ytkagfenchknjjaa
set_option linter.unusedVariables false
set_option linter.unusedSimpArgs false
namespace Go.Proofs.Ytkagfenchknjjaa
open Go Go.Am Go.RowKit
attribute [local simp] W37 W37_rs W37_k1 W37_c2 W37_b3 W37_l4 W14 W14_rs W14_b1 W14_b2 W14_b3 W14_b4 W14_b17 W14_b19 W14_b39 W14_b41 W14_c5 W14_c6 W14_c7 W14_c8 W14_c9 W14_c10 W14_c11 W14_c12 W14_c13 W14_c14 W14_c15 W14_c16 W14_c18 W14_c20 W14_c21 W14_c22 W14_c23 W14_c24 W14_c25 W14_c26 W14_c27 W14_c28 W14_c29 W14_c30 W14_c31 W14_c32 W14_c33 W14_c34 W14_c35 W14_c36 W14_c37 W14_c38 W14_c40 W14_c42

theorem sp_r5z (t : Tm) (hs : t.size < 9223372036854775808) : Am.Spec Try.prog 37 [.agg (encT t)] (.int .i64 t.size) := by
  refine Am.Spec.of_W (W := W37) Try.func37 (by kernel_rfl) (by kernel_rfl) (by kernel_rfl) Try.ntmps37 W37_eq (rs := [.tmp 2]) (by kernel_rfl) (by simp) ?_
  intro vs
  simp [-W37_l4]
  refine sLoop_intro (fun i => i ≤ t.l.length) (fun i => t.l.length - i)
    (fun i => [(1, .ref 1 (vs 1 + 1) (.p 0)), (3, .int .i64 (1 + Tm.sizes (t.l.take i))), (4, .int .i64 (i : Nat))]) (fun _ => [(1, .box (vs 1 + 1) 34 (encT t))]) 0 (by simp) (by simp [Tm.sizes]) (by simp) ?_
  intro L i vs hi hL
  by_cases h : i < t.l.length
  · have hsz : t.size = 1 + (Tm.sizes (t.l.take i) + (t.l[i].size + Tm.sizes (t.l.drop (i + 1)))) := by
      rw [Tm.size_eq, Tm.sizes_split t.l (i + 1), Tm.sizes_take _ _ h]; omega
    have h1 := Tm.sizes_nonneg (t.l.take i)
    have h2 := Tm.sizes_nonneg (t.l.drop (i + 1))
    have h3 := t.l[i].size_pos
    have h4 := Tm.sizes_length t.l
    have h5 := t.size_eq
    simp [h]
    refine scall_pure (sp_r5z t.l[i] (by omega)) (by simp) (by simp) ?_
    simp
    rw [wrap64 (by omega) (by omega), wrap64 (by omega) (by omega)]
    refine hL _ _ _ (i + 1) h (by omega) ?_ (by simp)
    simp [Tm.sizes_take _ _ h]
    omega
  · simp [h, retW_eq]
    rw [Tm.size_eq, List.take_of_length_le (by omega)]
termination_by SizeOf.sizeOf t
decreasing_by exact Tm.lt_of_mem (List.getElem_mem h)

theorem skip_norm5 : Tm.skip.norm = .skip := Tm.norm_else (by simp [Tm.skip, Tm.of]) (by simp [Tm.skip, Tm.of])
theorem tno_go (r : Rw3) (w : Int) (t n : Tm) (hfew : Am.Spec Try.prog 21 [.agg [.int .i64 0, .int .i64 0, .sl ([r].map encR3)]] (.bool true)) (ht : Am.Spec Try.prog 23 [.agg (encR3 r), .int .i64 w] (.agg (encT t)))
    (hn : n = t.norm) (hnn : n.norm = n) (hwt : t.wt ≤ 5040) (hsz : n.size ≤ t.size) (hz : t.size ≤ 5040) (hr : rgt3 n false) : Am.Spec Try.prog 14 [.agg (encR3 r), .int .i64 w] (.bool true) := by
  have hwn : n.wt ≤ 5040 := by rw [hn]; exact Nat.le_trans t.norm_wt hwt
  have hp := n.size_pos
  have big : ∀ x : Nat, x ≤ 10000 → x ≤ 137438953472 := fun x h => by omega
  have lkn : n.lok := lok_le n 10000 (by omega) (by omega)
  have lks : Tm.skip.lok := Tm.lok_of_wt _ (by decide +kernel)
  have h1 := sp_nrm t (big _ (by omega))
  rw [← hn] at h1
  have h2 := sp_nrm n (big _ (by omega))
  rw [hnn] at h2
  have h3 := sp_s5 n n lkn
  rw [(Tm.same_iff n n).2 rfl] at h3
  have h4 := sp_sz n (by omega)
  have h5 := sp_sz t (by omega)
  have e1 : (Tm.of 12 [.skip, t]).norm = n := by rw [Tm.norm_two (x := .skip) (y := t) rfl, skip_norm5, hn]; rfl
  have e2 : (Tm.of 11 [.skip, .skip]).norm = .skip := by rw [Tm.norm_two (x := .skip) (y := .skip) rfl, skip_norm5]; rfl
  have e3 : (Tm.of 7 [t]).norm = if n.kind = 0 then .skip else .of 7 [n] := by rw [Tm.norm_one (x := t) rfl, ← hn]; rfl
  have zs : Tm.skip.wt = 2 := by decide +kernel
  have h6 := sp_nrm (Tm.of 12 [.skip, t]) (big _ (by simp only [Tm.of, Tm.wt, Tm.wts, zs, Ex.zero_wt]; omega))
  rw [e1, encT_of, List.map_cons, List.map_cons, encT_skip] at h6
  have h7 := sp_nrm (Tm.of 11 [.skip, .skip]) (big _ (by decide +kernel))
  rw [e2, encT_of, List.map_cons, List.map_cons, encT_skip] at h7
  have h8 := sp_s5 .skip .skip lks
  rw [(Tm.same_iff _ _).2 rfl, encT_skip] at h8
  have h9 := sp_nrm (Tm.of 7 [t]) (big _ (by simp only [Tm.of, Tm.wt, Tm.wts, Ex.zero_wt]; omega))
  rw [e3, encT_of] at h9
  have h10 := sp_tr n 3 2 5 lkn
  rw [hr] at h10
  have hle : ¬ t.size < n.size := by omega
  simp only [List.map_cons, List.map_nil] at h6 h7 h8 h9
  by_cases k0 : n.kind = 0
  · rw [if_pos k0, encT_skip] at h9
    refine Am.Spec.of_W (W := W14) Try.func14 (by kernel_rfl) (by kernel_rfl) (by kernel_rfl) Try.ntmps14 W14_eq (rs := [.tmp 4]) (by kernel_rfl) (by simp) ?_
    intro vs
    simp
    refine scall_pure sp_kn5 (by simp) (by simp) ?_
    simp [hle, k0]
    refine scall_pure hfew (by simp) (by simp) ?_
    simp [hle, k0]
    refine scall_pure ht (by simp) (by simp) ?_
    simp [hle, k0]
    refine scall_pure h1 (by simp) (by simp) ?_
    simp [hle, k0]
    refine scall0_pure h2 (by simp) (by simp) ?_
    simp [hle, k0]
    refine scall0_pure h3 (by simp) (by simp) ?_
    simp [hle, k0]
    refine scall0_pure h4 (by simp) (by simp) ?_
    simp [hle, k0]
    refine scall0_pure h5 (by simp) (by simp) ?_
    simp [hle, k0]
    refine scall0_pure h6 (by simp) (by simp) ?_
    simp [hle, k0]
    refine scall0_pure h3 (by simp) (by simp) ?_
    simp [hle, k0]
    refine scall0_pure h7 (by simp) (by simp) ?_
    simp [hle, k0]
    refine scall0_pure h8 (by simp) (by simp) ?_
    simp [hle, k0]
    refine scall_pure h9 (by simp) (by simp) ?_
    simp [hle, k0, retW_eq]
  · rw [if_neg k0, encT_of] at h9
    simp only [List.map_cons, List.map_nil] at h9
    refine Am.Spec.of_W (W := W14) Try.func14 (by kernel_rfl) (by kernel_rfl) (by kernel_rfl) Try.ntmps14 W14_eq (rs := [.tmp 4]) (by kernel_rfl) (by simp) ?_
    intro vs
    simp
    refine scall_pure sp_kn5 (by simp) (by simp) ?_
    simp [hle, k0]
    refine scall_pure hfew (by simp) (by simp) ?_
    simp [hle, k0]
    refine scall_pure ht (by simp) (by simp) ?_
    simp [hle, k0]
    refine scall_pure h1 (by simp) (by simp) ?_
    simp [hle, k0]
    refine scall0_pure h2 (by simp) (by simp) ?_
    simp [hle, k0]
    refine scall0_pure h3 (by simp) (by simp) ?_
    simp [hle, k0]
    refine scall0_pure h4 (by simp) (by simp) ?_
    simp [hle, k0]
    refine scall0_pure h5 (by simp) (by simp) ?_
    simp [hle, k0]
    refine scall0_pure h6 (by simp) (by simp) ?_
    simp [hle, k0]
    refine scall0_pure h3 (by simp) (by simp) ?_
    simp [hle, k0]
    refine scall0_pure h7 (by simp) (by simp) ?_
    simp [hle, k0]
    refine scall0_pure h8 (by simp) (by simp) ?_
    simp [hle, k0]
    refine scall_pure h9 (by simp) (by simp) ?_
    simp [hle, k0]
    refine scall0_pure h3 (by simp) (by simp) ?_
    simp [hle, k0]
    refine scall0_pure h10 (by simp) (by simp) ?_
    simp [hle, k0, retW_eq]
theorem sp_tno (r : Rw3) (w : Int) : Am.Spec Try.prog 14 [.agg (encR3 r), .int .i64 w] (.bool true) := by
  have hfew := sp_fw3 (.int .i64 0) (.int .i64 0) [r] (by simp [maxLen]) (by simp [closed]) (by simp [closed])
  rw [few_one5] at hfew
  by_cases h : r.sz 0 ≤ 40
  · rw [decide_eq_true h] at hfew
    have hw1 := mkT_wt r w h
    have hz := size_wt (mkT r w)
    have ho := okN_mk r w
    exact tno_go r w (mkT r w) _ hfew (sp_mkT r w h) rfl (norm_norm _ ho) hw1 (norm_size _ ho) (by omega) (norm_right _ _ ho (mk_right r w))
  · rw [decide_eq_false h] at hfew
    refine Am.Spec.of_W (W := W14) Try.func14 (by kernel_rfl) (by kernel_rfl) (by kernel_rfl) Try.ntmps14 W14_eq (rs := [.tmp 4]) (by kernel_rfl) (by simp) ?_
    intro vs
    simp
    refine scall_pure sp_kn5 (by simp) (by simp) ?_
    simp
    refine scall_pure hfew (by simp) (by simp) ?_
    simp [retW_eq]
end Go.Proofs.Ytkagfenchknjjaa
set_option linter.unusedVariables false
set_option linter.unusedSimpArgs false
namespace Go.Proofs.Ytkagfenchknjjaa
open Go Go.Am Go.RowKit


end Go.Proofs.Ytkagfenchknjjaa
set_option linter.unusedVariables false
set_option linter.unusedSimpArgs false
namespace Go.Proofs.Ytkagfenchknjjaa
open Go Go.Am Go.RowKit
attribute [local simp] W12 W12_rs W12_b1 W12_b2 W12_b27 W12_b28 W12_b45 W12_b49 W12_b51 W12_c3 W12_c4 W12_c5 W12_c6 W12_c7 W12_c8 W12_c9 W12_c10 W12_c11 W12_c12 W12_c13 W12_c14 W12_c15 W12_c16 W12_c17 W12_c18 W12_c19 W12_c20 W12_c21 W12_c22 W12_c23 W12_c24 W12_c25 W12_c29 W12_c30 W12_c31 W12_c32 W12_c33 W12_c34 W12_c35 W12_c36 W12_c37 W12_c38 W12_c39 W12_c40 W12_c41 W12_c42 W12_c43 W12_c44 W12_c47 W12_c48 W12_c50 W12_c52 W12_k26 W12_l46

theorem tal_go (r : Rw3) (w wh v a : Int) (t x : Tm) (hfew : Am.Spec Try.prog 21 [.agg [.int .i64 0, .int .i64 0, .sl ([r].map encR3)]] (.bool true)) (ht : Am.Spec Try.prog 23 [.agg (encR3 r), .int .i64 w] (.agg (encT t)))
    (hx : Am.Spec Try.prog 33 [.agg (encT t), .int .i64 wh, .int .i64 v, .int .i64 a] (.agg (encT x))) (hlt : t.lok) (hlx : x.lok) (hwt : t.wt ≤ 5040) (hsz : t.size ≤ 5040) (ho : okN t = true) (hr : rgt3 t false) :
    Am.Spec Try.prog 12 [.agg (encR3 r), .int .i64 w, .int .i64 wh, .int .i64 v, .int .i64 a] (.bool true) := by
  have hwn : t.norm.wt ≤ 5040 := Nat.le_trans t.norm_wt hwt
  have big : ∀ x : Nat, x ≤ 10000 → x ≤ 137438953472 := fun x h => by omega
  have hp := t.size_pos
  have g1 := sp_tr t 3 2 5 hlt
  rw [hr] at g1
  have g2 := sp_sz t (by omega)
  have g3 := sp_r5z t (by omega)
  have g4 := sp_samL t x hlt
  have g5 := sp_s5 t x hlt
  have g6 := sp_nrm t (big _ (by omega))
  have g7 := sp_n5 t ho
  have g8 := sp_s5 t.norm t.norm (lok_le _ 10000 (by omega) (by omega))
  rw [(Tm.same_iff _ _).2 rfl] at g8
  have g9 := sp_wts t (big _ (by omega))
  have g10 := sp_w5 t ho (by omega)
  have g11 := sp_its t.waits t.waits (by have := t.waits_len; omega)
  rw [decide_eq_true rfl] at g11
  have f1 := fun i : Int => sp_tr x i 2 5 hlx
  have f2 := fun i : Int => sp_rr x i 2 5 hlx
  have f3 := fun i : Int => sp_tr t 3 i 5 hlt
  have f4 := fun i : Int => sp_rr t 3 i 5 hlt
  have f5 := fun i : Int => sp_tr t 3 2 i hlt
  have f6 := fun i : Int => sp_rr t 3 2 i hlt
  generalize Tm.same t x = b1 at *
  generalize t.norm = n at *
  generalize t.waits = ws at *
  generalize t.size = sz at *
  refine Am.Spec.of_W (W := W12) Try.func12 (by kernel_rfl) (by kernel_rfl) (by kernel_rfl) Try.ntmps12 W12_eq (rs := [.tmp 10]) (by kernel_rfl) (by simp) ?_
  intro vs
  simp [-W12_l46]
  refine scall_pure sp_kn5 (by simp) (by simp) ?_
  simp [-W12_l46]
  refine scall_pure hfew (by simp) (by simp) ?_
  simp [-W12_l46]
  refine scall_pure ht (by simp) (by simp) ?_
  simp [-W12_l46]
  refine scall_pure hx (by simp) (by simp) ?_
  simp [-W12_l46]
  refine sLoop_intro (fun i => i ≤ 4) (fun i => 4 - i) (fun i => [(11, .ref 11 (vs 11 + 1) (.p 0)), (12, .ref 12 (vs 12 + 1) (.p 0)), (13, .int .i64 (i : Nat))]) (fun _ => [(11, .box (vs 11 + 1) 34 (encT t)), (12, .box (vs 12 + 1) 34 (encT x))]) 0 (by simp) (by simp) (by simp) ?_
  intro L i vt hi hL
  by_cases h : i < 4
  · have h' : (i : Int) < 4 := by omega
    have f1 := f1 i
    have f2 := f2 i
    have f3 := f3 i
    have f4 := f4 i
    have f5 := f5 i
    have f6 := f6 i
    generalize tmRight i 2 5 x false = c1 at *
    generalize tmRight 3 i 5 t false = c2 at *
    generalize tmRight 3 2 i t false = c3 at *
    simp [h']
    refine scall0_pure f1 (by simp) (by simp) ?_
    simp [h']
    refine scall0_pure f2 (by simp) (by simp) ?_
    simp [h']
    refine scall0_pure f3 (by simp) (by simp) ?_
    simp [h']
    refine scall0_pure f4 (by simp) (by simp) ?_
    simp [h']
    refine scall0_pure f5 (by simp) (by simp) ?_
    simp [h']
    refine scall0_pure f6 (by simp) (by simp) ?_
    simp [h']
    rw [wrap64 (by omega) (by omega)]
    exact hL _ _ _ (i + 1) h (by omega) (by simp) (by simp)
  · have h' : ¬ (i : Int) < 4 := by omega
    simp [h']
    refine scall0_pure g1 (by simp) (by simp) ?_
    simp
    refine scall0_pure g2 (by simp) (by simp) ?_
    simp
    refine scall0_pure g3 (by simp) (by simp) ?_
    simp
    refine scall0_pure g4 (by simp) (by simp) ?_
    simp
    refine scall0_pure g5 (by simp) (by simp) ?_
    simp
    refine scall0_pure g6 (by simp) (by simp) ?_
    simp
    refine scall0_pure g7 (by simp) (by simp) ?_
    simp
    refine scall0_pure g8 (by simp) (by simp) ?_
    simp
    refine scall0_pure g9 (by simp) (by simp) ?_
    simp
    refine scall0_pure g10 (by simp) (by simp) ?_
    simp
    refine scall0_pure g11 (by simp) (by simp) ?_
    simp [retW_eq]
theorem sp_tal (r : Rw3) (w wh v a : Int) : Am.Spec Try.prog 12 [.agg (encR3 r), .int .i64 w, .int .i64 wh, .int .i64 v, .int .i64 a] (.bool true) := by
  have hfew := sp_fw3 (.int .i64 0) (.int .i64 0) [r] (by simp [maxLen]) (by simp [closed]) (by simp [closed])
  rw [few_one5] at hfew
  by_cases h : r.sz 0 ≤ 40
  · rw [decide_eq_true h] at hfew
    have hw1 := mkT_wt r w h
    have hz := size_wt (mkT r w)
    obtain ⟨x, hxw, hx⟩ := sp_spo (mkT r w) wh v a (by omega)
    have hq : 5040 ≤ 137438953472 := by omega
    have hq2 : x.wt ≤ 137438953472 := by omega
    exact tal_go r w wh v a _ x hfew (sp_mkT r w h) hx (lok_le (mkT r w) 5040 hw1 hq) (Tm.lok_of_wt x hq2) hw1 (by omega) (okN_mk r w) (mk_right r w)
  · rw [decide_eq_false h] at hfew
    refine Am.Spec.of_W (W := W12) Try.func12 (by kernel_rfl) (by kernel_rfl) (by kernel_rfl) Try.ntmps12 W12_eq (rs := [.tmp 10]) (by kernel_rfl) (by simp) ?_
    intro vs
    simp
    refine scall_pure sp_kn5 (by simp) (by simp) ?_
    simp
    refine scall_pure hfew (by simp) (by simp) ?_
    simp [retW_eq]
end Go.Proofs.Ytkagfenchknjjaa
