import Derived.Test.YtkagfenchknjjaaGE12
import Derived.Test.YtkagfenchknjjaaGD15
set_option linter.unusedVariables false
set_option linter.unusedSimpArgs false
namespace Go.Proofs.Ytkagfenchknjjaa
open Go Go.Am Go.RowKit

mutual
theorem size_wt : ∀ t : Tm, t.size ≤ t.wt
  | ⟨k, a, b, s, e, l⟩ => by have := sizes_wt l; simp only [Tm.size, Tm.wt]; omega
theorem sizes_wt : ∀ l : List Tm, Tm.sizes l ≤ Tm.wts l
  | [] => by simp [Tm.sizes, Tm.wts]
  | x :: l => by have := size_wt x; have := sizes_wt l; simp only [Tm.sizes, Tm.wts]; omega
end
theorem few_two' (r s : Rw3) : few3 [r, s] = decide (r.sz 0 + s.sz 0 ≤ 40) := by simp [few3]
theorem tsz_go (r s : Rw3) (kd : Int) (k : Int) (hk : (within kd 3 = 0 ∧ k = 12) ∨ (within kd 3 = 1 ∧ k = 11) ∨ (within kd 3 = 2 ∧ k = 10)) (a b : Tm) (hfew : Am.Spec Try.prog 21 [.agg [.int .i64 0, .int .i64 0, .sl ([r, s].map encR3)]] (.bool true))
    (ha : Am.Spec Try.prog 23 [.agg (encR3 r), .int .i64 0] (.agg (encT a))) (hb : Am.Spec Try.prog 23 [.agg (encR3 s), .int .i64 0] (.agg (encT b))) (ba : a.size ≤ 10000) (bb : b.size ≤ 10000) :
    Am.Spec Try.prog 16 [.agg (encR3 r), .agg (encR3 s), .int .i64 kd] (.bool true) := by
  have pa := a.size_pos
  have pb := b.size_pos
  have e2 : ∀ k : Int, (Tm.of k [a, b]).size = 1 + (a.size + b.size) := fun k => by simp only [Tm.of, Tm.size, Tm.sizes]; omega
  have e1 : (Tm.of 7 [a]).size = 1 + a.size := by simp only [Tm.of, Tm.size, Tm.sizes]; omega
  have sa := sp_sz a (by omega)
  have sb := sp_sz b (by omega)
  have s2 := sp_sz (Tm.of k [a, b]) (by rw [e2]; omega)
  have s1 := sp_sz (Tm.of 7 [a]) (by rw [e1]; omega)
  rw [e2, encT_of] at s2
  rw [e1, encT_of] at s1
  have hwi := sp_wi5 kd 3 (by omega) (by omega)
  have hge : 1 ≤ a.size := by omega
  have w1 : IntKind.wrap .i64 (1 + a.size) = 1 + a.size := wrap64 (by omega) (by omega)
  have w2 : IntKind.wrap .i64 (1 + a.size + b.size) = 1 + (a.size + b.size) := by rw [wrap64 (by omega) (by omega)]; omega
  have hix : ixRows [[AV.int .i64 12], [.int .i64 11], [.int .i64 10]] (within kd 3) 1 = some (.elt [.int .i64 k] 0) := by
    rcases hk with ⟨h, rfl⟩ | ⟨h, rfl⟩ | ⟨h, rfl⟩ <;> rw [h] <;> simp
  generalize within kd 3 = w at *
  generalize a.size = za at *
  generalize b.size = zb at *
  refine Am.Spec.of_W (W := W16) Try.func16 (by kernel_rfl) (by kernel_rfl) (by kernel_rfl) Try.ntmps16 W16_eq (rs := [.tmp 6]) (by kernel_rfl) (by simp) ?_
  intro vs
  simp [W16, W16_rs, W16_b1, W16_b2, W16_b28, W16_b30, W16_c3, W16_c4, W16_c5, W16_c6, W16_c7, W16_c8, W16_c9, W16_c10, W16_c11, W16_c12, W16_c13, W16_c14, W16_c15, W16_c16, W16_c17, W16_c18, W16_c19, W16_c20, W16_c21, W16_c22, W16_c23, W16_c24, W16_c25, W16_c26, W16_c27, W16_c29, W16_c31]
  refine scall_pure sp_kn5 (by simp) (by simp) ?_
  simp [W16, W16_rs, W16_b1, W16_b2, W16_b28, W16_b30, W16_c3, W16_c4, W16_c5, W16_c6, W16_c7, W16_c8, W16_c9, W16_c10, W16_c11, W16_c12, W16_c13, W16_c14, W16_c15, W16_c16, W16_c17, W16_c18, W16_c19, W16_c20, W16_c21, W16_c22, W16_c23, W16_c24, W16_c25, W16_c26, W16_c27, W16_c29, W16_c31]
  refine scall_pure hfew (by simp) (by simp) ?_
  simp [W16, W16_rs, W16_b1, W16_b2, W16_b28, W16_b30, W16_c3, W16_c4, W16_c5, W16_c6, W16_c7, W16_c8, W16_c9, W16_c10, W16_c11, W16_c12, W16_c13, W16_c14, W16_c15, W16_c16, W16_c17, W16_c18, W16_c19, W16_c20, W16_c21, W16_c22, W16_c23, W16_c24, W16_c25, W16_c26, W16_c27, W16_c29, W16_c31]
  refine scall0_pure ha (by simp) (by simp) ?_
  simp [W16, W16_rs, W16_b1, W16_b2, W16_b28, W16_b30, W16_c3, W16_c4, W16_c5, W16_c6, W16_c7, W16_c8, W16_c9, W16_c10, W16_c11, W16_c12, W16_c13, W16_c14, W16_c15, W16_c16, W16_c17, W16_c18, W16_c19, W16_c20, W16_c21, W16_c22, W16_c23, W16_c24, W16_c25, W16_c26, W16_c27, W16_c29, W16_c31]
  refine scall0_pure hb (by simp) (by simp) ?_
  simp [W16, W16_rs, W16_b1, W16_b2, W16_b28, W16_b30, W16_c3, W16_c4, W16_c5, W16_c6, W16_c7, W16_c8, W16_c9, W16_c10, W16_c11, W16_c12, W16_c13, W16_c14, W16_c15, W16_c16, W16_c17, W16_c18, W16_c19, W16_c20, W16_c21, W16_c22, W16_c23, W16_c24, W16_c25, W16_c26, W16_c27, W16_c29, W16_c31]
  refine scall_pure hwi (by simp) (by simp) ?_
  simp [W16, W16_rs, W16_b1, W16_b2, W16_b28, W16_b30, W16_c3, W16_c4, W16_c5, W16_c6, W16_c7, W16_c8, W16_c9, W16_c10, W16_c11, W16_c12, W16_c13, W16_c14, W16_c15, W16_c16, W16_c17, W16_c18, W16_c19, W16_c20, W16_c21, W16_c22, W16_c23, W16_c24, W16_c25, W16_c26, W16_c27, W16_c29, W16_c31, hix]
  refine scall0_pure sa (by simp) (by simp) ?_
  simp [W16, W16_rs, W16_b1, W16_b2, W16_b28, W16_b30, W16_c3, W16_c4, W16_c5, W16_c6, W16_c7, W16_c8, W16_c9, W16_c10, W16_c11, W16_c12, W16_c13, W16_c14, W16_c15, W16_c16, W16_c17, W16_c18, W16_c19, W16_c20, W16_c21, W16_c22, W16_c23, W16_c24, W16_c25, W16_c26, W16_c27, W16_c29, W16_c31, hge]
  refine scall0_pure s2 (by simp) (by simp) ?_
  simp [W16, W16_rs, W16_b1, W16_b2, W16_b28, W16_b30, W16_c3, W16_c4, W16_c5, W16_c6, W16_c7, W16_c8, W16_c9, W16_c10, W16_c11, W16_c12, W16_c13, W16_c14, W16_c15, W16_c16, W16_c17, W16_c18, W16_c19, W16_c20, W16_c21, W16_c22, W16_c23, W16_c24, W16_c25, W16_c26, W16_c27, W16_c29, W16_c31, hge]
  refine scall0_pure sa (by simp) (by simp) ?_
  simp [W16, W16_rs, W16_b1, W16_b2, W16_b28, W16_b30, W16_c3, W16_c4, W16_c5, W16_c6, W16_c7, W16_c8, W16_c9, W16_c10, W16_c11, W16_c12, W16_c13, W16_c14, W16_c15, W16_c16, W16_c17, W16_c18, W16_c19, W16_c20, W16_c21, W16_c22, W16_c23, W16_c24, W16_c25, W16_c26, W16_c27, W16_c29, W16_c31, hge, w1]
  refine scall0_pure sb (by simp) (by simp) ?_
  simp [W16, W16_rs, W16_b1, W16_b2, W16_b28, W16_b30, W16_c3, W16_c4, W16_c5, W16_c6, W16_c7, W16_c8, W16_c9, W16_c10, W16_c11, W16_c12, W16_c13, W16_c14, W16_c15, W16_c16, W16_c17, W16_c18, W16_c19, W16_c20, W16_c21, W16_c22, W16_c23, W16_c24, W16_c25, W16_c26, W16_c27, W16_c29, W16_c31, hge, w1, w2]
  refine scall0_pure s1 (by simp) (by simp) ?_
  simp [W16, W16_rs, W16_b1, W16_b2, W16_b28, W16_b30, W16_c3, W16_c4, W16_c5, W16_c6, W16_c7, W16_c8, W16_c9, W16_c10, W16_c11, W16_c12, W16_c13, W16_c14, W16_c15, W16_c16, W16_c17, W16_c18, W16_c19, W16_c20, W16_c21, W16_c22, W16_c23, W16_c24, W16_c25, W16_c26, W16_c27, W16_c29, W16_c31, hge, w1, w2]
  refine scall0_pure sa (by simp) (by simp) ?_
  simp [W16, W16_rs, W16_b1, W16_b2, W16_b28, W16_b30, W16_c3, W16_c4, W16_c5, W16_c6, W16_c7, W16_c8, W16_c9, W16_c10, W16_c11, W16_c12, W16_c13, W16_c14, W16_c15, W16_c16, W16_c17, W16_c18, W16_c19, W16_c20, W16_c21, W16_c22, W16_c23, W16_c24, W16_c25, W16_c26, W16_c27, W16_c29, W16_c31, hge, w1, w2, retW_eq]
theorem sp_tsz (r s : Rw3) (kd : Int) : Am.Spec Try.prog 16 [.agg (encR3 r), .agg (encR3 s), .int .i64 kd] (.bool true) := by
  have hfew := sp_fw3 (.int .i64 0) (.int .i64 0) [r, s] (by simp [maxLen]) (by simp [closed]) (by simp [closed])
  rw [few_two'] at hfew
  by_cases h : r.sz 0 + s.sz 0 ≤ 40
  · rw [decide_eq_true h] at hfew
    have z1 := r.sz_le 0
    have z2 := s.sz_le 0
    have w1 := mkT_wt r 0 (by omega)
    have w2 := mkT_wt s 0 (by omega)
    have q1 := size_wt (mkT r 0)
    have q2 := size_wt (mkT s 0)
    have g1 := within_ge kd 3 (by omega)
    have g2 := within_lt kd 3 (by omega)
    obtain ⟨k, hk⟩ : ∃ k : Int, (within kd 3 = 0 ∧ k = 12) ∨ (within kd 3 = 1 ∧ k = 11) ∨ (within kd 3 = 2 ∧ k = 10) := by
      have : within kd 3 = 0 ∨ within kd 3 = 1 ∨ within kd 3 = 2 := by omega
      rcases this with h | h | h
      · exact ⟨12, .inl ⟨h, rfl⟩⟩
      · exact ⟨11, .inr (.inl ⟨h, rfl⟩)⟩
      · exact ⟨10, .inr (.inr ⟨h, rfl⟩)⟩
    exact tsz_go r s kd k hk _ _ hfew (sp_mkT r 0 (by omega)) (sp_mkT s 0 (by omega)) (by omega) (by omega)
  · rw [decide_eq_false h] at hfew
    refine Am.Spec.of_W (W := W16) Try.func16 (by kernel_rfl) (by kernel_rfl) (by kernel_rfl) Try.ntmps16 W16_eq (rs := [.tmp 6]) (by kernel_rfl) (by simp) ?_
    intro vs
    simp [W16, W16_rs, W16_b1, W16_b2, W16_b28, W16_b30, W16_c3, W16_c4, W16_c5, W16_c6, W16_c7, W16_c8, W16_c9, W16_c10, W16_c11, W16_c12, W16_c13, W16_c14, W16_c15, W16_c16, W16_c17, W16_c18, W16_c19, W16_c20, W16_c21, W16_c22, W16_c23, W16_c24, W16_c25, W16_c26, W16_c27, W16_c29, W16_c31]
    refine scall_pure sp_kn5 (by simp) (by simp) ?_
    simp [W16, W16_rs, W16_b1, W16_b2, W16_b28, W16_b30, W16_c3, W16_c4, W16_c5, W16_c6, W16_c7, W16_c8, W16_c9, W16_c10, W16_c11, W16_c12, W16_c13, W16_c14, W16_c15, W16_c16, W16_c17, W16_c18, W16_c19, W16_c20, W16_c21, W16_c22, W16_c23, W16_c24, W16_c25, W16_c26, W16_c27, W16_c29, W16_c31]
    refine scall_pure hfew (by simp) (by simp) ?_
    simp [W16, W16_rs, W16_b1, W16_b2, W16_b28, W16_b30, W16_c3, W16_c4, W16_c5, W16_c6, W16_c7, W16_c8, W16_c9, W16_c10, W16_c11, W16_c12, W16_c13, W16_c14, W16_c15, W16_c16, W16_c17, W16_c18, W16_c19, W16_c20, W16_c21, W16_c22, W16_c23, W16_c24, W16_c25, W16_c26, W16_c27, W16_c29, W16_c31, retW_eq]
end Go.Proofs.Ytkagfenchknjjaa
