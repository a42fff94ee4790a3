import Derived.Test.YtkagfenchknjjaaGE12
import Derived.Test.YtkagfenchknjjaaGD19
import Derived.Test.YtkagfenchknjjaaGD14
import Derived.Test.YtkagfenchknjjaaGR18
set_option linter.unusedVariables false
set_option linter.unusedSimpArgs false
namespace Go.Proofs.Ytkagfenchknjjaa
open Go Go.Am Go.RowKit

theorem acts_waits' : ∀ l : List Tm, ((Tm.acts l).filterMap fun x => if x.kind = 14 then some x.a else none) = l.flatMap Tm.waits
  | [] => rfl
  | x :: l => by
    rw [Tm.acts_cons, List.filterMap_append, acts_waits' l, List.flatMap_cons]
    rfl
theorem of_waits (k : Int) (l : List Tm) (hk : k ≠ 14) : (Tm.of k l).waits = (Tm.of k l).kidsA.flatMap Tm.waits := by
  have e : (Tm.of k l).waits = ((Tm.of k l :: Tm.acts (Tm.of k l).kidsA).filterMap fun x => if x.kind = 14 then some x.a else none) := by unfold Tm.waits; rw [Tm.act_eq]
  rw [e, List.filterMap_cons, if_neg (by simpa [Tm.of] using hk)]
  simp only
  rw [acts_waits']
@[simp] theorem encI_cells2 (p : List Int) : (∀ x ∈ encI p, x.length = 1 ∧ ∀ c ∈ x, c.cell = true) ↔ True := ⟨fun _ => trivial, fun _ => encI_cell p⟩
theorem few_two2 (r s : Rw3) : few3 [r, s] = decide (r.sz 0 + s.sz 0 ≤ 40) := by simp [few3]
theorem twt_go (r s : Rw3) (u v : Int) (a b : Tm) (hfew : Am.Spec Try.prog 21 [.agg [.int .i64 0, .int .i64 0, .sl ([r, s].map encR3)]] (.bool true))
    (ha : Am.Spec Try.prog 23 [.agg (encR3 r), .int .i64 u] (.agg (encT a))) (hb : Am.Spec Try.prog 23 [.agg (encR3 s), .int .i64 v] (.agg (encT b))) (ba : a.wt ≤ 10000) (bb : b.wt ≤ 10000) :
    Am.Spec Try.prog 15 [.agg (encR3 r), .agg (encR3 s), .int .i64 u, .int .i64 v] (.bool true) := by
  have wo : ∀ k : Int, (Tm.of k [a, b]).wt ≤ 137438953472 := fun k => by simp only [Tm.of, Tm.wt, Ex.zero_wt, Tm.wts]; omega
  have wo1 : (Tm.of 7 [a]).wt ≤ 137438953472 := by simp only [Tm.of, Tm.wt, Ex.zero_wt, Tm.wts]; omega
  have la := a.waits_len
  have lb := b.waits_len
  have wa := sp_wts a (by omega)
  have wb := sp_wts b (by omega)
  have wp := sp_wts (Tm.of 11 [a, b]) (wo 11)
  have wq := sp_wts (Tm.of 12 [a, b]) (wo 12)
  have wc := sp_wts (Tm.of 10 [a, b]) (wo 10)
  have wk := sp_wts (Tm.of 7 [a]) wo1
  rw [of_waits _ _ (by omega), encT_of] at wp wq wc wk
  rw [show (Tm.of 11 [a, b]).kidsA = [a, b] by simp [Tm.kidsA, Tm.of]] at wp
  rw [show (Tm.of 12 [a, b]).kidsA = [a] by simp [Tm.kidsA, Tm.of]] at wq
  rw [show (Tm.of 10 [a, b]).kidsA = [] by simp [Tm.kidsA, Tm.of]] at wc
  rw [show (Tm.of 7 [a]).kidsA = [a] by simp [Tm.kidsA, Tm.of]] at wk
  simp only [List.flatMap_cons, List.flatMap_nil, List.append_nil] at wp wq wc wk
  generalize a.waits = p at *
  generalize b.waits = q at *
  have i1 := sp_its (p ++ q) (p ++ q) (by simp; omega)
  have i2 := sp_its p p (by omega)
  rw [decide_eq_true rfl] at i1 i2
  refine Am.Spec.of_W (W := W15) Try.func15 (by kernel_rfl) (by kernel_rfl) (by kernel_rfl) Try.ntmps15 W15_eq (rs := [.tmp 8]) (by kernel_rfl) (by simp) ?_
  intro vs
  simp [W15, W15_rs, W15_b1, W15_b2, W15_b25, W15_b27, W15_c3, W15_c4, W15_c5, W15_c6, W15_c7, W15_c8, W15_c9, W15_c10, W15_c11, W15_c12, W15_c13, W15_c14, W15_c15, W15_c16, W15_c17, W15_c18, W15_c19, W15_c20, W15_c21, W15_c22, W15_c23, W15_c24, W15_c26, W15_c28]
  refine scall_pure sp_kn5 (by simp) (by simp) ?_
  simp [W15, W15_rs, W15_b1, W15_b2, W15_b25, W15_b27, W15_c3, W15_c4, W15_c5, W15_c6, W15_c7, W15_c8, W15_c9, W15_c10, W15_c11, W15_c12, W15_c13, W15_c14, W15_c15, W15_c16, W15_c17, W15_c18, W15_c19, W15_c20, W15_c21, W15_c22, W15_c23, W15_c24, W15_c26, W15_c28]
  refine scall_pure hfew (by simp) (by simp) ?_
  simp [W15, W15_rs, W15_b1, W15_b2, W15_b25, W15_b27, W15_c3, W15_c4, W15_c5, W15_c6, W15_c7, W15_c8, W15_c9, W15_c10, W15_c11, W15_c12, W15_c13, W15_c14, W15_c15, W15_c16, W15_c17, W15_c18, W15_c19, W15_c20, W15_c21, W15_c22, W15_c23, W15_c24, W15_c26, W15_c28]
  refine scall0_pure ha (by simp) (by simp) ?_
  simp [W15, W15_rs, W15_b1, W15_b2, W15_b25, W15_b27, W15_c3, W15_c4, W15_c5, W15_c6, W15_c7, W15_c8, W15_c9, W15_c10, W15_c11, W15_c12, W15_c13, W15_c14, W15_c15, W15_c16, W15_c17, W15_c18, W15_c19, W15_c20, W15_c21, W15_c22, W15_c23, W15_c24, W15_c26, W15_c28]
  refine scall0_pure hb (by simp) (by simp) ?_
  simp [W15, W15_rs, W15_b1, W15_b2, W15_b25, W15_b27, W15_c3, W15_c4, W15_c5, W15_c6, W15_c7, W15_c8, W15_c9, W15_c10, W15_c11, W15_c12, W15_c13, W15_c14, W15_c15, W15_c16, W15_c17, W15_c18, W15_c19, W15_c20, W15_c21, W15_c22, W15_c23, W15_c24, W15_c26, W15_c28]
  refine scall0_pure wa (by simp) (by simp) ?_
  simp [W15, W15_rs, W15_b1, W15_b2, W15_b25, W15_b27, W15_c3, W15_c4, W15_c5, W15_c6, W15_c7, W15_c8, W15_c9, W15_c10, W15_c11, W15_c12, W15_c13, W15_c14, W15_c15, W15_c16, W15_c17, W15_c18, W15_c19, W15_c20, W15_c21, W15_c22, W15_c23, W15_c24, W15_c26, W15_c28]
  refine scall0_pure wb (by simp) (by simp) ?_
  simp [W15, W15_rs, W15_b1, W15_b2, W15_b25, W15_b27, W15_c3, W15_c4, W15_c5, W15_c6, W15_c7, W15_c8, W15_c9, W15_c10, W15_c11, W15_c12, W15_c13, W15_c14, W15_c15, W15_c16, W15_c17, W15_c18, W15_c19, W15_c20, W15_c21, W15_c22, W15_c23, W15_c24, W15_c26, W15_c28]
  rw [decide_eq_true (by omega)]
  simp [W15, W15_rs, W15_b1, W15_b2, W15_b25, W15_b27, W15_c3, W15_c4, W15_c5, W15_c6, W15_c7, W15_c8, W15_c9, W15_c10, W15_c11, W15_c12, W15_c13, W15_c14, W15_c15, W15_c16, W15_c17, W15_c18, W15_c19, W15_c20, W15_c21, W15_c22, W15_c23, W15_c24, W15_c26, W15_c28]
  rw [decide_eq_true (by omega)]
  simp [W15, W15_rs, W15_b1, W15_b2, W15_b25, W15_b27, W15_c3, W15_c4, W15_c5, W15_c6, W15_c7, W15_c8, W15_c9, W15_c10, W15_c11, W15_c12, W15_c13, W15_c14, W15_c15, W15_c16, W15_c17, W15_c18, W15_c19, W15_c20, W15_c21, W15_c22, W15_c23, W15_c24, W15_c26, W15_c28]
  refine scall_pure wp (by simp) (by simp) ?_
  simp [W15, W15_rs, W15_b1, W15_b2, W15_b25, W15_b27, W15_c3, W15_c4, W15_c5, W15_c6, W15_c7, W15_c8, W15_c9, W15_c10, W15_c11, W15_c12, W15_c13, W15_c14, W15_c15, W15_c16, W15_c17, W15_c18, W15_c19, W15_c20, W15_c21, W15_c22, W15_c23, W15_c24, W15_c26, W15_c28]
  refine scall_pure i1 (by simp [encI]) (by simp) ?_
  simp [W15, W15_rs, W15_b1, W15_b2, W15_b25, W15_b27, W15_c3, W15_c4, W15_c5, W15_c6, W15_c7, W15_c8, W15_c9, W15_c10, W15_c11, W15_c12, W15_c13, W15_c14, W15_c15, W15_c16, W15_c17, W15_c18, W15_c19, W15_c20, W15_c21, W15_c22, W15_c23, W15_c24, W15_c26, W15_c28]
  refine scall_pure wq (by simp) (by simp) ?_
  simp [W15, W15_rs, W15_b1, W15_b2, W15_b25, W15_b27, W15_c3, W15_c4, W15_c5, W15_c6, W15_c7, W15_c8, W15_c9, W15_c10, W15_c11, W15_c12, W15_c13, W15_c14, W15_c15, W15_c16, W15_c17, W15_c18, W15_c19, W15_c20, W15_c21, W15_c22, W15_c23, W15_c24, W15_c26, W15_c28]
  refine scall_pure i2 (by simp) (by simp) ?_
  simp [W15, W15_rs, W15_b1, W15_b2, W15_b25, W15_b27, W15_c3, W15_c4, W15_c5, W15_c6, W15_c7, W15_c8, W15_c9, W15_c10, W15_c11, W15_c12, W15_c13, W15_c14, W15_c15, W15_c16, W15_c17, W15_c18, W15_c19, W15_c20, W15_c21, W15_c22, W15_c23, W15_c24, W15_c26, W15_c28]
  refine scall_pure wk (by simp) (by simp) ?_
  simp [W15, W15_rs, W15_b1, W15_b2, W15_b25, W15_b27, W15_c3, W15_c4, W15_c5, W15_c6, W15_c7, W15_c8, W15_c9, W15_c10, W15_c11, W15_c12, W15_c13, W15_c14, W15_c15, W15_c16, W15_c17, W15_c18, W15_c19, W15_c20, W15_c21, W15_c22, W15_c23, W15_c24, W15_c26, W15_c28]
  refine scall_pure i2 (by simp) (by simp) ?_
  simp [W15, W15_rs, W15_b1, W15_b2, W15_b25, W15_b27, W15_c3, W15_c4, W15_c5, W15_c6, W15_c7, W15_c8, W15_c9, W15_c10, W15_c11, W15_c12, W15_c13, W15_c14, W15_c15, W15_c16, W15_c17, W15_c18, W15_c19, W15_c20, W15_c21, W15_c22, W15_c23, W15_c24, W15_c26, W15_c28]
  refine scall_pure wc (by simp) (by simp) ?_
  simp [W15, W15_rs, W15_b1, W15_b2, W15_b25, W15_b27, W15_c3, W15_c4, W15_c5, W15_c6, W15_c7, W15_c8, W15_c9, W15_c10, W15_c11, W15_c12, W15_c13, W15_c14, W15_c15, W15_c16, W15_c17, W15_c18, W15_c19, W15_c20, W15_c21, W15_c22, W15_c23, W15_c24, W15_c26, W15_c28, retW_eq]
theorem sp_twt (r s : Rw3) (u v : Int) : Am.Spec Try.prog 15 [.agg (encR3 r), .agg (encR3 s), .int .i64 u, .int .i64 v] (.bool true) := by
  have hfew := sp_fw3 (.int .i64 0) (.int .i64 0) [r, s] (by simp [maxLen]) (by simp [closed]) (by simp [closed])
  rw [few_two2] at hfew
  by_cases h : r.sz 0 + s.sz 0 ≤ 40
  · rw [decide_eq_true h] at hfew
    have z1 := r.sz_le 0
    have z2 := s.sz_le 0
    have w1 := mkT_wt r u (by omega)
    have w2 := mkT_wt s v (by omega)
    exact twt_go r s u v _ _ hfew (sp_mkT r u (by omega)) (sp_mkT s v (by omega)) (by omega) (by omega)
  · rw [decide_eq_false h] at hfew
    refine Am.Spec.of_W (W := W15) Try.func15 (by kernel_rfl) (by kernel_rfl) (by kernel_rfl) Try.ntmps15 W15_eq (rs := [.tmp 8]) (by kernel_rfl) (by simp) ?_
    intro vs
    simp [W15, W15_rs, W15_b1, W15_b2, W15_b25, W15_b27, W15_c3, W15_c4, W15_c5, W15_c6, W15_c7, W15_c8, W15_c9, W15_c10, W15_c11, W15_c12, W15_c13, W15_c14, W15_c15, W15_c16, W15_c17, W15_c18, W15_c19, W15_c20, W15_c21, W15_c22, W15_c23, W15_c24, W15_c26, W15_c28]
    refine scall_pure sp_kn5 (by simp) (by simp) ?_
    simp [W15, W15_rs, W15_b1, W15_b2, W15_b25, W15_b27, W15_c3, W15_c4, W15_c5, W15_c6, W15_c7, W15_c8, W15_c9, W15_c10, W15_c11, W15_c12, W15_c13, W15_c14, W15_c15, W15_c16, W15_c17, W15_c18, W15_c19, W15_c20, W15_c21, W15_c22, W15_c23, W15_c24, W15_c26, W15_c28]
    refine scall_pure hfew (by simp) (by simp) ?_
    simp [W15, W15_rs, W15_b1, W15_b2, W15_b25, W15_b27, W15_c3, W15_c4, W15_c5, W15_c6, W15_c7, W15_c8, W15_c9, W15_c10, W15_c11, W15_c12, W15_c13, W15_c14, W15_c15, W15_c16, W15_c17, W15_c18, W15_c19, W15_c20, W15_c21, W15_c22, W15_c23, W15_c24, W15_c26, W15_c28, retW_eq]
end Go.Proofs.Ytkagfenchknjjaa
set_option linter.unusedVariables false
set_option linter.unusedSimpArgs false
namespace Go.Proofs.Ytkagfenchknjjaa
open Go Go.Am Go.RowKit

/-! Rows, pairs, blocks of nothing. -/
inductive Nil : Nat → Tm → Prop
  | skip : Nil 0 .skip
  | blk {n : Nat} {t : Tm} : Nil n t → Nil (n + 1) (.of 7 [t])
  | seq1 {n : Nat} {t : Tm} : Nil n t → Nil (n + 1) (.of 12 [t, .skip])
  | seq2 {n : Nat} {t : Tm} : Nil n t → Nil (n + 1) (.of 12 [.skip, t])
  | par {n : Nat} {t : Tm} : Nil n t → Nil (n + 1) (.of 11 [t, .skip])
theorem skip_norm' : Tm.skip.norm = .skip := Tm.norm_else (by simp [Tm.skip, Tm.of]) (by simp [Tm.skip, Tm.of])
theorem Nil.norm {n : Nat} {t : Tm} (h : Nil n t) : t.norm = .skip := by
  induction h with
  | skip => exact skip_norm'
  | @blk n t _ ih => rw [Tm.norm_one (x := t) rfl, ih]; rfl
  | @seq1 n t _ ih => rw [Tm.norm_two (x := t) (y := .skip) rfl, ih, skip_norm']; rfl
  | @seq2 n t _ ih => rw [Tm.norm_two (x := .skip) (y := t) rfl, ih, skip_norm']; rfl
  | @par n t _ ih => rw [Tm.norm_two (x := t) (y := .skip) rfl, ih, skip_norm']; rfl
theorem acts_w : ∀ l : List Tm, ((Tm.acts l).filterMap fun x => if x.kind = 14 then some x.a else none) = l.flatMap Tm.waits
  | [] => rfl
  | x :: l => by
    rw [Tm.acts_cons, List.filterMap_append, acts_w l, List.flatMap_cons]
    rfl
theorem of_w (k : Int) (l : List Tm) (hk : k ≠ 14) : (Tm.of k l).waits = (Tm.of k l).kidsA.flatMap Tm.waits := by
  have e : (Tm.of k l).waits = ((Tm.of k l :: Tm.acts (Tm.of k l).kidsA).filterMap fun x => if x.kind = 14 then some x.a else none) := by unfold Tm.waits; rw [Tm.act_eq]
  rw [e, List.filterMap_cons, if_neg (by simpa [Tm.of] using hk)]
  simp only
  rw [acts_w]
theorem skip_w : Tm.skip.waits = [] := by rw [Tm.skip, of_w _ _ (by omega)]; simp [Tm.kidsA, Tm.of]
theorem Nil.waits {n : Nat} {t : Tm} (h : Nil n t) : t.waits = [] := by
  induction h with
  | skip => exact skip_w
  | @blk n t _ ih => rw [of_w _ _ (by omega)]; simp [Tm.kidsA, Tm.of, ih]
  | @seq1 n t _ ih => rw [of_w _ _ (by omega)]; simp [Tm.kidsA, Tm.of, ih]
  | @seq2 n t _ ih => rw [of_w _ _ (by omega)]; simp [Tm.kidsA, Tm.of, skip_w]
  | @par n t _ ih => rw [of_w _ _ (by omega)]; simp [Tm.kidsA, Tm.of, ih, skip_w]
theorem Nil.wt {n : Nat} {t : Tm} (h : Nil n t) : t.wt ≤ 2 + 4 * n := by
  induction h with
  | skip => simp [Tm.skip, Tm.of, Tm.wt, Ex.zero_wt, Tm.wts]
  | @blk n t _ ih => simp only [Tm.of, Tm.wt, Ex.zero_wt, Tm.wts]; omega
  | @seq1 n t _ ih => simp only [Tm.skip, Tm.of, Tm.wt, Ex.zero_wt, Tm.wts]; omega
  | @seq2 n t _ ih => simp only [Tm.skip, Tm.of, Tm.wt, Ex.zero_wt, Tm.wts]; omega
  | @par n t _ ih => simp only [Tm.skip, Tm.of, Tm.wt, Ex.zero_wt, Tm.wts]; omega
def exT : Tm := .of 8 []
theorem exT_norm : exT.norm = exT := Tm.norm_else (by simp [exT, Tm.of]) (by simp [exT, Tm.of])
/-- The box: what is stored is told as it is when it leaves. -/
structure Bx (c : List AV) (t : Tm) : Prop where
  len : c.length = 9
  rd : readA c 0 9 true = some (.agg c)
  pur : ∀ H : Heap, c.map (pur0 H) = encT t
  frz : ∀ H : Heap, c.foldl frz0 H = H
theorem Bx.nine {c : List AV} (h : c.length = 9) : readA c 0 9 true = some (.agg c) := by rw [← h]; simp [readA]
theorem tsk_end (ns : List Int) (t : Tm) (n : Nat) (hn : n ≤ 30) (h : Nil n t) (c : List AV) (hb : Bx c t) (v3 : Nat) (T : List (Nat × AV)) (vt : Nat → Nat) (h3 : Am.look T 3 = .ref 3 v3 (.p 0)) :
    W19_k12 Try.prog (retK Try.prog [.tmp 2] (.bool true)) ⟨Am.look T, hls [(3, .box v3 34 c)] vt, noG⟩ := by
  have hwt := h.wt
  obtain ⟨b1, b2, b3, b4⟩ := hb
  have n1 := sp_nrm t (by omega)
  rw [h.norm] at n1
  have n2 := sp_nrm (Tm.of 12 [t, exT]) (by simp only [exT, Tm.of, Tm.wt, Ex.zero_wt, Tm.wts]; omega)
  rw [show (Tm.of 12 [t, exT]).norm = exT by rw [Tm.norm_two (x := t) (y := exT) rfl, h.norm, exT_norm]; rfl, encT_of] at n2
  have s1 := sp_sam .skip .skip (by decide +kernel)
  rw [(Tm.same_iff .skip .skip).2 rfl] at s1
  have s2 := sp_sam exT exT (by decide +kernel)
  rw [(Tm.same_iff exT exT).2 rfl] at s2
  have w := sp_wts t (by omega)
  rw [h.waits] at w
  have eE : encT exT = [.int .i64 8, .int .i64 0, .int .i64 0, .str ⟨#[]⟩, .int .i64 0, .int .i64 0, .str ⟨#[]⟩, .sl [], .sl []] := by rw [exT, encT_of]; rfl
  simp only [encT_skip, eE, List.map_cons, List.map_nil] at n1 n2 s1 s2
  have hc : ∀ H : Heap, (∀ x ∈ c, (pur0 H x).cell = true) ↔ True := fun H => ⟨fun _ => trivial, fun _ x hx => encT_cell t _ (by rw [← b3 H]; exact List.mem_map_of_mem hx)⟩
  simp [W19, W19_rs, W19_b1, W19_b14, W19_b15, W19_b16, W19_b17, W19_b18, W19_b19, W19_b20, W19_b22, W19_b26, W19_c2, W19_c3, W19_c4, W19_c5, W19_c6, W19_c7, W19_c8, W19_c9, W19_c10, W19_c11, W19_c21, W19_c23, W19_c24, W19_c27, W19_k12, W19_k13, W19_l25, h3, b1, b2, b3, b4, hc]
  refine scall0_pure n1 (by simp [b3, b4]) (by simp) ?_
  simp [W19, W19_rs, W19_b1, W19_b14, W19_b15, W19_b16, W19_b17, W19_b18, W19_b19, W19_b20, W19_b22, W19_b26, W19_c2, W19_c3, W19_c4, W19_c5, W19_c6, W19_c7, W19_c8, W19_c9, W19_c10, W19_c11, W19_c21, W19_c23, W19_c24, W19_c27, W19_k12, W19_k13, W19_l25, h3, b1, b2, b3, b4, hc]
  refine scall0_pure s1 (by simp [b3, b4]) (by simp) ?_
  simp [W19, W19_rs, W19_b1, W19_b14, W19_b15, W19_b16, W19_b17, W19_b18, W19_b19, W19_b20, W19_b22, W19_b26, W19_c2, W19_c3, W19_c4, W19_c5, W19_c6, W19_c7, W19_c8, W19_c9, W19_c10, W19_c11, W19_c21, W19_c23, W19_c24, W19_c27, W19_k12, W19_k13, W19_l25, h3, b1, b2, b3, b4, hc]
  refine scall0_pure n2 (by simp [b3, b4]) (by simp) ?_
  simp [W19, W19_rs, W19_b1, W19_b14, W19_b15, W19_b16, W19_b17, W19_b18, W19_b19, W19_b20, W19_b22, W19_b26, W19_c2, W19_c3, W19_c4, W19_c5, W19_c6, W19_c7, W19_c8, W19_c9, W19_c10, W19_c11, W19_c21, W19_c23, W19_c24, W19_c27, W19_k12, W19_k13, W19_l25, h3, b1, b2, b3, b4, hc]
  refine scall0_pure s2 (by simp [b3, b4]) (by simp) ?_
  simp [W19, W19_rs, W19_b1, W19_b14, W19_b15, W19_b16, W19_b17, W19_b18, W19_b19, W19_b20, W19_b22, W19_b26, W19_c2, W19_c3, W19_c4, W19_c5, W19_c6, W19_c7, W19_c8, W19_c9, W19_c10, W19_c11, W19_c21, W19_c23, W19_c24, W19_c27, W19_k12, W19_k13, W19_l25, h3, b1, b2, b3, b4, hc]
  refine scall0_pure w (by simp [b3, b4]) (by simp) ?_
  simp [W19, W19_rs, W19_b1, W19_b14, W19_b15, W19_b16, W19_b17, W19_b18, W19_b19, W19_b20, W19_b22, W19_b26, W19_c2, W19_c3, W19_c4, W19_c5, W19_c6, W19_c7, W19_c8, W19_c9, W19_c10, W19_c11, W19_c21, W19_c23, W19_c24, W19_c27, W19_k12, W19_k13, W19_l25, retW_eq]
theorem bx_of (k : Int) (rows : List (List AV)) (l : List Tm) (h : rows = l.map encT) : Bx [.int .i64 k, .int .i64 0, .int .i64 0, .str ⟨#[]⟩, .int .i64 0, .int .i64 0, .str ⟨#[]⟩, .nils, .slt rows] (.of k l) :=
  ⟨rfl, Bx.nine rfl, fun H => by rw [encT_of, h]; simp, fun H => by simp⟩
theorem bx_zero : Bx [.int .i64 0, .int .i64 0, .int .i64 0, .str ⟨#[]⟩, .int .i64 0, .int .i64 0, .str ⟨#[]⟩, .nils, .nils] .skip :=
  ⟨rfl, Bx.nine rfl, fun H => by rw [encT_skip]; simp, fun H => by simp⟩
theorem sp_tsk (ns : List Int) : Am.Spec Try.prog 19 [.sl (encI ns)] (.bool true) := by
  refine Am.Spec.of_W (W := W19) Try.func19 (by kernel_rfl) (by kernel_rfl) (by kernel_rfl) Try.ntmps19 W19_eq (rs := [.tmp 2]) (by kernel_rfl) (by simp) ?_
  intro vs
  simp [W19, W19_rs, W19_b1, W19_b14, W19_b15, W19_b16, W19_b17, W19_b18, W19_b19, W19_b20, W19_b22, W19_b26, W19_c2, W19_c3, W19_c4, W19_c5, W19_c6, W19_c7, W19_c8, W19_c9, W19_c10, W19_c11, W19_c21, W19_c23, W19_c24, W19_c27, W19_k12, W19_k13, W19_l25]
  refine scall_pure sp_kn5 (by simp) (by simp) ?_
  simp [W19, W19_rs, W19_b1, W19_b14, W19_b15, W19_b16, W19_b17, W19_b18, W19_b19, W19_b20, W19_b22, W19_b26, W19_c2, W19_c3, W19_c4, W19_c5, W19_c6, W19_c7, W19_c8, W19_c9, W19_c10, W19_c11, W19_c21, W19_c23, W19_c24, W19_c27, W19_k12, W19_k13, W19_l25]
  refine sLoop_intro (fun a : Nat × Tm × List AV => a.1 ≤ ns.length ∧ a.1 ≤ 30 ∧ Nil a.1 a.2.1 ∧ Bx a.2.2 a.2.1) (fun a => 30 - a.1) (fun a => [(0, .sl (encI ns)), (3, .ref 3 (vs 3 + 1) (.p 0)), (4, .int .i64 (a.1 : Nat))])
    (fun a => [(3, .box (vs 3 + 1) 34 a.2.2)]) (0, .skip, [.int .i64 0, .int .i64 0, .int .i64 0, .str ⟨#[]⟩, .int .i64 0, .int .i64 0, .str ⟨#[]⟩, .nils, .nils]) ⟨by simp, by simp, .skip, bx_zero⟩ (by simp) (by simp) ?_
  rintro L ⟨i, t, c⟩ vt ⟨hi, h30, hn, hb⟩ hL
  simp only at hi h30 hn hb hL ⊢
  by_cases hc : i < ns.length ∧ i < 30
  · obtain ⟨h1, h2⟩ := hc
    have h1' : (i : Int) < ns.length := by omega
    have h2' : (i : Int) < 30 := by omega
    have hwi := sp_wi5 ns[i] 4 (by omega) (by omega)
    have g1 := within_ge ns[i] 4 (by omega)
    have g2 := within_lt ns[i] 4 (by omega)
    have hb0 := hb
    obtain ⟨b1, b2, b3, b4⟩ := hb
    have hcc : ∀ H : Heap, (∀ x ∈ c, (pur0 H x).cell = true) ↔ True := fun H => ⟨fun _ => trivial, fun _ x hx => encT_cell t _ (by rw [← b3 H]; exact List.mem_map_of_mem hx)⟩
    have hset : ∀ l : List AV, l.length = 9 → setL c 0 l = l := fun l h => setL_whole (by rw [b1, h])
    generalize hw : within ns[i] 4 = w at *
    have cs : w = 0 ∨ w = 1 ∨ w = 2 ∨ w = 3 := by omega
    rcases cs with e | e | e | e
    · simp [W19, W19_rs, W19_b1, W19_b14, W19_b15, W19_b16, W19_b17, W19_b18, W19_b19, W19_b20, W19_b22, W19_b26, W19_c2, W19_c3, W19_c4, W19_c5, W19_c6, W19_c7, W19_c8, W19_c9, W19_c10, W19_c11, W19_c21, W19_c23, W19_c24, W19_c27, W19_k12, W19_k13, W19_l25, h1, h1', h2']
      refine scall_pure hwi (by simp) (by simp) ?_
      simp [W19, W19_rs, W19_b1, W19_b14, W19_b15, W19_b16, W19_b17, W19_b18, W19_b19, W19_b20, W19_b22, W19_b26, W19_c2, W19_c3, W19_c4, W19_c5, W19_c6, W19_c7, W19_c8, W19_c9, W19_c10, W19_c11, W19_c21, W19_c23, W19_c24, W19_c27, W19_k12, W19_k13, W19_l25, e, b1, b2, b3, b4, hcc, hset]
      rw [wrap64 (by omega) (by omega)]
      exact hL _ _ _ (i + 1, .of 7 [t], _) ⟨h1, h2, hn.blk, bx_of 7 _ [t] rfl⟩ (by simp only; omega) (by simp) (by simp)
    · simp [W19, W19_rs, W19_b1, W19_b14, W19_b15, W19_b16, W19_b17, W19_b18, W19_b19, W19_b20, W19_b22, W19_b26, W19_c2, W19_c3, W19_c4, W19_c5, W19_c6, W19_c7, W19_c8, W19_c9, W19_c10, W19_c11, W19_c21, W19_c23, W19_c24, W19_c27, W19_k12, W19_k13, W19_l25, h1, h1', h2']
      refine scall_pure hwi (by simp) (by simp) ?_
      simp [W19, W19_rs, W19_b1, W19_b14, W19_b15, W19_b16, W19_b17, W19_b18, W19_b19, W19_b20, W19_b22, W19_b26, W19_c2, W19_c3, W19_c4, W19_c5, W19_c6, W19_c7, W19_c8, W19_c9, W19_c10, W19_c11, W19_c21, W19_c23, W19_c24, W19_c27, W19_k12, W19_k13, W19_l25, e, b1, b2, b3, b4, hcc, hset]
      rw [wrap64 (by omega) (by omega)]
      exact hL _ _ _ (i + 1, .of 12 [t, .skip], _) ⟨h1, h2, hn.seq1, bx_of 12 _ [t, .skip] (by rw [List.map_cons, List.map_cons, encT_skip])⟩ (by simp only; omega) (by simp) (by simp)
    · simp [W19, W19_rs, W19_b1, W19_b14, W19_b15, W19_b16, W19_b17, W19_b18, W19_b19, W19_b20, W19_b22, W19_b26, W19_c2, W19_c3, W19_c4, W19_c5, W19_c6, W19_c7, W19_c8, W19_c9, W19_c10, W19_c11, W19_c21, W19_c23, W19_c24, W19_c27, W19_k12, W19_k13, W19_l25, h1, h1', h2']
      refine scall_pure hwi (by simp) (by simp) ?_
      simp [W19, W19_rs, W19_b1, W19_b14, W19_b15, W19_b16, W19_b17, W19_b18, W19_b19, W19_b20, W19_b22, W19_b26, W19_c2, W19_c3, W19_c4, W19_c5, W19_c6, W19_c7, W19_c8, W19_c9, W19_c10, W19_c11, W19_c21, W19_c23, W19_c24, W19_c27, W19_k12, W19_k13, W19_l25, e, b1, b2, b3, b4, hcc, hset]
      rw [wrap64 (by omega) (by omega)]
      exact hL _ _ _ (i + 1, .of 12 [.skip, t], _) ⟨h1, h2, hn.seq2, bx_of 12 _ [.skip, t] (by rw [List.map_cons, List.map_cons, encT_skip])⟩ (by simp only; omega) (by simp) (by simp)
    · simp [W19, W19_rs, W19_b1, W19_b14, W19_b15, W19_b16, W19_b17, W19_b18, W19_b19, W19_b20, W19_b22, W19_b26, W19_c2, W19_c3, W19_c4, W19_c5, W19_c6, W19_c7, W19_c8, W19_c9, W19_c10, W19_c11, W19_c21, W19_c23, W19_c24, W19_c27, W19_k12, W19_k13, W19_l25, h1, h1', h2']
      refine scall_pure hwi (by simp) (by simp) ?_
      simp [W19, W19_rs, W19_b1, W19_b14, W19_b15, W19_b16, W19_b17, W19_b18, W19_b19, W19_b20, W19_b22, W19_b26, W19_c2, W19_c3, W19_c4, W19_c5, W19_c6, W19_c7, W19_c8, W19_c9, W19_c10, W19_c11, W19_c21, W19_c23, W19_c24, W19_c27, W19_k12, W19_k13, W19_l25, e, b1, b2, b3, b4, hcc, hset]
      rw [wrap64 (by omega) (by omega)]
      exact hL _ _ _ (i + 1, .of 11 [t, .skip], _) ⟨h1, h2, hn.par, bx_of 11 _ [t, .skip] (by rw [List.map_cons, List.map_cons, encT_skip])⟩ (by simp only; omega) (by simp) (by simp)
  · by_cases h1 : i < ns.length
    · have h1' : (i : Int) < ns.length := by omega
      have h2' : ¬ (i : Int) < 30 := by omega
      simp [W19, W19_rs, W19_b1, W19_b14, W19_b15, W19_b16, W19_b17, W19_b18, W19_b19, W19_b20, W19_b22, W19_b26, W19_c2, W19_c3, W19_c4, W19_c5, W19_c6, W19_c7, W19_c8, W19_c9, W19_c10, W19_c11, W19_c21, W19_c23, W19_c24, W19_c27, W19_k13, W19_l25, h1, h1', h2']
      exact tsk_end ns t i h30 hn c hb (vs 3 + 1) _ vt (by simp)
    · have h1' : ¬ (i : Int) < ns.length := by omega
      simp [W19, W19_rs, W19_b1, W19_b14, W19_b15, W19_b16, W19_b17, W19_b18, W19_b19, W19_b20, W19_b22, W19_b26, W19_c2, W19_c3, W19_c4, W19_c5, W19_c6, W19_c7, W19_c8, W19_c9, W19_c10, W19_c11, W19_c21, W19_c23, W19_c24, W19_c27, W19_k13, W19_l25, h1, h1']
      exact tsk_end ns t i h30 hn c hb (vs 3 + 1) _ vt (by simp)
end Go.Proofs.Ytkagfenchknjjaa
set_option linter.unusedVariables false
set_option linter.unusedSimpArgs false
namespace Go.Proofs.Ytkagfenchknjjaa
open Go Go.Am Go.RowKit Go.ChangeShapes Go.WideShapes Go.ChangeAt

theorem ulIs : Try.prog.underlying 41 = some (.slice 3) := by kernel_rfl
theorem rdv_Is : RdV Try.prog 41 (fun l : List Int => .sl (encI l)) fun l => l.length ≤ maxLen ∧ ∀ a ∈ l, (Lit.int .i64 a).wf = true :=
  RdV.slice ulIs (fun W n => RdN.int (W := W) ul3 n) (fun a => (show ([AV.int .i64 a] : List AV).length = 1 from rfl).trans (by kernel_rfl)) (by decide +kernel) (by simp)
end Go.Proofs.Ytkagfenchknjjaa
