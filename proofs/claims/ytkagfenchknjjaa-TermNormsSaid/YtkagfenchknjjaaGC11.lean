import Derived.Test.YtkagfenchknjjaaGP6
import Derived.Test.YtkagfenchknjjaaGW8
import Derived.Test.YtkagfenchknjjaaGW9
set_option linter.unusedVariables false
set_option linter.unusedSimpArgs false
namespace Go.Proofs.Ytkagfenchknjjaa
open Go Go.Am Go.RowKit
attribute [local simp] W96 W96_rs W96_c1 W96_c2 W107 W107_rs W107_c1 W107_c2 W78 W78_rs W78_c1 W78_c2 W78_c3 W97 W97_rs W97_c1 W97_c2 W97_c3 W97_c4 W97_c5 W80 W80_rs W80_c1 W80_c2 W80_c3 W80_c4 W80_c5 W80_c6 W80_c7 W80_c8 W80_c9 W80_c10 W80_c11 W80_c12 W80_c13 W80_c14 W80_c15 W80_c16 W99 W99_rs W99_b1 W99_b2 W99_b3 W99_b6 W99_c4 W99_c5 W99_c7 W99_c8 W74 W74_rs W74_c1 W74_c2 W74_c3 W74_c4 W74_c6 W74_c7 W74_c8 W74_c9 W74_c11 W74_c12 W74_c13 W74_c14 W74_c16 W74_c17 W74_c18 W74_c19 W74_b5 W74_b10 W74_b15 W74_b20 W74_b21 W74_b22 W74_b23 W74_b24 W74_b25 W74_b26 W75 W75_rs W75_c1 W75_c2 W75_c3 W75_c4 W75_c5 W75_c6 W75_c7 W75_c8 W75_c9 W75_c10 W73 W73_rs W114 W114_rs W114_k1 W114_b2 W114_b3 W114_b4 W114_l5 W105 W105_rs W105_c1 W106 W106_rs W95 W95_rs W95_c1 W95_c2

theorem sp_sm (c : Int) : Am.Spec Try.prog 96 [.int .u8 c] (.bool (isSmall c)) := by
  refine Am.Spec.of_W (W := W96) Try.func96 (by kernel_rfl) (by kernel_rfl) (by kernel_rfl) Try.ntmps96 W96_eq (rs := [.tmp 2]) (by kernel_rfl) (by simp) ?_
  intro vs
  simp
  repeat' (first | (refine sIf_dec (fun h => ?_) (fun h => ?_) <;> (try simp [retW_eq, *,  isSmall])) | (refine sGrd_dec (fun h => ?_) (fun h => ?_) <;> (try simp [retW_eq, *,  isSmall])) | (refine sIf_ndec (fun h => ?_) (fun h => ?_) <;> (try simp [retW_eq, *,  isSmall])) | (refine sGrd_ndec (fun h => ?_) (fun h => ?_) <;> (try simp [retW_eq, *,  isSmall])) | (refine sIf_of (fun h => ?_) (fun h => ?_) <;> (try simp at h) <;> (try simp [retW_eq, *,  isSmall])) | (refine sGrd_of (fun h => ?_) (fun h => ?_) <;> (try simp at h) <;> (try simp [retW_eq, *,  isSmall])))
theorem sp_dg (c : Int) : Am.Spec Try.prog 107 [.int .u8 c] (.bool (isDigit c)) := by
  refine Am.Spec.of_W (W := W107) Try.func107 (by kernel_rfl) (by kernel_rfl) (by kernel_rfl) Try.ntmps107 W107_eq (rs := [.tmp 2]) (by kernel_rfl) (by simp) ?_
  intro vs
  simp
  repeat' (first | (refine sIf_dec (fun h => ?_) (fun h => ?_) <;> (try simp [retW_eq, *,  isDigit])) | (refine sGrd_dec (fun h => ?_) (fun h => ?_) <;> (try simp [retW_eq, *,  isDigit])) | (refine sIf_ndec (fun h => ?_) (fun h => ?_) <;> (try simp [retW_eq, *,  isDigit])) | (refine sGrd_ndec (fun h => ?_) (fun h => ?_) <;> (try simp [retW_eq, *,  isDigit])) | (refine sIf_of (fun h => ?_) (fun h => ?_) <;> (try simp at h) <;> (try simp [retW_eq, *,  isDigit])) | (refine sGrd_of (fun h => ?_) (fun h => ?_) <;> (try simp at h) <;> (try simp [retW_eq, *,  isDigit])))
theorem sp_inn (c : Int) : Am.Spec Try.prog 97 [.int .u8 c] (.bool (isInner c)) := by
  refine Am.Spec.of_W (W := W97) Try.func97 (by kernel_rfl) (by kernel_rfl) (by kernel_rfl) Try.ntmps97 W97_eq (rs := [.tmp 2]) (by kernel_rfl) (by simp) ?_
  intro vs
  simp
  refine scall_flat (sp_sm c) (by simp) (by simp) rfl ?_
  simp
  cases h1 : isSmall c
  · simp
    refine scall_flat (sp_dg c) (by simp) (by simp) rfl ?_
    simp
    cases h2 : isDigit c <;> simp [retW_eq, isInner, h1, h2]
  · simp [retW_eq, isInner, h1]
theorem sp_wd (c : Int) (f : Bool) : Am.Spec Try.prog 80 [.int .u8 c, .bool f] (.bool (isSmall c || (!f && (isDigit c || decide (c = 95))))) := by
  refine Am.Spec.of_W (W := W80) Try.func80 (by kernel_rfl) (by kernel_rfl) (by kernel_rfl) Try.ntmps80 W80_eq (rs := [.tmp 4]) (by kernel_rfl) (by simp) ?_
  intro vs
  simp
  have e3 : ∀ K : Prop, ((c < 97 → K) ∧ (97 ≤ c → K)) → K := fun K h => by by_cases h1 : c < 97; exact h.1 h1; exact h.2 (by omega)
  by_cases h1 : 97 ≤ c
  · by_cases h2 : c ≤ 122
    · simp [h1, h2, retW_eq, isSmall]
    · have h5 : ¬ c ≤ 57 := by omega
      have h6 : ¬ c = 95 := by omega
      have h7 : 48 ≤ c := by omega
      cases f <;> simp [h1, h2, h5, h6, h7, retW_eq, isSmall, isDigit]
  · by_cases h3 : 48 ≤ c
    · by_cases h4 : c ≤ 57
      · cases f <;> simp [h1, h3, h4, retW_eq, isSmall, isDigit]
      · cases f <;> simp [h1, h3, h4, retW_eq, isSmall, isDigit]
    · cases f <;> simp [h1, h3, retW_eq, isSmall, isDigit]
theorem sp_inr (n lo hi : Int) : Am.Spec Try.prog 78 [.int .i64 n, .int .i64 lo, .int .i64 hi] (.bool (decide (lo ≤ n) && decide (n < hi))) := by
  refine Am.Spec.of_W (W := W78) Try.func78 (by kernel_rfl) (by kernel_rfl) (by kernel_rfl) Try.ntmps78 W78_eq (rs := [.tmp 6]) (by kernel_rfl) (by simp) ?_
  intro vs
  simp
  repeat' (first | (refine sIf_dec (fun h => ?_) (fun h => ?_) <;> (try simp [retW_eq, *])) | (refine sGrd_dec (fun h => ?_) (fun h => ?_) <;> (try simp [retW_eq, *])) | (refine sIf_ndec (fun h => ?_) (fun h => ?_) <;> (try simp [retW_eq, *])) | (refine sGrd_ndec (fun h => ?_) (fun h => ?_) <;> (try simp [retW_eq, *])) | (refine sIf_of (fun h => ?_) (fun h => ?_) <;> (try simp at h) <;> (try simp [retW_eq, *])) | (refine sGrd_of (fun h => ?_) (fun h => ?_) <;> (try simp at h) <;> (try simp [retW_eq, *])))
theorem sp_chd (k : Int) : Am.Spec Try.prog 99 [.int .i64 k] (.int .i64 (kids k)) := by
  refine Am.Spec.of_W (W := W99) Try.func99 (by kernel_rfl) (by kernel_rfl) (by kernel_rfl) Try.ntmps99 W99_eq (rs := [.tmp 2]) (by kernel_rfl) (by simp) ?_
  intro vs
  simp
  by_cases h1 : k = 1
  · simp [h1, retW_eq, kids]
  by_cases h2 : k = 2
  · simp [h2, retW_eq, kids]
  by_cases h3 : k = 3
  · simp [h3, retW_eq, kids]
  by_cases h4 : k = 4
  · simp [h4, retW_eq, kids]
  simp [h1, h2, h3, h4, retW_eq, kids]
theorem sp_num (v st p k n : Int) : Am.Spec Try.prog 74 [.agg [.int .i64 v, .int .i64 st, .int .i64 p], .int .i64 k, .int .i64 n] (.bool (numOk v st p k n)) := by
  refine Am.Spec.of_W (W := W74) Try.func74 (by kernel_rfl) (by kernel_rfl) (by kernel_rfl) Try.ntmps74 W74_eq (rs := [.tmp 6]) (by kernel_rfl) (by simp) ?_
  intro vs
  simp
  by_cases h1 : k = 1
  · by_cases hn : 0 ≤ n <;> simp [h1, hn, retW_eq, numOk]
  by_cases h2 : k = 2
  · by_cases hn : -1 ≤ n <;> simp [h2, hn, retW_eq, numOk]
  by_cases h3 : k = 3
  · by_cases hn : 0 ≤ n <;> simp [h3, hn, retW_eq, numOk]
  by_cases h4 : k = 4
  · by_cases hn : 0 ≤ n <;> simp [h4, hn, retW_eq, numOk]
  by_cases h5 : k = 5
  · simp [h5, retW_eq, numOk]
  simp [h1, h2, h3, h4, h5, retW_eq, numOk]
theorem sp_non (x : Ex) : Am.Spec Try.prog 75 [.agg (encE x)] (.bool x.none) := by
  refine Am.Spec.of_W (W := W75) Try.func75 (by kernel_rfl) (by kernel_rfl) (by kernel_rfl) Try.ntmps75 W75_eq (rs := [.tmp 2]) (by kernel_rfl) (by simp) ?_
  intro vs
  simp
  by_cases h1 : x.kind = 0
  · by_cases h2 : x.n = 0
    · by_cases h3 : x.name = ⟨#[]⟩
      · by_cases h4 : x.l = [] <;> simp [h1, h2, h3, h4, retW_eq, Ex.none]
      · simp [h1, h2, h3, retW_eq, Ex.none]
    · simp [h1, h2, retW_eq, Ex.none]
  · simp [h1, retW_eq, Ex.none]
theorem sp_shp : Am.Spec Try.prog 73 [] (.sl shapes) := by
  refine Am.Spec.of_W (W := W73) Try.func73 (by kernel_rfl) (by kernel_rfl) (by kernel_rfl) Try.ntmps73 W73_eq (rs := [.tmp 0]) (by kernel_rfl) (by simp) ?_
  intro vs
  simp [retW_eq, shapes, shapeOf]
theorem sp_idx (l : List ByteArray) (s : ByteArray) (hl : l.length < 9223372036854775807) : Am.Spec Try.prog 114 [.sl (l.map fun x => [.str x]), .str s] (.int .i64 (idxB l s)) := by
  refine Am.Spec.of_W (W := W114) Try.func114 (by kernel_rfl) (by kernel_rfl) (by kernel_rfl) Try.ntmps114 W114_eq (rs := [.tmp 4]) (by kernel_rfl) (by simp) ?_
  intro vs
  simp
  refine sLoop_intro (fun i => i ≤ l.length ∧ idxB l s = if idxB (l.drop i) s = -1 then -1 else i + idxB (l.drop i) s) (fun i => l.length - i)
    (fun i => [(0, .sl (l.map fun x => [.str x])), (1, .str s), (7, .int .i64 l.length), (8, .int .i64 (i : Nat))]) (fun _ => []) 0 (by simp) (by simp) (by simp) ?_
  intro L i vs ⟨hi, hx⟩ hL
  simp
  refine sIf_dec (fun h => ?_) (fun h => ?_)
  · simp [h]
    refine sIf_dec (fun e => ?_) (fun e => ?_)
    · simp [retW_eq]
      rw [hx, idxB_at l s i h e.symm]
      simp
    · simp
      rw [wrap64 (by omega) (by omega)]
      exact hL _ _ _ (i + 1) ⟨h, by rw [hx, idxB_step l s i h fun q => e q.symm]⟩ (by omega) (by simp) (by simp)
  · simp [retW_eq]
    have : l.drop i = [] := List.drop_of_length_le (by omega)
    rw [this] at hx
    simpa [idxB] using hx.symm
theorem sp_cts (l : List ByteArray) (s : ByteArray) (hl : l.length < 9223372036854775807) : Am.Spec Try.prog 105 [.sl (l.map fun x => [.str x]), .str s] (.bool (decide (0 ≤ idxB l s))) := by
  refine Am.Spec.of_W (W := W105) Try.func105 (by kernel_rfl) (by kernel_rfl) (by kernel_rfl) Try.ntmps105 W105_eq (rs := [.tmp 4]) (by kernel_rfl) (by simp) ?_
  intro vs
  simp
  refine scall_flat (sp_idx l s hl) (by simp) (by simp) rfl ?_
  simp [retW_eq]
theorem sp_wds : Am.Spec Try.prog 106 [] (.sl (words.map fun x => [.str x])) := by
  refine Am.Spec.of_W (W := W106) Try.func106 (by kernel_rfl) (by kernel_rfl) (by kernel_rfl) Try.ntmps106 W106_eq (rs := [.tmp 0]) (by kernel_rfl) (by simp) ?_
  intro vs
  simp [retW_eq, words]
theorem sp_key (s : ByteArray) : Am.Spec Try.prog 95 [.str s] (.bool (isKey s)) := by
  refine Am.Spec.of_W (W := W95) Try.func95 (by kernel_rfl) (by kernel_rfl) (by kernel_rfl) Try.ntmps95 W95_eq (rs := [.tmp 2]) (by kernel_rfl) (by simp) ?_
  intro vs
  simp
  refine scall_pure sp_wds (by simp) (by simp) ?_
  simp
  refine scall_flat (sp_cts words s (by simp [words])) (by simp) (by simp [words]) rfl ?_
  simp [retW_eq, isKey]
end Go.Proofs.Ytkagfenchknjjaa
set_option linter.unusedVariables false
set_option linter.unusedSimpArgs false
namespace Go.Proofs.Ytkagfenchknjjaa
open Go Go.Am Go.RowKit
attribute [local simp] W36 W36_rs W36_k1 W36_c2 W36_b3 W36_l4

theorem sp_sz (t : Tm) (hs : t.size < 9223372036854775808) : Am.Spec Try.prog 36 [.agg (encT t)] (.int .i64 t.size) := by
  refine Am.Spec.of_W (W := W36) Try.func36 (by kernel_rfl) (by kernel_rfl) (by kernel_rfl) Try.ntmps36 W36_eq (rs := [.tmp 2]) (by kernel_rfl) (by simp) ?_
  intro vs
  simp
  refine sLoop_intro (fun i => i ≤ t.l.length) (fun i => t.l.length - i)
    (fun i => [(3, .int .i64 (1 + Tm.sizes (t.l.take i))), (7, .sl (t.l.map encT)), (8, .int .i64 t.l.length), (9, .int .i64 (i : Nat))]) (fun _ => []) 0 (by simp) (by simp [Tm.sizes]) (by simp) ?_
  intro L i vs hi hL
  simp
  refine sIf_dec (fun h => ?_) (fun h => ?_)
  · have hsz : t.size = 1 + (Tm.sizes (t.l.take i) + (t.l[i].size + Tm.sizes (t.l.drop (i + 1)))) := by
      rw [Tm.size_eq, Tm.sizes_split t.l (i + 1), Tm.sizes_take _ _ h]; omega
    have h1 := Tm.sizes_nonneg (t.l.take i)
    have h2 := Tm.sizes_nonneg (t.l.drop (i + 1))
    have h3 := t.l[i].size_pos
    have h4 := Tm.sizes_length t.l
    have h5 := t.size_eq
    simp [h]
    refine scall_flat (sp_sz t.l[i] (by omega)) (by simp) (by simp) rfl ?_
    simp
    rw [wrap64 (by omega) (by omega), wrap64 (by omega) (by omega)]
    refine hL _ _ _ (i + 1) h (by omega) ?_ (by simp)
    simp [Tm.sizes_take _ _ h]
    omega
  · simp [retW_eq]
    rw [Tm.size_eq, List.take_of_length_le (by omega)]
termination_by SizeOf.sizeOf t
decreasing_by exact Tm.lt_of_mem (List.getElem_mem h)
end Go.Proofs.Ytkagfenchknjjaa
set_option linter.unusedVariables false
set_option linter.unusedSimpArgs false
namespace Go.Proofs.Ytkagfenchknjjaa
open Go Go.Am Go.RowKit
attribute [local simp] W100 W100_rs W100_b1 W100_b2 W100_c3 W82 W82_rs W82_b1 W82_b2 W82_c3 W49 W49_rs W49_b1 W49_b2 W49_c3 W83 W83_rs W83_c1 W83_c3 W83_k2 W83_b4 W83_l5 W61 W61_rs W61_c1 W61_c2 W61_c4 W61_k3 W61_b5 W61_l6

theorem sp_cle (rows : List (List AV)) (h : ∀ x ∈ rows, x.length = 4 ∧ ∀ c ∈ x, c.cell = true) (hc : closedLL rows = true) (hl : rows.length ≤ 137438953472) : Am.Spec Try.prog 100 [.sl rows] (.sl rows) := by
  refine Am.Spec.of_W (W := W100) Try.func100 (by kernel_rfl) (by kernel_rfl) (by kernel_rfl) Try.ntmps100 W100_eq (rs := [.tmp 2]) (by kernel_rfl) (by simp) ?_
  intro vs
  simp
  refine sNil_sl _ _ _ _ _ _ ?_ fun e => ?_
  · simp
    rw [if_pos h]
    simp
    rw [decide_eq_true (by omega)]
    simp [retW_eq, hc]
  · subst e
    simp [retW_eq]
theorem sp_clt (rows : List (List AV)) (h : ∀ x ∈ rows, x.length = 9 ∧ ∀ c ∈ x, c.cell = true) (hc : closedLL rows = true) (hl : rows.length ≤ 137438953472) : Am.Spec Try.prog 82 [.sl rows] (.sl rows) := by
  refine Am.Spec.of_W (W := W82) Try.func82 (by kernel_rfl) (by kernel_rfl) (by kernel_rfl) Try.ntmps82 W82_eq (rs := [.tmp 2]) (by kernel_rfl) (by simp) ?_
  intro vs
  simp
  refine sNil_sl _ _ _ _ _ _ ?_ fun e => ?_
  · simp
    rw [if_pos h]
    simp
    rw [decide_eq_true (by omega)]
    simp [retW_eq, hc]
  · subst e
    simp [retW_eq]
theorem sp_cli (rows : List (List AV)) (h : ∀ x ∈ rows, x.length = 1 ∧ ∀ c ∈ x, c.cell = true) (hc : closedLL rows = true) (hl : rows.length ≤ 137438953472) : Am.Spec Try.prog 49 [.sl rows] (.sl rows) := by
  refine Am.Spec.of_W (W := W49) Try.func49 (by kernel_rfl) (by kernel_rfl) (by kernel_rfl) Try.ntmps49 W49_eq (rs := [.tmp 2]) (by kernel_rfl) (by simp) ?_
  intro vs
  simp
  refine sNil_sl _ _ _ _ _ _ ?_ fun e => ?_
  · simp
    rw [if_pos h]
    simp
    rw [decide_eq_true (by omega)]
    simp [retW_eq, hc]
  · subst e
    simp [retW_eq]
theorem sp_owe (x : Ex) (hw : x.wt ≤ 137438953472) : Am.Spec Try.prog 83 [.agg (encE x)] (.agg (encE x)) := by
  have hlen := Ex.wts_len x.l
  have hwt := x.wt_eq
  refine Am.Spec.of_W (W := W83) Try.func83 (by kernel_rfl) (by kernel_rfl) (by kernel_rfl) Try.ntmps83 W83_eq (rs := [.cell 2 31]) (by kernel_rfl) (by simp) ?_
  intro vs
  simp
  rw [decide_eq_true (p := 56 * x.l.length ≤ 281474976710656) (by omega), decide_eq_true (p := x.l.length ≤ maxLen) (by simp only [maxLen]; omega)]
  simp
  refine sLoop_intro (fun a : Nat × Nat => a.1 ≤ x.l.length) (fun a => x.l.length - a.1)
    (fun a => [(1, .ref 1 (vs 1 + 1) (.p 0)), (2, .ref 2 (vs 2 + 1) (.p 0)), (3, .ref 9 a.2 .o), (11, .sl (x.l.map encE)), (12, .int .i64 x.l.length), (13, .int .i64 (a.1 : Nat))])
    (fun a => [(1, .box (vs 1 + 1) 31 (encE x)), (2, .box (vs 2 + 1) 31 [.int .i64 0, .int .i64 0, .str ⟨#[]⟩, .nils]), (9, .row a.2 31 4 ((x.l.take a.1).map encE))]) (0, vs 9 + 1) (by simp) (by simp) (by simp) ?_
  intro L ⟨i, v⟩ vt hi hL
  simp only at hi
  simp
  refine sIf_dec (fun h => ?_) (fun h => ?_)
  · simp [h]
    refine scall_pure (sp_owe x.l[i] (by have := Ex.wts_mem (List.getElem_mem h); omega)) (by simp) (by simp) ?_
    simp
    rw [decide_eq_true (by omega)]
    simp
    rw [wrap64 (by omega) (by omega)]
    refine hL _ _ _ (i + 1, v + 1) (by simp; omega) (by simp; omega) (by simp) (by simp [take_map_succ encE x.l i h])
  · simp
    refine scall_pure (sp_cle (x.l.map encE) (by simp; exact fun a _ => encE_cell a) (by simp) (by simp; omega)) (by simp; rw [List.take_of_length_le (by simp; omega)]) (by simp) ?_
    simp [retW_eq]
termination_by SizeOf.sizeOf x
decreasing_by exact Ex.lt_of_mem (List.getElem_mem h)
theorem sp_own (x : Tm) (hw : x.wt ≤ 137438953472) : Am.Spec Try.prog 61 [.agg (encT x)] (.agg (encT x)) := by
  have hlen := Tm.wts_len x.l
  have hwt := x.wt_eq
  refine Am.Spec.of_W (W := W61) Try.func61 (by kernel_rfl) (by kernel_rfl) (by kernel_rfl) Try.ntmps61 W61_eq (rs := [.cell 2 34]) (by kernel_rfl) (by simp) ?_
  intro vs
  simp
  rw [decide_eq_true (p := 120 * x.l.length ≤ 281474976710656) (by omega), decide_eq_true (p := x.l.length ≤ maxLen) (by simp only [maxLen]; omega)]
  simp
  refine sLoop_intro (fun a : Nat × Nat => a.1 ≤ x.l.length) (fun a => x.l.length - a.1)
    (fun a => [(1, .ref 1 (vs 1 + 1) (.p 0)), (2, .ref 2 (vs 2 + 1) (.p 0)), (3, .ref 9 a.2 .o), (11, .sl (x.l.map encT)), (12, .int .i64 x.l.length), (13, .int .i64 (a.1 : Nat))])
    (fun a => [(1, .box (vs 1 + 1) 34 (encT x)), (2, .box (vs 2 + 1) 34 [.int .i64 0, .int .i64 0, .int .i64 0, .str ⟨#[]⟩, .int .i64 0, .int .i64 0, .str ⟨#[]⟩, .nils, .nils]), (9, .row a.2 34 9 ((x.l.take a.1).map encT))]) (0, vs 9 + 1) (by simp) (by simp) (by simp) ?_
  intro L ⟨i, v⟩ vt hi hL
  simp only at hi
  simp
  refine sIf_dec (fun h => ?_) (fun h => ?_)
  · simp [h]
    refine scall_pure (sp_own x.l[i] (by have := Tm.wts_mem (List.getElem_mem h); omega)) (by simp) (by simp) ?_
    simp
    rw [decide_eq_true (by omega)]
    simp
    rw [wrap64 (by omega) (by omega)]
    refine hL _ _ _ (i + 1, v + 1) (by simp; omega) (by simp; omega) (by simp) (by simp [take_map_succ encT x.l i h])
  · simp
    refine scall0_pure (sp_clt (x.l.map encT) (by simp; exact fun a _ => encT_cell a) (by simp) (by simp; omega)) (by simp; rw [List.take_of_length_le (by simp; omega)]) (by simp) ?_
    simp
    refine scall0_pure (sp_owe x.e (by omega)) (by simp) (by simp) ?_
    simp [retW_eq]
termination_by SizeOf.sizeOf x
decreasing_by exact Tm.lt_of_mem (List.getElem_mem h)
end Go.Proofs.Ytkagfenchknjjaa
set_option linter.unusedVariables false
set_option linter.unusedSimpArgs false
namespace Go.Proofs.Ytkagfenchknjjaa
open Go Go.Am Go.RowKit
attribute [local simp] W60 W60_rs W40 W40_rs W40_c1 W40_c3 W40_c5 W40_c6 W40_c10 W40_c11 W40_c12 W40_c13 W40_c14 W40_c15 W40_c19 W40_c20 W40_c22 W40_c24 W40_c25 W40_c26 W40_c27 W40_c29 W40_c30 W40_c31 W40_c32 W40_c34 W40_c35 W40_c36 W40_c37 W40_b2 W40_b4 W40_b7 W40_b8 W40_b9 W40_b16 W40_b17 W40_b18 W40_b21 W40_b23 W40_b28 W40_b33

theorem sp_nsk (x : Tm) : Am.Spec Try.prog 60 [.agg (encT x)] (.bool (decide (x.kind = 0))) := by
  refine Am.Spec.of_W (W := W60) Try.func60 (by kernel_rfl) (by kernel_rfl) (by kernel_rfl) Try.ntmps60 W60_eq (rs := [.tmp 2]) (by kernel_rfl) (by simp) ?_
  intro vs
  simp [retW_eq]
theorem sp_nrm (t : Tm) (hw : t.wt ≤ 137438953472) : Am.Spec Try.prog 40 [.agg (encT t)] (.agg (encT t.norm)) := by
  have hwt := t.wt_eq
  refine Am.Spec.of_W (W := W40) Try.func40 (by kernel_rfl) (by kernel_rfl) (by kernel_rfl) Try.ntmps40 W40_eq (rs := [.cell 2 34]) (by kernel_rfl) (by simp) ?_
  intro vs
  simp
  by_cases h2 : t.l.length = 2
  · obtain ⟨x, y, hl⟩ : ∃ x y, t.l = [x, y] := by
      rcases hl : t.l with _ | ⟨x, _ | ⟨y, _ | ⟨z, r⟩⟩⟩ <;> simp [hl] at h2
      exact ⟨x, y, rfl⟩
    have wx : x.wt < t.wt := by rw [hwt, hl]; simp only [Tm.wts]; omega
    have wy : y.wt < t.wt := by rw [hwt, hl]; simp only [Tm.wts]; omega
    have mx : x ∈ t.l := by rw [hl]; simp
    have my : y ∈ t.l := by rw [hl]; simp
    rw [Tm.norm_two hl]
    by_cases k12 : t.kind = 12
    · rw [if_pos k12]
      simp [k12, hl]
      refine scall_pure (sp_nrm x (by omega)) (by simp) (by simp) ?_
      simp
      refine scall_flat (sp_nsk x.norm) (by simp) (by simp) rfl ?_
      simp
      by_cases hx : x.norm.kind = 0
      · simp [hx, hl]
        refine scall_pure (sp_nrm y (by omega)) (by simp) (by simp) ?_
        simp [retW_eq, hx]
      · simp [hx, hl]
        refine scall0_pure (sp_own y (by omega)) (by simp) (by simp) ?_
        simp [retW_eq, encT_of, hx]
    · rw [if_neg k12]
      by_cases k11 : t.kind = 11
      · rw [if_pos k11]
        simp [k12, k11, hl]
        refine scall0_pure (sp_nrm x (by omega)) (by simp) (by simp) ?_
        simp [k12, k11, hl]
        refine scall0_pure (sp_nrm y (by omega)) (by simp) (by simp) ?_
        simp
        refine scall_flat (sp_nsk x.norm) (by simp) (by simp) rfl ?_
        simp
        by_cases hx : x.norm.kind = 0
        · simp [hx]
          refine scall_flat (sp_nsk y.norm) (by simp) (by simp) rfl ?_
          simp
          by_cases hy : y.norm.kind = 0
          · simp [hx, hy, retW_eq, encT_skip]
          · simp [hx, hy, retW_eq, encT_of]
        · simp [hx, retW_eq, encT_of]
      · rw [if_neg k11]
        simp [k12, k11, hl]
        by_cases k7 : t.kind = 7
        · simp [k7, hl]
          refine scall_pure (sp_own t (by omega)) (by simp) (by simp) ?_
          simp [retW_eq]
        · simp [k7]
          refine scall_pure (sp_own t (by omega)) (by simp) (by simp) ?_
          simp [retW_eq]
  · by_cases h1 : t.l.length = 1
    · obtain ⟨x, hl⟩ : ∃ x, t.l = [x] := by
        rcases hl : t.l with _ | ⟨x, _ | ⟨y, r⟩⟩ <;> simp [hl] at h1
        exact ⟨x, rfl⟩
      have wx : x.wt < t.wt := by rw [hwt, hl]; simp only [Tm.wts]; omega
      have mx : x ∈ t.l := by rw [hl]; simp
      rw [Tm.norm_one hl]
      by_cases k7 : t.kind = 7
      · rw [if_pos k7]
        simp [k7, hl]
        refine scall_pure (sp_nrm x (by omega)) (by simp) (by simp) ?_
        simp
        refine scall_flat (sp_nsk x.norm) (by simp) (by simp) rfl ?_
        simp
        by_cases hx : x.norm.kind = 0
        · simp [hx, retW_eq, encT_skip]
        · simp [hx, retW_eq, encT_of]
      · rw [if_neg k7]
        by_cases k12 : t.kind = 12
        · simp [k12, hl]
          refine scall_pure (sp_own t (by omega)) (by simp) (by simp) ?_
          simp [retW_eq]
        · by_cases k11 : t.kind = 11
          · simp [k12, k11, hl]
            refine scall_pure (sp_own t (by omega)) (by simp) (by simp) ?_
            simp [retW_eq]
          · simp [k12, k11, k7, hl]
            refine scall_pure (sp_own t (by omega)) (by simp) (by simp) ?_
            simp [retW_eq]
    · rw [Tm.norm_else h1 h2]
      have g1 : ¬ (t.l.length : Int) = 1 := by omega
      have g2 : ¬ (t.l.length : Int) = 2 := by omega
      by_cases k12 : t.kind = 12
      · simp [k12, g2, g1]
        refine scall_pure (sp_own t (by omega)) (by simp) (by simp) ?_
        simp [retW_eq]
      · by_cases k11 : t.kind = 11
        · simp [k12, k11, g2, g1]
          refine scall_pure (sp_own t (by omega)) (by simp) (by simp) ?_
          simp [retW_eq]
        · by_cases k7 : t.kind = 7
          · simp [k12, k11, k7, g1, g2]
            refine scall_pure (sp_own t (by omega)) (by simp) (by simp) ?_
            simp [retW_eq]
          · simp [k12, k11, k7, g1, g2]
            refine scall_pure (sp_own t (by omega)) (by simp) (by simp) ?_
            simp [retW_eq]
termination_by SizeOf.sizeOf t
decreasing_by all_goals exact Tm.lt_of_mem (by assumption)
end Go.Proofs.Ytkagfenchknjjaa
set_option linter.unusedVariables false
set_option linter.unusedSimpArgs false
namespace Go.Proofs.Ytkagfenchknjjaa
open Go Go.Am Go.RowKit
attribute [local simp] W85 W85_rs W85_b1 W85_b3 W85_b4 W85_b6 W85_b9 W85_b10 W85_b12 W85_b13 W85_b14 W85_k2 W85_k8 W85_k11 W85_c5 W85_c15 W85_l7 W84 W84_rs W84_c1 W62 W62_rs W41 W41_rs W41_c1 W41_c5 W41_k2 W41_b3 W41_r4

theorem sp_wlk (t : Tm) (hw : t.wt ≤ 137438953472) : Am.SpecY Try.prog 85 [.agg (encT t), .yld] (t.act.map fun x => [.agg (encT x)]) (.bool true) (.bool false) := by
  have hwt := t.wt_eq
  refine Am.SpecY.of_W (W := W85) Try.func85 (by kernel_rfl) (by kernel_rfl) (by kernel_rfl) Try.ntmps85 W85_eq (rs := [.tmp 4]) (by kernel_rfl) (by simp) rfl rfl ?_
  intro vs rest
  have body : ∀ (l : List Tm), (∀ x ∈ l, x ∈ t.l) → l.length ≤ 137438953472 → ∀ (K : St → Prop) (i : Nat) (vu : Nat → Nat), i ≤ l.length →
      (∀ l' h' vs' g' (x' : Nat), x' ≤ l.length → l.length - x' < l.length - i → Am.subT l' [(1, .yld), (26, .sl (l.map encT)), (27, .int .i64 l.length), (28, .int .i64 (x' : Nat))] → subA h' [] →
        g' = (⟨(Tm.acts (l.drop x')).map (fun x => [.agg (encT x)]) ++ rest, false⟩ : Am.G) → K ⟨Am.look l', hls h' vs', g'⟩) →
      W85_l7 Try.prog (retYK Try.prog [.tmp 4] (.bool true) (.bool false) rest) K ⟨Am.look [(1, .yld), (26, .sl (l.map encT)), (27, .int .i64 l.length), (28, .int .i64 (i : Nat))], hls [] vu, ⟨(Tm.acts (l.drop i)).map (fun x => [.agg (encT x)]) ++ rest, false⟩⟩ := by
    intro l hl hlen K i vu hi hK
    simp
    refine sIf_dec (fun h => ?_) (fun h => ?_)
    · have hx := hl _ (List.getElem_mem h)
      have hxw := Tm.wts_mem hx
      rw [Tm.acts_drop l i h]
      simp [h]
      refine scall_ylds ((Tm.acts (l.drop (i + 1))).map (fun x => [.agg (encT x)]) ++ rest) (sp_wlk l[i] (by omega)) (by simp) (by simp) (by simp) ?_ fun q => ?_
      · simp
        rw [wrap64 (by omega) (by omega)]
        exact hK _ _ _ _ (i + 1) h (by omega) (by simp) (by simp) rfl
      · simp [retYW]
    · have : l.drop i = [] := List.drop_of_length_le (by omega)
      rw [this]
      simp [retYW, Tm.acts_nil]
  rw [Tm.act_eq]
  have hl := Tm.wts_len t.l
  simp
  refine scall_yield _ (by simp) rfl (by simp) fun b => ?_
  cases b
  · simp [retYW]
  · simp
    by_cases k12 : t.kind = 12
    · have hm : (if 1 < (t.l.length : Int) then 1 else (t.l.length : Int)) = ((min 1 t.l.length : Nat) : Int) := by split <;> omega
      have hk : t.kidsA = t.l.take 1 := by simp [Tm.kidsA, k12]
      have hb := body (t.l.take 1) (by rw [← hk]; exact t.kidsA_sub) (by simp; omega)
      simp [k12]
      rw [slcV_to 9 _ _ _ _ hm (by simp; omega) (by simp)]
      simp
      refine sLoop_introG (fun i => i ≤ (t.l.take 1).length) (fun i => (t.l.take 1).length - i) _ _ _ 0 (by simp) (by simp) (by simp) (by simp [hk]) hb
    · by_cases k11 : t.kind = 11
      · have hk : t.kidsA = t.l := by simp [Tm.kidsA, k11]
        simp [k12, k11]
        exact sLoop_introG (fun i => i ≤ t.l.length) (fun i => t.l.length - i) _ _ _ 0 (by simp) (by simp) (by simp) (by simp [hk]) (body t.l (fun _ h => h) (by omega))
      · by_cases k7 : t.kind = 7
        · have hk : t.kidsA = t.l := by simp [Tm.kidsA, k7]
          simp [k12, k11, k7]
          exact sLoop_introG (fun i => i ≤ t.l.length) (fun i => t.l.length - i) _ _ _ 0 (by simp) (by simp) (by simp) (by simp [hk]) (body t.l (fun _ h => h) (by omega))
        · have : t.kidsA = [] := by simp [Tm.kidsA, k12, k11, k7]
          simp [k12, k11, k7, retYW, this, Tm.acts_nil]
termination_by SizeOf.sizeOf t
decreasing_by exact Tm.lt_of_mem hx
theorem sp_acv (t : Tm) (hw : t.wt ≤ 137438953472) : Am.SpecY Try.prog 84 [.yld, .elt (encT t) 0] (t.act.map fun x => [.agg (encT x)]) (.tup []) (.tup []) := by
  refine Am.SpecY.of_W (W := W84) Try.func84 (by kernel_rfl) (by kernel_rfl) (by kernel_rfl) Try.ntmps84 W84_eq (rs := []) (by kernel_rfl) (by simp) rfl rfl ?_
  intro vs rest
  simp
  refine scall_ylds rest (sp_wlk t hw) (by simp) (by simp) (by simp) ?_ fun q => ?_
  · simp [retYW]
  · simp [retYW]
theorem sp_atv (t : Tm) : Am.Spec Try.prog 62 [.agg (encT t)] (.func 84 [.elt (encT t) 0]) := by
  refine Am.Spec.of_W (W := W62) Try.func62 (by kernel_rfl) (by kernel_rfl) (by kernel_rfl) Try.ntmps62 W62_eq (rs := [.tmp 2]) (by kernel_rfl) (by simp) ?_
  intro vs
  simp [retW_eq]
theorem sp_wts (t : Tm) (hw : t.wt ≤ 137438953472) : Am.Spec Try.prog 41 [.agg (encT t)] (.sl (encI t.waits)) := by
  refine Am.Spec.of_W (W := W41) Try.func41 (by kernel_rfl) (by kernel_rfl) (by kernel_rfl) Try.ntmps41 W41_eq (rs := [.tmp 2]) (by kernel_rfl) (by simp) ?_
  intro vs
  simp
  refine scall_pure (sp_atv t) (by simp) (by simp) ?_
  simp
  have hal := t.act_len
  refine sRange_introA (α := Option Nat × List Int) (t.act.map fun x => [.agg (encT x)]) (.tup []) (.tup []) (fun i a => a.2 = wtsL (t.act.take i) ∧ (a.1 = none → a.2 = []))
    (fun a => match a.1 with
      | none => [(3, .box (vs 3 + 1) 41 [.nils])]
      | some v => [(3, .box (vs 3 + 1) 41 [.ref 15 v .o]), (15, .row v 3 1 (encI a.2))]) (none, []) (sp_acv t hw) (by simp) ⟨by simp [wtsL], fun _ => rfl⟩ (by simp) ?_ ?_
  · rintro i hi ⟨o, l⟩ vt Ψ ⟨hl, ho⟩ hn - - -
    refine ⟨by simp, ?_⟩
    simp only at hl ho
    have hi' : i < t.act.length := by simpa using hi
    have hlen : l.length ≤ i := by rw [hl]; refine Nat.le_trans (List.length_filterMap_le _ _) ?_; simp; omega
    cases o with
    | none =>
      have := ho rfl
      subst this
      simp
      refine sIf_dec (fun h => ?_) (fun h => ?_)
      · simp
        exact hn _ _ _ (some (vt 15 + 1), [(t.act[i]'hi').a]) ⟨by rw [wtsL_step _ _ hi', if_pos h, ← hl]; rfl, by simp⟩ (by simp [encI])
      · exact hn _ _ _ (none, []) ⟨by rw [wtsL_step _ _ hi', if_neg h, ← hl], by simp⟩ (by simp)
    | some v =>
      simp
      refine sIf_dec (fun h => ?_) (fun h => ?_)
      · simp
        have hle : (encI l).length = l.length := by simp [encI]
        rw [decide_eq_true (by omega)]
        simp
        exact hn _ _ _ (some (v + 1), l ++ [(t.act[i]'hi').a]) ⟨by rw [wtsL_step _ _ hi', if_pos h, ← hl], by simp⟩ (by simp [encI])
      · exact hn _ _ _ (some v, l) ⟨by rw [wtsL_step _ _ hi', if_neg h, ← hl], by simp⟩ (by simp)
  · rintro vt ⟨o, l⟩ ⟨hl, ho⟩
    simp only at hl ho
    have hlen : l.length ≤ t.wt := by rw [hl]; refine Nat.le_trans (List.length_filterMap_le _ _) ?_; simp; omega
    have hl : l = t.waits := by rw [hl]; simp [wtsL, Tm.waits]
    cases o with
    | none =>
      have := ho rfl
      subst this
      simp
      refine scall_pure (sp_cli [] (by simp) (by simp [closedLL]) (by simp)) (by simp) (by simp [closedLL]) ?_
      simp [retW_eq, ← hl, encI, closedLL]
    | some v =>
      simp
      refine scall_pure (sp_cli (encI l) (by simp [encI]) (by simp) (by simp [encI]; omega)) (by simp) (by simp) ?_
      simp [retW_eq, hl]
end Go.Proofs.Ytkagfenchknjjaa
set_option linter.unusedVariables false
set_option linter.unusedSimpArgs false
namespace Go.Proofs.Ytkagfenchknjjaa
open Go Go.Am Go.RowKit


end Go.Proofs.Ytkagfenchknjjaa
set_option linter.unusedVariables false
set_option linter.unusedSimpArgs false
namespace Go.Proofs.Ytkagfenchknjjaa
open Go Go.Am Go.RowKit


def enbH (v3 : Nat) (o : Option Nat) (l : List Stp3) : List (Nat × Blk) := match o with
  | none => [(3, .box v3 37 [.nils])]
  | some v => [(3, .box v3 37 [.ref 40 v .o]), (40, .row v 43 3 (l.map encS))]
end Go.Proofs.Ytkagfenchknjjaa
set_option linter.unusedVariables false
set_option linter.unusedSimpArgs false
namespace Go.Proofs.Ytkagfenchknjjaa
open Go Go.Am Go.RowKit


def tCh : Tm := .of 10 [.skip, .skip]
end Go.Proofs.Ytkagfenchknjjaa
