import Derived.Test.YtkagfenchknjjaaPen
import Derived.Test.YtkagfenchknjjaaW0
import Derived.Test.YtkagfenchknjjaaW1
import Derived.Test.YtkagfenchknjjaaW10
import Derived.Test.YtkagfenchknjjaaW2
import Derived.Test.YtkagfenchknjjaaW3
import Derived.Test.YtkagfenchknjjaaW4
import Derived.Test.YtkagfenchknjjaaW5
import Derived.Test.YtkagfenchknjjaaW6
import Derived.Test.YtkagfenchknjjaaW7
import Derived.Test.YtkagfenchknjjaaW8
import Derived.Test.YtkagfenchknjjaaW9
set_option linter.unusedVariables false
set_option linter.unusedSimpArgs false
namespace Go.Proofs.Ytkagfenchknjjaa
open Go Go.Am Go.RowKit

theorem sp_sm (c : Int) : Am.Spec Try.prog 96 [.int .u8 c] (.bool (isSmall c)) := by
  refine Am.Spec.of_W (W := W96) Try.func96 (by kernel_rfl) (by kernel_rfl) (by kernel_rfl) Try.ntmps96 W96_eq (rs := [.tmp 2]) (by kernel_rfl) (by simp) ?_
  intro vs
  simp [W96, W96_rs, W96_c1, W96_c2]
  repeat' (first | (refine sIf_dec (fun h => ?_) (fun h => ?_) <;> (try simp [W96, W96_rs, W96_c1, W96_c2, retW_eq, *,  isSmall])) | (refine sGrd_dec (fun h => ?_) (fun h => ?_) <;> (try simp [W96, W96_rs, W96_c1, W96_c2, retW_eq, *,  isSmall])) | (refine sIf_ndec (fun h => ?_) (fun h => ?_) <;> (try simp [W96, W96_rs, W96_c1, W96_c2, retW_eq, *,  isSmall])) | (refine sGrd_ndec (fun h => ?_) (fun h => ?_) <;> (try simp [W96, W96_rs, W96_c1, W96_c2, retW_eq, *,  isSmall])) | (refine sIf_of (fun h => ?_) (fun h => ?_) <;> (try simp at h) <;> (try simp [W96, W96_rs, W96_c1, W96_c2, retW_eq, *,  isSmall])) | (refine sGrd_of (fun h => ?_) (fun h => ?_) <;> (try simp at h) <;> (try simp [W96, W96_rs, W96_c1, W96_c2, retW_eq, *,  isSmall])))
theorem sp_dg (c : Int) : Am.Spec Try.prog 107 [.int .u8 c] (.bool (isDigit c)) := by
  refine Am.Spec.of_W (W := W107) Try.func107 (by kernel_rfl) (by kernel_rfl) (by kernel_rfl) Try.ntmps107 W107_eq (rs := [.tmp 2]) (by kernel_rfl) (by simp) ?_
  intro vs
  simp [W107, W107_rs, W107_c1, W107_c2]
  repeat' (first | (refine sIf_dec (fun h => ?_) (fun h => ?_) <;> (try simp [W107, W107_rs, W107_c1, W107_c2, retW_eq, *,  isDigit])) | (refine sGrd_dec (fun h => ?_) (fun h => ?_) <;> (try simp [W107, W107_rs, W107_c1, W107_c2, retW_eq, *,  isDigit])) | (refine sIf_ndec (fun h => ?_) (fun h => ?_) <;> (try simp [W107, W107_rs, W107_c1, W107_c2, retW_eq, *,  isDigit])) | (refine sGrd_ndec (fun h => ?_) (fun h => ?_) <;> (try simp [W107, W107_rs, W107_c1, W107_c2, retW_eq, *,  isDigit])) | (refine sIf_of (fun h => ?_) (fun h => ?_) <;> (try simp at h) <;> (try simp [W107, W107_rs, W107_c1, W107_c2, retW_eq, *,  isDigit])) | (refine sGrd_of (fun h => ?_) (fun h => ?_) <;> (try simp at h) <;> (try simp [W107, W107_rs, W107_c1, W107_c2, retW_eq, *,  isDigit])))
theorem sp_inn (c : Int) : Am.Spec Try.prog 97 [.int .u8 c] (.bool (isInner c)) := by
  refine Am.Spec.of_W (W := W97) Try.func97 (by kernel_rfl) (by kernel_rfl) (by kernel_rfl) Try.ntmps97 W97_eq (rs := [.tmp 2]) (by kernel_rfl) (by simp) ?_
  intro vs
  simp [W97, W97_rs, W97_c1, W97_c2, W97_c3, W97_c4, W97_c5]
  refine scall_flat (sp_sm c) (by simp) (by simp) rfl ?_
  simp [W97, W97_rs, W97_c1, W97_c2, W97_c3, W97_c4, W97_c5]
  cases h1 : isSmall c
  · simp [W97, W97_rs, W97_c1, W97_c2, W97_c3, W97_c4, W97_c5]
    refine scall_flat (sp_dg c) (by simp) (by simp) rfl ?_
    simp [W97, W97_rs, W97_c1, W97_c2, W97_c3, W97_c4, W97_c5]
    cases h2 : isDigit c <;> simp [W97, W97_rs, W97_c1, W97_c2, W97_c3, W97_c4, W97_c5, retW_eq, isInner, h1, h2]
  · simp [W97, W97_rs, W97_c1, W97_c2, W97_c3, W97_c4, W97_c5, retW_eq, isInner, h1]
theorem sp_wd (c : Int) (f : Bool) : Am.Spec Try.prog 80 [.int .u8 c, .bool f] (.bool (isSmall c || (!f && (isDigit c || decide (c = 95))))) := by
  refine Am.Spec.of_W (W := W80) Try.func80 (by kernel_rfl) (by kernel_rfl) (by kernel_rfl) Try.ntmps80 W80_eq (rs := [.tmp 4]) (by kernel_rfl) (by simp) ?_
  intro vs
  simp [W80, W80_rs, W80_c1, W80_c2, W80_c3, W80_c4, W80_c5, W80_c6, W80_c7, W80_c8, W80_c9, W80_c10, W80_c11, W80_c12, W80_c13, W80_c14, W80_c15, W80_c16]
  repeat' (first | (refine sIf_dec (fun h => ?_) (fun h => ?_) <;> (try simp [W80, W80_rs, W80_c1, W80_c2, W80_c3, W80_c4, W80_c5, W80_c6, W80_c7, W80_c8, W80_c9, W80_c10, W80_c11, W80_c12, W80_c13, W80_c14, W80_c15, W80_c16, retW_eq, *,  isSmall, isDigit])) | (refine sGrd_dec (fun h => ?_) (fun h => ?_) <;> (try simp [W80, W80_rs, W80_c1, W80_c2, W80_c3, W80_c4, W80_c5, W80_c6, W80_c7, W80_c8, W80_c9, W80_c10, W80_c11, W80_c12, W80_c13, W80_c14, W80_c15, W80_c16, retW_eq, *,  isSmall, isDigit])) | (refine sIf_ndec (fun h => ?_) (fun h => ?_) <;> (try simp [W80, W80_rs, W80_c1, W80_c2, W80_c3, W80_c4, W80_c5, W80_c6, W80_c7, W80_c8, W80_c9, W80_c10, W80_c11, W80_c12, W80_c13, W80_c14, W80_c15, W80_c16, retW_eq, *,  isSmall, isDigit])) | (refine sGrd_ndec (fun h => ?_) (fun h => ?_) <;> (try simp [W80, W80_rs, W80_c1, W80_c2, W80_c3, W80_c4, W80_c5, W80_c6, W80_c7, W80_c8, W80_c9, W80_c10, W80_c11, W80_c12, W80_c13, W80_c14, W80_c15, W80_c16, retW_eq, *,  isSmall, isDigit])) | (refine sIf_of (fun h => ?_) (fun h => ?_) <;> (try simp at h) <;> (try simp [W80, W80_rs, W80_c1, W80_c2, W80_c3, W80_c4, W80_c5, W80_c6, W80_c7, W80_c8, W80_c9, W80_c10, W80_c11, W80_c12, W80_c13, W80_c14, W80_c15, W80_c16, retW_eq, *,  isSmall, isDigit])) | (refine sGrd_of (fun h => ?_) (fun h => ?_) <;> (try simp at h) <;> (try simp [W80, W80_rs, W80_c1, W80_c2, W80_c3, W80_c4, W80_c5, W80_c6, W80_c7, W80_c8, W80_c9, W80_c10, W80_c11, W80_c12, W80_c13, W80_c14, W80_c15, W80_c16, retW_eq, *,  isSmall, isDigit])))
  all_goals (first | omega | skip)
theorem sp_inr (n lo hi : Int) : Am.Spec Try.prog 78 [.int .i64 n, .int .i64 lo, .int .i64 hi] (.bool (decide (lo ≤ n) && decide (n < hi))) := by
  refine Am.Spec.of_W (W := W78) Try.func78 (by kernel_rfl) (by kernel_rfl) (by kernel_rfl) Try.ntmps78 W78_eq (rs := [.tmp 6]) (by kernel_rfl) (by simp) ?_
  intro vs
  simp [W78, W78_rs, W78_c1, W78_c2, W78_c3]
  repeat' (first | (refine sIf_dec (fun h => ?_) (fun h => ?_) <;> (try simp [W78, W78_rs, W78_c1, W78_c2, W78_c3, retW_eq, *])) | (refine sGrd_dec (fun h => ?_) (fun h => ?_) <;> (try simp [W78, W78_rs, W78_c1, W78_c2, W78_c3, retW_eq, *])) | (refine sIf_ndec (fun h => ?_) (fun h => ?_) <;> (try simp [W78, W78_rs, W78_c1, W78_c2, W78_c3, retW_eq, *])) | (refine sGrd_ndec (fun h => ?_) (fun h => ?_) <;> (try simp [W78, W78_rs, W78_c1, W78_c2, W78_c3, retW_eq, *])) | (refine sIf_of (fun h => ?_) (fun h => ?_) <;> (try simp at h) <;> (try simp [W78, W78_rs, W78_c1, W78_c2, W78_c3, retW_eq, *])) | (refine sGrd_of (fun h => ?_) (fun h => ?_) <;> (try simp at h) <;> (try simp [W78, W78_rs, W78_c1, W78_c2, W78_c3, retW_eq, *])))
theorem sp_chd (k : Int) : Am.Spec Try.prog 99 [.int .i64 k] (.int .i64 (kids k)) := by
  refine Am.Spec.of_W (W := W99) Try.func99 (by kernel_rfl) (by kernel_rfl) (by kernel_rfl) Try.ntmps99 W99_eq (rs := [.tmp 2]) (by kernel_rfl) (by simp) ?_
  intro vs
  simp [W99, W99_rs, W99_b1, W99_b2, W99_b3, W99_b6, W99_c4, W99_c5, W99_c7, W99_c8]
  repeat' (first | (refine sIf_dec (fun h => ?_) (fun h => ?_) <;> (try simp [W99, W99_rs, W99_b1, W99_b2, W99_b3, W99_b6, W99_c4, W99_c5, W99_c7, W99_c8, retW_eq, *,  kids])) | (refine sGrd_dec (fun h => ?_) (fun h => ?_) <;> (try simp [W99, W99_rs, W99_b1, W99_b2, W99_b3, W99_b6, W99_c4, W99_c5, W99_c7, W99_c8, retW_eq, *,  kids])) | (refine sIf_ndec (fun h => ?_) (fun h => ?_) <;> (try simp [W99, W99_rs, W99_b1, W99_b2, W99_b3, W99_b6, W99_c4, W99_c5, W99_c7, W99_c8, retW_eq, *,  kids])) | (refine sGrd_ndec (fun h => ?_) (fun h => ?_) <;> (try simp [W99, W99_rs, W99_b1, W99_b2, W99_b3, W99_b6, W99_c4, W99_c5, W99_c7, W99_c8, retW_eq, *,  kids])) | (refine sIf_of (fun h => ?_) (fun h => ?_) <;> (try simp at h) <;> (try simp [W99, W99_rs, W99_b1, W99_b2, W99_b3, W99_b6, W99_c4, W99_c5, W99_c7, W99_c8, retW_eq, *,  kids])) | (refine sGrd_of (fun h => ?_) (fun h => ?_) <;> (try simp at h) <;> (try simp [W99, W99_rs, W99_b1, W99_b2, W99_b3, W99_b6, W99_c4, W99_c5, W99_c7, W99_c8, retW_eq, *,  kids])))
theorem sp_num (v st p k n : Int) : Am.Spec Try.prog 74 [.agg [.int .i64 v, .int .i64 st, .int .i64 p], .int .i64 k, .int .i64 n] (.bool (numOk v st p k n)) := by
  refine Am.Spec.of_W (W := W74) Try.func74 (by kernel_rfl) (by kernel_rfl) (by kernel_rfl) Try.ntmps74 W74_eq (rs := [.tmp 6]) (by kernel_rfl) (by simp) ?_
  intro vs
  simp [W74, W74_rs, W74_c1, W74_c2, W74_c3, W74_c4, W74_c6, W74_c7, W74_c8, W74_c9, W74_c11, W74_c12, W74_c13, W74_c14, W74_c16, W74_c17, W74_c18, W74_c19, W74_b5, W74_b10, W74_b15, W74_b20, W74_b21, W74_b22, W74_b23, W74_b24, W74_b25, W74_b26]
  repeat' (first | (refine sIf_dec (fun h => ?_) (fun h => ?_) <;> (try simp [W74, W74_rs, W74_c1, W74_c2, W74_c3, W74_c4, W74_c6, W74_c7, W74_c8, W74_c9, W74_c11, W74_c12, W74_c13, W74_c14, W74_c16, W74_c17, W74_c18, W74_c19, W74_b5, W74_b10, W74_b15, W74_b20, W74_b21, W74_b22, W74_b23, W74_b24, W74_b25, W74_b26, retW_eq, *,  numOk])) | (refine sGrd_dec (fun h => ?_) (fun h => ?_) <;> (try simp [W74, W74_rs, W74_c1, W74_c2, W74_c3, W74_c4, W74_c6, W74_c7, W74_c8, W74_c9, W74_c11, W74_c12, W74_c13, W74_c14, W74_c16, W74_c17, W74_c18, W74_c19, W74_b5, W74_b10, W74_b15, W74_b20, W74_b21, W74_b22, W74_b23, W74_b24, W74_b25, W74_b26, retW_eq, *,  numOk])) | (refine sIf_ndec (fun h => ?_) (fun h => ?_) <;> (try simp [W74, W74_rs, W74_c1, W74_c2, W74_c3, W74_c4, W74_c6, W74_c7, W74_c8, W74_c9, W74_c11, W74_c12, W74_c13, W74_c14, W74_c16, W74_c17, W74_c18, W74_c19, W74_b5, W74_b10, W74_b15, W74_b20, W74_b21, W74_b22, W74_b23, W74_b24, W74_b25, W74_b26, retW_eq, *,  numOk])) | (refine sGrd_ndec (fun h => ?_) (fun h => ?_) <;> (try simp [W74, W74_rs, W74_c1, W74_c2, W74_c3, W74_c4, W74_c6, W74_c7, W74_c8, W74_c9, W74_c11, W74_c12, W74_c13, W74_c14, W74_c16, W74_c17, W74_c18, W74_c19, W74_b5, W74_b10, W74_b15, W74_b20, W74_b21, W74_b22, W74_b23, W74_b24, W74_b25, W74_b26, retW_eq, *,  numOk])) | (refine sIf_of (fun h => ?_) (fun h => ?_) <;> (try simp at h) <;> (try simp [W74, W74_rs, W74_c1, W74_c2, W74_c3, W74_c4, W74_c6, W74_c7, W74_c8, W74_c9, W74_c11, W74_c12, W74_c13, W74_c14, W74_c16, W74_c17, W74_c18, W74_c19, W74_b5, W74_b10, W74_b15, W74_b20, W74_b21, W74_b22, W74_b23, W74_b24, W74_b25, W74_b26, retW_eq, *,  numOk])) | (refine sGrd_of (fun h => ?_) (fun h => ?_) <;> (try simp at h) <;> (try simp [W74, W74_rs, W74_c1, W74_c2, W74_c3, W74_c4, W74_c6, W74_c7, W74_c8, W74_c9, W74_c11, W74_c12, W74_c13, W74_c14, W74_c16, W74_c17, W74_c18, W74_c19, W74_b5, W74_b10, W74_b15, W74_b20, W74_b21, W74_b22, W74_b23, W74_b24, W74_b25, W74_b26, retW_eq, *,  numOk])))
theorem sp_non (x : Ex) : Am.Spec Try.prog 75 [.agg (encE x)] (.bool x.none) := by
  refine Am.Spec.of_W (W := W75) Try.func75 (by kernel_rfl) (by kernel_rfl) (by kernel_rfl) Try.ntmps75 W75_eq (rs := [.tmp 2]) (by kernel_rfl) (by simp) ?_
  intro vs
  simp [W75, W75_rs, W75_c1, W75_c2, W75_c3, W75_c4, W75_c5, W75_c6, W75_c7, W75_c8, W75_c9, W75_c10]
  repeat' (first | (refine sIf_dec (fun h => ?_) (fun h => ?_) <;> (try simp [W75, W75_rs, W75_c1, W75_c2, W75_c3, W75_c4, W75_c5, W75_c6, W75_c7, W75_c8, W75_c9, W75_c10, retW_eq, *,  Ex.none])) | (refine sGrd_dec (fun h => ?_) (fun h => ?_) <;> (try simp [W75, W75_rs, W75_c1, W75_c2, W75_c3, W75_c4, W75_c5, W75_c6, W75_c7, W75_c8, W75_c9, W75_c10, retW_eq, *,  Ex.none])) | (refine sIf_ndec (fun h => ?_) (fun h => ?_) <;> (try simp [W75, W75_rs, W75_c1, W75_c2, W75_c3, W75_c4, W75_c5, W75_c6, W75_c7, W75_c8, W75_c9, W75_c10, retW_eq, *,  Ex.none])) | (refine sGrd_ndec (fun h => ?_) (fun h => ?_) <;> (try simp [W75, W75_rs, W75_c1, W75_c2, W75_c3, W75_c4, W75_c5, W75_c6, W75_c7, W75_c8, W75_c9, W75_c10, retW_eq, *,  Ex.none])) | (refine sIf_of (fun h => ?_) (fun h => ?_) <;> (try simp at h) <;> (try simp [W75, W75_rs, W75_c1, W75_c2, W75_c3, W75_c4, W75_c5, W75_c6, W75_c7, W75_c8, W75_c9, W75_c10, retW_eq, *,  Ex.none])) | (refine sGrd_of (fun h => ?_) (fun h => ?_) <;> (try simp at h) <;> (try simp [W75, W75_rs, W75_c1, W75_c2, W75_c3, W75_c4, W75_c5, W75_c6, W75_c7, W75_c8, W75_c9, W75_c10, retW_eq, *,  Ex.none])))
theorem sp_shp : Am.Spec Try.prog 73 [] (.sl shapes) := by
  refine Am.Spec.of_W (W := W73) Try.func73 (by kernel_rfl) (by kernel_rfl) (by kernel_rfl) Try.ntmps73 W73_eq (rs := [.tmp 0]) (by kernel_rfl) (by simp) ?_
  intro vs
  simp [W73, W73_rs, retW_eq, shapes, shapeOf]
theorem sp_idx (l : List ByteArray) (s : ByteArray) (hl : l.length < 9223372036854775807) : Am.Spec Try.prog 114 [.sl (l.map fun x => [.str x]), .str s] (.int .i64 (idxB l s)) := by
  refine Am.Spec.of_W (W := W114) Try.func114 (by kernel_rfl) (by kernel_rfl) (by kernel_rfl) Try.ntmps114 W114_eq (rs := [.tmp 4]) (by kernel_rfl) (by simp) ?_
  intro vs
  simp [W114, W114_rs, W114_k1, W114_b2, W114_b3, W114_b4, W114_l5]
  refine sLoop_intro (fun i => i ≤ l.length ∧ idxB l s = if idxB (l.drop i) s = -1 then -1 else i + idxB (l.drop i) s) (fun i => l.length - i)
    (fun i => [(0, .sl (l.map fun x => [.str x])), (1, .str s), (7, .int .i64 l.length), (8, .int .i64 (i : Nat))]) (fun _ => []) 0 (by simp) (by simp) (by simp) ?_
  intro L i vs ⟨hi, hx⟩ hL
  simp [W114, W114_rs, W114_k1, W114_b2, W114_b3, W114_b4, W114_l5]
  refine sIf_dec (fun h => ?_) (fun h => ?_)
  · simp [W114, W114_rs, W114_k1, W114_b2, W114_b3, W114_b4, W114_l5, h]
    refine sIf_dec (fun e => ?_) (fun e => ?_)
    · simp [W114, W114_rs, W114_k1, W114_b2, W114_b3, W114_b4, W114_l5, retW_eq]
      rw [hx, idxB_at l s i h e.symm]
      simp
    · simp [W114, W114_rs, W114_k1, W114_b2, W114_b3, W114_b4, W114_l5]
      rw [wrap64 (by omega) (by omega)]
      exact hL _ _ _ (i + 1) ⟨h, by rw [hx, idxB_step l s i h fun q => e q.symm]⟩ (by omega) (by simp) (by simp)
  · simp [W114, W114_rs, W114_k1, W114_b2, W114_b3, W114_b4, W114_l5, retW_eq]
    have : l.drop i = [] := List.drop_of_length_le (by omega)
    rw [this] at hx
    simpa [idxB] using hx.symm
theorem sp_cts (l : List ByteArray) (s : ByteArray) (hl : l.length < 9223372036854775807) : Am.Spec Try.prog 105 [.sl (l.map fun x => [.str x]), .str s] (.bool (decide (0 ≤ idxB l s))) := by
  refine Am.Spec.of_W (W := W105) Try.func105 (by kernel_rfl) (by kernel_rfl) (by kernel_rfl) Try.ntmps105 W105_eq (rs := [.tmp 4]) (by kernel_rfl) (by simp) ?_
  intro vs
  simp [W105, W105_rs, W105_c1]
  refine scall_flat (sp_idx l s hl) (by simp) (by simp) rfl ?_
  simp [W105, W105_rs, W105_c1, retW_eq]
theorem sp_wds : Am.Spec Try.prog 106 [] (.sl (words.map fun x => [.str x])) := by
  refine Am.Spec.of_W (W := W106) Try.func106 (by kernel_rfl) (by kernel_rfl) (by kernel_rfl) Try.ntmps106 W106_eq (rs := [.tmp 0]) (by kernel_rfl) (by simp) ?_
  intro vs
  simp [W106, W106_rs, retW_eq, words]
theorem sp_key (s : ByteArray) : Am.Spec Try.prog 95 [.str s] (.bool (isKey s)) := by
  refine Am.Spec.of_W (W := W95) Try.func95 (by kernel_rfl) (by kernel_rfl) (by kernel_rfl) Try.ntmps95 W95_eq (rs := [.tmp 2]) (by kernel_rfl) (by simp) ?_
  intro vs
  simp [W95, W95_rs, W95_c1, W95_c2]
  refine scall_pure sp_wds (by simp) (by simp) ?_
  simp [W95, W95_rs, W95_c1, W95_c2]
  refine scall_flat (sp_cts words s (by simp [words])) (by simp) (by simp [words]) rfl ?_
  simp [W95, W95_rs, W95_c1, W95_c2, retW_eq, isKey]
end Go.Proofs.Ytkagfenchknjjaa
