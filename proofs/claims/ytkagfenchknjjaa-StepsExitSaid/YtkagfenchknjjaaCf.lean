import Derived.Test.YtkagfenchknjjaaCe
set_option linter.unusedVariables false
set_option linter.unusedSimpArgs false
namespace Go.Proofs.Ytkagfenchknjjaa
open Go Go.Am Go.RowKit

theorem sp_blw (t : Tm) (p : List Int) (w : Bool) (i : Nat) (hi : i < t.l.length) (hp : p.length ≤ 137438953471) (hw : t.wt ≤ 137438953472) : Am.Spec Try.prog 94 [.agg (encP t p w), .int .i64 (i : Nat)] (.agg (encP t.l[i] (p ++ [(i : Int)]) (kidW t.kind t.l[i] w))) := by
  have hxw := Tm.wts_mem (List.getElem_mem hi)
  have hwt := t.wt_eq
  refine Am.Spec.of_W (W := W94) Try.func94 (by kernel_rfl) (by kernel_rfl) (by kernel_rfl) Try.ntmps94 W94_eq (rs := [.cell 4 83]) (by kernel_rfl) (by simp) ?_
  intro vs
  simp [W94, W94_rs, W94_k1, W94_c2, W94_c4, W94_b3, hi]
  refine scall0_row (rw_cli p (by omega)) (by simp) (by simp) ?_
  simp [W94, W94_rs, W94_k1, W94_c2, W94_c4, W94_b3]
  rw [decide_eq_true (by omega)]
  simp [W94, W94_rs, W94_k1, W94_c2, W94_c4, W94_b3]
  by_cases k7 : t.kind = 7
  · simp [W94, W94_rs, W94_k1, W94_c2, W94_c4, W94_b3, k7]
    refine scall_pure (sp_wts t.l[i] (by omega)) (by simp) (by simp) ?_
    simp [W94, W94_rs, W94_k1, W94_c2, W94_c4, W94_b3, retW_eq, encI_snoc]
    simp [encP, kidW, k7, closedL_append, closedL]
  · simp [W94, W94_rs, W94_k1, W94_c2, W94_c4, W94_b3, k7, retW_eq, encI_snoc]
    simp [encP, kidW, k7, closedL_append, closedL]
theorem sp_wlp (t : Tm) (p : List Int) (w : Bool) (hw : p.length + t.wt ≤ 137438953471) : Am.SpecY Try.prog 72 [.agg (encP t p w), .yld] ((t.pls p w).map encPl) (.bool true) (.bool false) := by
  have hwt := t.wt_eq
  have hlw := Tm.wts_len t.l
  have hkn := t.kidsP_le
  refine Am.SpecY.of_W (W := W72) Try.func72 (by kernel_rfl) (by kernel_rfl) (by kernel_rfl) Try.ntmps72 W72_eq (rs := [.tmp 4]) (by kernel_rfl) (by simp) rfl rfl ?_
  intro vs rest
  have body : ∀ (v : Nat) (K : St → Prop) (i : Nat) (vu : Nat → Nat), i ≤ t.kidsP →
      (∀ l' h' vs' g' (x' : Nat), x' ≤ t.kidsP → t.kidsP - x' < t.kidsP - i → Am.subT l' [(1, .yld), (2, .ref 2 v (.p 0)), (25, .int .i64 t.kidsP), (26, .int .i64 (x' : Nat))] → subA h' [(2, .box v 83 (encP t p w))] →
        g' = (⟨(Tm.plsL t.kind ((t.l.take t.kidsP).drop x') p w x').map encPl ++ rest, false⟩ : Am.G) → K ⟨Am.look l', hls h' vs', g'⟩) →
      W72_l8 Try.prog (retYK Try.prog [.tmp 4] (.bool true) (.bool false) rest) K ⟨Am.look [(1, .yld), (2, .ref 2 v (.p 0)), (25, .int .i64 t.kidsP), (26, .int .i64 (i : Nat))], hls [(2, .box v 83 (encP t p w))] vu, ⟨(Tm.plsL t.kind ((t.l.take t.kidsP).drop i) p w i).map encPl ++ rest, false⟩⟩ := by
    intro v K i vu hi hK
    simp [W72, W72_rs, W72_b1, W72_b3, W72_b4, W72_b7, W72_b10, W72_b11, W72_b12, W72_b14, W72_b15, W72_k2, W72_k9, W72_k13, W72_c5, W72_c6, W72_c16, W72_l8]
    refine sIf_dec (fun h => ?_) (fun h => ?_)
    · have hlt : i < t.l.length := by omega
      have hx := List.getElem_mem hlt
      have hxw := Tm.wts_mem hx
      have hg : (t.l.take t.kidsP)[i]'(by simp; omega) = t.l[i] := by simp
      rw [Tm.plsL_drop _ _ _ _ i (by simp; omega), hg]
      simp [W72, W72_rs, W72_b1, W72_b3, W72_b4, W72_b7, W72_b10, W72_b11, W72_b12, W72_b14, W72_b15, W72_k2, W72_k9, W72_k13, W72_c5, W72_c6, W72_c16, W72_l8, h]
      refine scall_pure (sp_blw t p w i hlt (by omega) (by omega)) (by simp) (by simp) ?_
      simp [W72, W72_rs, W72_b1, W72_b3, W72_b4, W72_b7, W72_b10, W72_b11, W72_b12, W72_b14, W72_b15, W72_k2, W72_k9, W72_k13, W72_c5, W72_c6, W72_c16, W72_l8]
      refine scall_ylds ((Tm.plsL t.kind ((t.l.take t.kidsP).drop (i + 1)) p w (i + 1)).map encPl ++ rest) (sp_wlp t.l[i] (p ++ [(i : Int)]) (kidW t.kind t.l[i] w) (by simp; omega)) (by simp) (by simp) (by simp) ?_ fun q => ?_
      · simp [W72, W72_rs, W72_b1, W72_b3, W72_b4, W72_b7, W72_b10, W72_b11, W72_b12, W72_b14, W72_b15, W72_k2, W72_k9, W72_k13, W72_c5, W72_c6, W72_c16, W72_l8]
        rw [wrap64 (by omega) (by omega)]
        exact hK _ _ _ _ (i + 1) h (by omega) (by simp) (by simp) rfl
      · simp [W72, W72_rs, W72_b1, W72_b3, W72_b4, W72_b7, W72_b10, W72_b11, W72_b12, W72_b14, W72_b15, W72_k2, W72_k9, W72_k13, W72_c5, W72_c6, W72_c16, W72_l8, retYW]
    · have : (t.l.take t.kidsP).drop i = [] := List.drop_of_length_le (by simp; omega)
      rw [this]
      simp [W72, W72_rs, W72_b1, W72_b3, W72_b4, W72_b7, W72_b10, W72_b11, W72_b12, W72_b14, W72_b15, W72_k2, W72_k9, W72_k13, W72_c5, W72_c6, W72_c16, W72_l8, retYW, Tm.plsL]
  rw [Tm.pls_eq]
  simp [W72, W72_rs, W72_b1, W72_b3, W72_b4, W72_b7, W72_b10, W72_b11, W72_b12, W72_b14, W72_b15, W72_k2, W72_k9, W72_k13, W72_c5, W72_c6, W72_c16, W72_l8, encPl]
  refine scall_yield _ (by simp) rfl (by simp) fun b => ?_
  cases b
  · simp [W72, W72_rs, W72_b1, W72_b3, W72_b4, W72_b7, W72_b10, W72_b11, W72_b12, W72_b14, W72_b15, W72_k2, W72_k9, W72_k13, W72_c5, W72_c6, W72_c16, W72_l8, retYW]
  · simp [W72, W72_rs, W72_b1, W72_b3, W72_b4, W72_b7, W72_b10, W72_b11, W72_b12, W72_b14, W72_b15, W72_k2, W72_k9, W72_k13, W72_c5, W72_c6, W72_c16, W72_l8]
    by_cases k12 : t.kind = 12
    · have hk : t.kidsP = min t.l.length 1 := by simp [Tm.kidsP, k12]
      have hm : (if 1 < (t.l.length : Int) then 1 else (t.l.length : Int)) = (t.kidsP : Int) := by rw [hk]; split <;> omega
      simp [W72, W72_rs, W72_b1, W72_b3, W72_b4, W72_b7, W72_b10, W72_b11, W72_b12, W72_b14, W72_b15, W72_k2, W72_k9, W72_k13, W72_c5, W72_c6, W72_c16, W72_l8, k12]
      rw [hm]
      exact sLoop_introG (fun i => i ≤ t.kidsP) (fun i => t.kidsP - i) _ _ _ 0 (by simp) (by simp) (by simp) (by simp [k12]) (body (vs 2 + 1))
    · by_cases k7 : t.kind = 7
      · have hk : t.kidsP = min t.l.length 1 := by simp [Tm.kidsP, k7]
        have hm : (if 1 < (t.l.length : Int) then 1 else (t.l.length : Int)) = (t.kidsP : Int) := by rw [hk]; split <;> omega
        simp [W72, W72_rs, W72_b1, W72_b3, W72_b4, W72_b7, W72_b10, W72_b11, W72_b12, W72_b14, W72_b15, W72_k2, W72_k9, W72_k13, W72_c5, W72_c6, W72_c16, W72_l8, k12, k7]
        rw [hm]
        exact sLoop_introG (fun i => i ≤ t.kidsP) (fun i => t.kidsP - i) _ _ _ 0 (by simp) (by simp) (by simp) (by simp [k7]) (body (vs 2 + 1))
      · by_cases k11 : t.kind = 11
        · have hk : t.kidsP = t.l.length := by simp [Tm.kidsP, k11]
          simp [W72, W72_rs, W72_b1, W72_b3, W72_b4, W72_b7, W72_b10, W72_b11, W72_b12, W72_b14, W72_b15, W72_k2, W72_k9, W72_k13, W72_c5, W72_c6, W72_c16, W72_l8, k12, k7, k11]
          exact sLoop_introG (fun i => i ≤ t.kidsP) (fun i => t.kidsP - i) _ _ _ 0 (by simp) (by simp [hk]) (by simp) (by simp [k11]) (body (vs 2 + 1))
        · have hk : t.kidsP = 0 := by simp [Tm.kidsP, k12, k7, k11]
          simp [W72, W72_rs, W72_b1, W72_b3, W72_b4, W72_b7, W72_b10, W72_b11, W72_b12, W72_b14, W72_b15, W72_k2, W72_k9, W72_k13, W72_c5, W72_c6, W72_c16, W72_l8, k12, k7, k11]
          exact sLoop_introG (fun i => i ≤ t.kidsP) (fun i => t.kidsP - i) _ _ _ 0 (by simp) (by simp [hk]) (by simp) (by simp) (body (vs 2 + 1))
termination_by SizeOf.sizeOf t
decreasing_by exact Tm.lt_of_mem hx
theorem sp_pla (t : Tm) (hw : t.wt ≤ 137438953471) : Am.SpecY Try.prog 71 [.yld, .elt (encT t) 0] ((t.pls [] (decide (0 < t.waits.length))).map encPl) (.tup []) (.tup []) := by
  refine Am.SpecY.of_W (W := W71) Try.func71 (by kernel_rfl) (by kernel_rfl) (by kernel_rfl) Try.ntmps71 W71_eq (rs := []) (by kernel_rfl) (by simp) rfl rfl ?_
  intro vs rest
  simp [W71, W71_rs, W71_c1, W71_c2]
  refine scall0_pure (sp_wts t (by omega)) (by simp) (by simp) ?_
  simp [W71, W71_rs, W71_c1, W71_c2]
  refine scall_ylds rest (sp_wlp t [] (decide (0 < t.waits.length)) (by simpa using hw)) (by simp [encP, encI]) (by simp) (by simp) ?_ fun q => ?_
  · simp [W71, W71_rs, W71_c1, W71_c2, retYW]
  · simp [W71, W71_rs, W71_c1, W71_c2, retYW]
theorem sp_pls (t : Tm) : Am.Spec Try.prog 48 [.agg (encT t)] (.func 71 [.elt (encT t) 0]) := by
  refine Am.Spec.of_W (W := W48) Try.func48 (by kernel_rfl) (by kernel_rfl) (by kernel_rfl) Try.ntmps48 W48_eq (rs := [.tmp 2]) (by kernel_rfl) (by simp) ?_
  intro vs
  simp [W48, W48_rs, retW_eq]
end Go.Proofs.Ytkagfenchknjjaa
