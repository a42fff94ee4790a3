import Derived.Test.YtkagfenchknjjaaCd
set_option linter.unusedVariables false
set_option linter.unusedSimpArgs false
namespace Go.Proofs.Ytkagfenchknjjaa
open Go Go.Am Go.RowKit

theorem sp_wlk (t : Tm) (hw : t.wt ≤ 137438953472) : Am.SpecY Try.prog 85 [.agg (encT t), .yld] (t.act.map fun x => [.agg (encT x)]) (.bool true) (.bool false) := by
  have hwt := t.wt_eq
  refine Am.SpecY.of_W (W := W85) Try.func85 (by kernel_rfl) (by kernel_rfl) (by kernel_rfl) Try.ntmps85 W85_eq (rs := [.tmp 4]) (by kernel_rfl) (by simp) rfl rfl ?_
  intro vs rest
  have body : ∀ (l : List Tm), (∀ x ∈ l, x ∈ t.l) → l.length ≤ 137438953472 → ∀ (K : St → Prop) (i : Nat) (vu : Nat → Nat), i ≤ l.length →
      (∀ l' h' vs' g' (x' : Nat), x' ≤ l.length → l.length - x' < l.length - i → Am.subT l' [(1, .yld), (26, .sl (l.map encT)), (27, .int .i64 l.length), (28, .int .i64 (x' : Nat))] → subA h' [] →
        g' = (⟨(Tm.acts (l.drop x')).map (fun x => [.agg (encT x)]) ++ rest, false⟩ : Am.G) → K ⟨Am.look l', hls h' vs', g'⟩) →
      W85_l7 Try.prog (retYK Try.prog [.tmp 4] (.bool true) (.bool false) rest) K ⟨Am.look [(1, .yld), (26, .sl (l.map encT)), (27, .int .i64 l.length), (28, .int .i64 (i : Nat))], hls [] vu, ⟨(Tm.acts (l.drop i)).map (fun x => [.agg (encT x)]) ++ rest, false⟩⟩ := by
    intro l hl hlen K i vu hi hK
    simp [W85, W85_rs, W85_b1, W85_b3, W85_b4, W85_b6, W85_b9, W85_b10, W85_b12, W85_b13, W85_b14, W85_k2, W85_k8, W85_k11, W85_c5, W85_c15, W85_l7]
    refine sIf_dec (fun h => ?_) (fun h => ?_)
    · have hx := hl _ (List.getElem_mem h)
      have hxw := Tm.wts_mem hx
      rw [Tm.acts_drop l i h]
      simp [W85, W85_rs, W85_b1, W85_b3, W85_b4, W85_b6, W85_b9, W85_b10, W85_b12, W85_b13, W85_b14, W85_k2, W85_k8, W85_k11, W85_c5, W85_c15, W85_l7, h]
      refine scall_ylds ((Tm.acts (l.drop (i + 1))).map (fun x => [.agg (encT x)]) ++ rest) (sp_wlk l[i] (by omega)) (by simp) (by simp) (by simp) ?_ fun q => ?_
      · simp [W85, W85_rs, W85_b1, W85_b3, W85_b4, W85_b6, W85_b9, W85_b10, W85_b12, W85_b13, W85_b14, W85_k2, W85_k8, W85_k11, W85_c5, W85_c15, W85_l7]
        rw [wrap64 (by omega) (by omega)]
        exact hK _ _ _ _ (i + 1) h (by omega) (by simp) (by simp) rfl
      · simp [W85, W85_rs, W85_b1, W85_b3, W85_b4, W85_b6, W85_b9, W85_b10, W85_b12, W85_b13, W85_b14, W85_k2, W85_k8, W85_k11, W85_c5, W85_c15, W85_l7, retYW]
    · have : l.drop i = [] := List.drop_of_length_le (by omega)
      rw [this]
      simp [W85, W85_rs, W85_b1, W85_b3, W85_b4, W85_b6, W85_b9, W85_b10, W85_b12, W85_b13, W85_b14, W85_k2, W85_k8, W85_k11, W85_c5, W85_c15, W85_l7, retYW, Tm.acts_nil]
  rw [Tm.act_eq]
  have hl := Tm.wts_len t.l
  simp [W85, W85_rs, W85_b1, W85_b3, W85_b4, W85_b6, W85_b9, W85_b10, W85_b12, W85_b13, W85_b14, W85_k2, W85_k8, W85_k11, W85_c5, W85_c15, W85_l7]
  refine scall_yield _ (by simp) rfl (by simp) fun b => ?_
  cases b
  · simp [W85, W85_rs, W85_b1, W85_b3, W85_b4, W85_b6, W85_b9, W85_b10, W85_b12, W85_b13, W85_b14, W85_k2, W85_k8, W85_k11, W85_c5, W85_c15, W85_l7, retYW]
  · simp [W85, W85_rs, W85_b1, W85_b3, W85_b4, W85_b6, W85_b9, W85_b10, W85_b12, W85_b13, W85_b14, W85_k2, W85_k8, W85_k11, W85_c5, W85_c15, W85_l7]
    by_cases k12 : t.kind = 12
    · have hm : (if 1 < (t.l.length : Int) then 1 else (t.l.length : Int)) = ((min 1 t.l.length : Nat) : Int) := by split <;> omega
      have hk : t.kidsA = t.l.take 1 := by simp [Tm.kidsA, k12]
      have hb := body (t.l.take 1) (by rw [← hk]; exact t.kidsA_sub) (by simp; omega)
      simp [W85, W85_rs, W85_b1, W85_b3, W85_b4, W85_b6, W85_b9, W85_b10, W85_b12, W85_b13, W85_b14, W85_k2, W85_k8, W85_k11, W85_c5, W85_c15, W85_l7, k12]
      rw [slcV_to 9 _ _ _ _ hm (by simp; omega) (by simp)]
      simp [W85, W85_rs, W85_b1, W85_b3, W85_b4, W85_b6, W85_b9, W85_b10, W85_b12, W85_b13, W85_b14, W85_k2, W85_k8, W85_k11, W85_c5, W85_c15, W85_l7]
      refine sLoop_introG (fun i => i ≤ (t.l.take 1).length) (fun i => (t.l.take 1).length - i) _ _ _ 0 (by simp) (by simp) (by simp) (by simp [hk]) hb
    · by_cases k11 : t.kind = 11
      · have hk : t.kidsA = t.l := by simp [Tm.kidsA, k11]
        simp [W85, W85_rs, W85_b1, W85_b3, W85_b4, W85_b6, W85_b9, W85_b10, W85_b12, W85_b13, W85_b14, W85_k2, W85_k8, W85_k11, W85_c5, W85_c15, W85_l7, k12, k11]
        exact sLoop_introG (fun i => i ≤ t.l.length) (fun i => t.l.length - i) _ _ _ 0 (by simp) (by simp) (by simp) (by simp [hk]) (body t.l (fun _ h => h) (by omega))
      · by_cases k7 : t.kind = 7
        · have hk : t.kidsA = t.l := by simp [Tm.kidsA, k7]
          simp [W85, W85_rs, W85_b1, W85_b3, W85_b4, W85_b6, W85_b9, W85_b10, W85_b12, W85_b13, W85_b14, W85_k2, W85_k8, W85_k11, W85_c5, W85_c15, W85_l7, k12, k11, k7]
          exact sLoop_introG (fun i => i ≤ t.l.length) (fun i => t.l.length - i) _ _ _ 0 (by simp) (by simp) (by simp) (by simp [hk]) (body t.l (fun _ h => h) (by omega))
        · have : t.kidsA = [] := by simp [Tm.kidsA, k12, k11, k7]
          simp [W85, W85_rs, W85_b1, W85_b3, W85_b4, W85_b6, W85_b9, W85_b10, W85_b12, W85_b13, W85_b14, W85_k2, W85_k8, W85_k11, W85_c5, W85_c15, W85_l7, k12, k11, k7, retYW, this, Tm.acts_nil]
termination_by SizeOf.sizeOf t
decreasing_by exact Tm.lt_of_mem hx
theorem sp_acv (t : Tm) (hw : t.wt ≤ 137438953472) : Am.SpecY Try.prog 84 [.yld, .elt (encT t) 0] (t.act.map fun x => [.agg (encT x)]) (.tup []) (.tup []) := by
  refine Am.SpecY.of_W (W := W84) Try.func84 (by kernel_rfl) (by kernel_rfl) (by kernel_rfl) Try.ntmps84 W84_eq (rs := []) (by kernel_rfl) (by simp) rfl rfl ?_
  intro vs rest
  simp [W84, W84_rs, W84_c1]
  refine scall_ylds rest (sp_wlk t hw) (by simp) (by simp) (by simp) ?_ fun q => ?_
  · simp [W84, W84_rs, W84_c1, retYW]
  · simp [W84, W84_rs, W84_c1, retYW]
theorem sp_atv (t : Tm) : Am.Spec Try.prog 62 [.agg (encT t)] (.func 84 [.elt (encT t) 0]) := by
  refine Am.Spec.of_W (W := W62) Try.func62 (by kernel_rfl) (by kernel_rfl) (by kernel_rfl) Try.ntmps62 W62_eq (rs := [.tmp 2]) (by kernel_rfl) (by simp) ?_
  intro vs
  simp [W62, W62_rs, retW_eq]
theorem sp_wts (t : Tm) (hw : t.wt ≤ 137438953472) : Am.Spec Try.prog 41 [.agg (encT t)] (.sl (encI t.waits)) := by
  refine Am.Spec.of_W (W := W41) Try.func41 (by kernel_rfl) (by kernel_rfl) (by kernel_rfl) Try.ntmps41 W41_eq (rs := [.tmp 2]) (by kernel_rfl) (by simp) ?_
  intro vs
  simp [W41, W41_rs, W41_c1, W41_c5, W41_k2, W41_b3, W41_r4]
  refine scall_pure (sp_atv t) (by simp) (by simp) ?_
  simp [W41, W41_rs, W41_c1, W41_c5, W41_k2, W41_b3, W41_r4]
  have hal := t.act_len
  refine sRange_introA (α := Option Nat × List Int) (t.act.map fun x => [.agg (encT x)]) (.tup []) (.tup []) (fun i a => a.2 = wtsL (t.act.take i) ∧ (a.1 = none → a.2 = []))
    (fun a => match a.1 with
      | none => [(3, .box (vs 3 + 1) 41 [.nils])]
      | some v => [(3, .box (vs 3 + 1) 41 [.ref 15 v .o]), (15, .row v 3 1 (encI a.2))]) (none, []) (sp_acv t hw) (by simp) ⟨by simp [wtsL], fun _ => rfl⟩ (by simp) ?_ ?_
  · rintro i hi ⟨o, l⟩ vt Ψ ⟨hl, ho⟩ hn - - -
    refine ⟨by simp, ?_⟩
    simp only at hl ho
    have hi' : i < t.act.length := by simpa using hi
    have hlen : l.length ≤ i := by rw [hl]; refine Nat.le_trans (List.length_filterMap_le _ _) ?_; simp; omega
    cases o with
    | none =>
      have := ho rfl
      subst this
      simp [W41, W41_rs, W41_c1, W41_c5, W41_k2, W41_b3, W41_r4]
      refine sIf_dec (fun h => ?_) (fun h => ?_)
      · simp [W41, W41_rs, W41_c1, W41_c5, W41_k2, W41_b3, W41_r4]
        exact hn _ _ _ (some (vt 15 + 1), [(t.act[i]'hi').a]) ⟨by rw [wtsL_step _ _ hi', if_pos h, ← hl]; rfl, by simp⟩ (by simp [encI])
      · exact hn _ _ _ (none, []) ⟨by rw [wtsL_step _ _ hi', if_neg h, ← hl], by simp⟩ (by simp)
    | some v =>
      simp [W41, W41_rs, W41_c1, W41_c5, W41_k2, W41_b3, W41_r4]
      refine sIf_dec (fun h => ?_) (fun h => ?_)
      · simp [W41, W41_rs, W41_c1, W41_c5, W41_k2, W41_b3, W41_r4]
        have hle : (encI l).length = l.length := by simp [encI]
        rw [decide_eq_true (by omega)]
        simp [W41, W41_rs, W41_c1, W41_c5, W41_k2, W41_b3, W41_r4]
        exact hn _ _ _ (some (v + 1), l ++ [(t.act[i]'hi').a]) ⟨by rw [wtsL_step _ _ hi', if_pos h, ← hl], by simp⟩ (by simp [encI])
      · exact hn _ _ _ (some v, l) ⟨by rw [wtsL_step _ _ hi', if_neg h, ← hl], by simp⟩ (by simp)
  · rintro vt ⟨o, l⟩ ⟨hl, ho⟩
    simp only at hl ho
    have hlen : l.length ≤ t.wt := by rw [hl]; refine Nat.le_trans (List.length_filterMap_le _ _) ?_; simp; omega
    have hl : l = t.waits := by rw [hl]; simp [wtsL, Tm.waits]
    cases o with
    | none =>
      have := ho rfl
      subst this
      simp [W41, W41_rs, W41_c1, W41_c5, W41_k2, W41_b3, W41_r4]
      refine scall_pure (sp_cli [] (by simp) (by simp [closedLL]) (by simp)) (by simp) (by simp [closedLL]) ?_
      simp [W41, W41_rs, W41_c1, W41_c5, W41_k2, W41_b3, W41_r4, retW_eq, ← hl, encI, closedLL]
    | some v =>
      simp [W41, W41_rs, W41_c1, W41_c5, W41_k2, W41_b3, W41_r4]
      refine scall_pure (sp_cli (encI l) (by simp [encI]) (by simp) (by simp [encI]; omega)) (by simp) (by simp) ?_
      simp [W41, W41_rs, W41_c1, W41_c5, W41_k2, W41_b3, W41_r4, retW_eq, hl]
end Go.Proofs.Ytkagfenchknjjaa
