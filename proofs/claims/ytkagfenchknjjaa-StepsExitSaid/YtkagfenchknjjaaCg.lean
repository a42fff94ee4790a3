import Derived.Test.YtkagfenchknjjaaCf
set_option linter.unusedVariables false
set_option linter.unusedSimpArgs false
namespace Go.Proofs.Ytkagfenchknjjaa
open Go Go.Am Go.RowKit

def enbH (v3 : Nat) (o : Option Nat) (l : List Stp3) : List (Nat × Blk) := match o with
  | none => [(3, .box v3 37 [.nils])]
  | some v => [(3, .box v3 37 [.ref 40 v .o]), (40, .row v 43 3 (l.map encS))]
theorem enb_body (v3 v4 : Nat) (x : Tm × List Int × Bool) (hx : x.2.1.length ≤ 137438953472) (l0 : List Stp3) (hl : l0.length ≤ 137438953472) (n : Nat) (hn : n ≤ 2) (Ψ : Exit → St → Prop)
    (hΨ : ∀ τ' L vs' (a : Option Nat × List Stp3), (a.2 = l0 ++ stp x.1.kind x.2.1 n ∧ (a.1 = none → a.2 = [])) → subA L (enbH v3 a.1 a.2) → Ψ .normal ⟨τ', hls L vs', noG⟩)
    (K : St → Prop) (c : Nat × Option Nat) (vu : Nat → Nat) (hc : c.1 ≤ n ∧ (c.2 = none → c.1 = 0 ∧ l0 = []))
    (hK : ∀ l' h' vs' (c' : Nat × Option Nat), (c'.1 ≤ n ∧ (c'.2 = none → c'.1 = 0 ∧ l0 = [])) → n - c'.1 < n - c.1 → Am.subT l' [(3, .ref 3 v3 (.p 0)), (4, .ref 4 v4 (.p 0)), (26, .int .i64 n), (27, .int .i64 (c'.1 : Nat))] →
      subA h' ((4, .box v4 83 (encP x.1 x.2.1 x.2.2)) :: enbH v3 c'.2 (l0 ++ stp x.1.kind x.2.1 c'.1)) → K ⟨Am.look l', hls h' vs', noG⟩) :
    W24_l5 Try.prog Ψ K ⟨Am.look [(3, .ref 3 v3 (.p 0)), (4, .ref 4 v4 (.p 0)), (26, .int .i64 n), (27, .int .i64 (c.1 : Nat))], hls ((4, .box v4 83 (encP x.1 x.2.1 x.2.2)) :: enbH v3 c.2 (l0 ++ stp x.1.kind x.2.1 c.1)) vu, noG⟩ := by
  obtain ⟨i, o⟩ := c
  simp only at hc hK ⊢
  simp [W24, W24_rs, W24_c1, W24_c3, W24_c17, W24_c18, W24_c20, W24_c22, W24_c36, W24_c37, W24_k2, W24_k6, W24_k11, W24_k21, W24_k25, W24_k30, W24_b4, W24_b7, W24_b8, W24_b9, W24_b10, W24_b12, W24_b13, W24_b14, W24_b15, W24_b23, W24_b26, W24_b27, W24_b28, W24_b29, W24_b31, W24_b32, W24_b33, W24_b34, W24_l5, W24_l24, W24_r16, W24_r35, W24_s19, W24_g38]
  refine sIf_dec (fun h => ?_) (fun h => ?_)
  · simp [W24, W24_rs, W24_c1, W24_c3, W24_c17, W24_c18, W24_c20, W24_c22, W24_c36, W24_c37, W24_k2, W24_k6, W24_k11, W24_k21, W24_k25, W24_k30, W24_b4, W24_b7, W24_b8, W24_b9, W24_b10, W24_b12, W24_b13, W24_b14, W24_b15, W24_b23, W24_b26, W24_b27, W24_b28, W24_b29, W24_b31, W24_b32, W24_b33, W24_b34, W24_l5, W24_l24, W24_r16, W24_r35, W24_s19, W24_g38, h]
    cases o with
    | none =>
      obtain ⟨e1, e2⟩ := hc.2 rfl
      subst e1 e2
      simp [W24, W24_rs, W24_c1, W24_c3, W24_c17, W24_c18, W24_c20, W24_c22, W24_c36, W24_c37, W24_k2, W24_k6, W24_k11, W24_k21, W24_k25, W24_k30, W24_b4, W24_b7, W24_b8, W24_b9, W24_b10, W24_b12, W24_b13, W24_b14, W24_b15, W24_b23, W24_b26, W24_b27, W24_b28, W24_b29, W24_b31, W24_b32, W24_b33, W24_b34, W24_l5, W24_l24, W24_r16, W24_r35, W24_s19, W24_g38, enbH]
      refine scall0_pure (sp_cli (encI x.2.1) (encI_cell _) (by simp) (by simpa using hx)) (by simp) (by simp) ?_
      simp [W24, W24_rs, W24_c1, W24_c3, W24_c17, W24_c18, W24_c20, W24_c22, W24_c36, W24_c37, W24_k2, W24_k6, W24_k11, W24_k21, W24_k25, W24_k30, W24_b4, W24_b7, W24_b8, W24_b9, W24_b10, W24_b12, W24_b13, W24_b14, W24_b15, W24_b23, W24_b26, W24_b27, W24_b28, W24_b29, W24_b31, W24_b32, W24_b33, W24_b34, W24_l5, W24_l24, W24_r16, W24_r35, W24_s19, W24_g38]
      rw [wrap64 (by omega) (by omega)]
      refine hK _ _ _ (1, some (vu 40 + 1)) ⟨by simp; omega, by simp⟩ (by simp; omega) (by simp) ?_
      simp [enbH, stp_succ, stp_zero, encS]
    | some v =>
      simp [W24, W24_rs, W24_c1, W24_c3, W24_c17, W24_c18, W24_c20, W24_c22, W24_c36, W24_c37, W24_k2, W24_k6, W24_k11, W24_k21, W24_k25, W24_k30, W24_b4, W24_b7, W24_b8, W24_b9, W24_b10, W24_b12, W24_b13, W24_b14, W24_b15, W24_b23, W24_b26, W24_b27, W24_b28, W24_b29, W24_b31, W24_b32, W24_b33, W24_b34, W24_l5, W24_l24, W24_r16, W24_r35, W24_s19, W24_g38, enbH]
      refine scall0_pure (sp_cli (encI x.2.1) (encI_cell _) (by simp) (by simpa using hx)) (by simp) (by simp) ?_
      simp [W24, W24_rs, W24_c1, W24_c3, W24_c17, W24_c18, W24_c20, W24_c22, W24_c36, W24_c37, W24_k2, W24_k6, W24_k11, W24_k21, W24_k25, W24_k30, W24_b4, W24_b7, W24_b8, W24_b9, W24_b10, W24_b12, W24_b13, W24_b14, W24_b15, W24_b23, W24_b26, W24_b27, W24_b28, W24_b29, W24_b31, W24_b32, W24_b33, W24_b34, W24_l5, W24_l24, W24_r16, W24_r35, W24_s19, W24_g38]
      rw [decide_eq_true (by omega)]
      simp [W24, W24_rs, W24_c1, W24_c3, W24_c17, W24_c18, W24_c20, W24_c22, W24_c36, W24_c37, W24_k2, W24_k6, W24_k11, W24_k21, W24_k25, W24_k30, W24_b4, W24_b7, W24_b8, W24_b9, W24_b10, W24_b12, W24_b13, W24_b14, W24_b15, W24_b23, W24_b26, W24_b27, W24_b28, W24_b29, W24_b31, W24_b32, W24_b33, W24_b34, W24_l5, W24_l24, W24_r16, W24_r35, W24_s19, W24_g38]
      rw [wrap64 (by omega) (by omega)]
      refine hK _ _ _ (i + 1, some (v + 1)) ⟨by simp; omega, by simp⟩ (by simp; omega) (by simp) ?_
      simp [enbH, stp_succ, encS]
  · have e : i = n := by omega
    subst e
    simp [W24, W24_rs, W24_c1, W24_c3, W24_c17, W24_c18, W24_c20, W24_c22, W24_c36, W24_c37, W24_k2, W24_k6, W24_k11, W24_k21, W24_k25, W24_k30, W24_b4, W24_b7, W24_b8, W24_b9, W24_b10, W24_b12, W24_b13, W24_b14, W24_b15, W24_b23, W24_b26, W24_b27, W24_b28, W24_b29, W24_b31, W24_b32, W24_b33, W24_b34, W24_l5, W24_l24, W24_r16, W24_r35, W24_s19, W24_g38]
    refine hΨ _ _ _ (o, l0 ++ stp x.1.kind x.2.1 i) ⟨rfl, fun e => ?_⟩ ?_
    · obtain ⟨e1, e2⟩ := hc.2 e
      subst e1 e2
      simp [stp_zero]
    · cases o <;> simp [enbH]
theorem sp_enb (t : Tm) (hw : t.wt ≤ 68719476736) : Am.Spec Try.prog 24 [.agg (encT t)] (.sl (t.enabled.map encS)) := by
  have hnw := t.norm_wt
  refine Am.Spec.of_W (W := W24) Try.func24 (by kernel_rfl) (by kernel_rfl) (by kernel_rfl) Try.ntmps24 W24_eq (rs := [.tmp 2]) (by kernel_rfl) (by simp) ?_
  intro vs
  simp [W24, W24_rs, W24_c1, W24_c3, W24_c17, W24_c18, W24_c20, W24_c22, W24_c36, W24_c37, W24_k2, W24_k6, W24_k11, W24_k21, W24_k25, W24_k30, W24_b4, W24_b7, W24_b8, W24_b9, W24_b10, W24_b12, W24_b13, W24_b14, W24_b15, W24_b23, W24_b26, W24_b27, W24_b28, W24_b29, W24_b31, W24_b32, W24_b33, W24_b34, W24_l5, W24_l24, W24_r16, W24_r35, W24_s19, W24_g38]
  refine sScope_straight fun J => ?_
  simp [W24, W24_rs, W24_c1, W24_c3, W24_c17, W24_c18, W24_c20, W24_c22, W24_c36, W24_c37, W24_k2, W24_k6, W24_k11, W24_k21, W24_k25, W24_k30, W24_b4, W24_b7, W24_b8, W24_b9, W24_b10, W24_b12, W24_b13, W24_b14, W24_b15, W24_b23, W24_b26, W24_b27, W24_b28, W24_b29, W24_b31, W24_b32, W24_b33, W24_b34, W24_l5, W24_l24, W24_r16, W24_r35, W24_s19, W24_g38]
  refine scall_pure (sp_nrm t (by omega)) (by simp) (by simp) ?_
  simp [W24, W24_rs, W24_c1, W24_c3, W24_c17, W24_c18, W24_c20, W24_c22, W24_c36, W24_c37, W24_k2, W24_k6, W24_k11, W24_k21, W24_k25, W24_k30, W24_b4, W24_b7, W24_b8, W24_b9, W24_b10, W24_b12, W24_b13, W24_b14, W24_b15, W24_b23, W24_b26, W24_b27, W24_b28, W24_b29, W24_b31, W24_b32, W24_b33, W24_b34, W24_l5, W24_l24, W24_r16, W24_r35, W24_s19, W24_g38]
  refine scall_pure (sp_pls t.norm) (by simp) (by simp) ?_
  simp [W24, W24_rs, W24_c1, W24_c3, W24_c17, W24_c18, W24_c20, W24_c22, W24_c36, W24_c37, W24_k2, W24_k6, W24_k11, W24_k21, W24_k25, W24_k30, W24_b4, W24_b7, W24_b8, W24_b9, W24_b10, W24_b12, W24_b13, W24_b14, W24_b15, W24_b23, W24_b26, W24_b27, W24_b28, W24_b29, W24_b31, W24_b32, W24_b33, W24_b34, W24_l5, W24_l24, W24_r16, W24_r35, W24_s19, W24_g38]
  generalize hn : t.norm = n at hnw
  have hpl := n.pls_len [] (decide (0 < n.waits.length))
  have hpp := n.pls_path [] (decide (0 < n.waits.length))
  have hen : t.enabled = (n.pls [] (decide (0 < n.waits.length))).flatMap stepsAt := by rw [Tm.enabled, Tm.enabledN, hn]
  generalize hps : n.pls [] (decide (0 < n.waits.length)) = ps at hpl hpp hen
  have hsp := sp_pla n (by omega)
  rw [hps] at hsp
  refine sRange_introA (α := Option Nat × List Stp3) (ps.map encPl) (.tup []) (.tup []) (fun i a => a.2 = (ps.take i).flatMap stepsAt ∧ (a.1 = none → a.2 = []))
    (fun a => enbH (vs 3 + 1) a.1 a.2) (none, []) hsp (by simp) ⟨by simp, fun _ => rfl⟩ (by simp [enbH]) ?_ ?_
  · rintro i hi ⟨o, l⟩ vt Ψ ⟨hl, ho⟩ hn' - - -
    refine ⟨by simp [encPl], ?_⟩
    simp only at hl ho
    have hi' : i < ps.length := by simpa using hi
    have hxl := hpp ps[i] (List.getElem_mem hi')
    have hlen := steps_len (ps.take i)
    rw [← hl] at hlen
    simp at hlen hxl
    have hlen2 : l.length ≤ 137438953472 := by omega
    have hxl2 : (ps[i]).2.1.length ≤ 137438953472 := by omega
    have fin : ∀ τ' L vs' (a : Option Nat × List Stp3), (a.2 = l ++ stp (ps[i]).1.kind (ps[i]).2.1 (stpN ps[i]) ∧ (a.1 = none → a.2 = [])) → subA L (enbH (vs 3 + 1) a.1 a.2) → Ψ .normal ⟨τ', hls L vs', noG⟩ := fun τ' L vs' a ⟨h1, h2⟩ h3 =>
      hn' τ' L vs' a ⟨by rw [steps_take _ _ hi', h1, hl]; rfl, h2⟩ h3
    cases o with
    | none =>
      simp [W24, W24_rs, W24_c1, W24_c3, W24_c17, W24_c18, W24_c20, W24_c22, W24_c36, W24_c37, W24_k2, W24_k6, W24_k11, W24_k21, W24_k25, W24_k30, W24_b4, W24_b7, W24_b8, W24_b9, W24_b10, W24_b12, W24_b13, W24_b14, W24_b15, W24_b23, W24_b26, W24_b27, W24_b28, W24_b29, W24_b31, W24_b32, W24_b33, W24_b34, W24_l5, W24_l24, W24_r16, W24_r35, W24_s19, W24_g38, encPl, enbH]
      by_cases k0 : (ps[i]).1.kind = 0
      · simp [W24, W24_rs, W24_c1, W24_c3, W24_c17, W24_c18, W24_c20, W24_c22, W24_c36, W24_c37, W24_k2, W24_k6, W24_k11, W24_k21, W24_k25, W24_k30, W24_b4, W24_b7, W24_b8, W24_b9, W24_b10, W24_b12, W24_b13, W24_b14, W24_b15, W24_b23, W24_b26, W24_b27, W24_b28, W24_b29, W24_b31, W24_b32, W24_b33, W24_b34, W24_l5, W24_l24, W24_r16, W24_r35, W24_s19, W24_g38, k0]
        exact fin _ _ _ (none, l) ⟨by simp [stpN, k0, stp_zero], ho⟩ (by simp [enbH])
      by_cases k14 : (ps[i]).1.kind = 14
      · simp [W24, W24_rs, W24_c1, W24_c3, W24_c17, W24_c18, W24_c20, W24_c22, W24_c36, W24_c37, W24_k2, W24_k6, W24_k11, W24_k21, W24_k25, W24_k30, W24_b4, W24_b7, W24_b8, W24_b9, W24_b10, W24_b12, W24_b13, W24_b14, W24_b15, W24_b23, W24_b26, W24_b27, W24_b28, W24_b29, W24_b31, W24_b32, W24_b33, W24_b34, W24_l5, W24_l24, W24_r16, W24_r35, W24_s19, W24_g38, k0, k14]
        exact fin _ _ _ (none, l) ⟨by simp [stpN, k14, stp_zero], ho⟩ (by simp [enbH])
      by_cases k12 : (ps[i]).1.kind = 12
      · simp [W24, W24_rs, W24_c1, W24_c3, W24_c17, W24_c18, W24_c20, W24_c22, W24_c36, W24_c37, W24_k2, W24_k6, W24_k11, W24_k21, W24_k25, W24_k30, W24_b4, W24_b7, W24_b8, W24_b9, W24_b10, W24_b12, W24_b13, W24_b14, W24_b15, W24_b23, W24_b26, W24_b27, W24_b28, W24_b29, W24_b31, W24_b32, W24_b33, W24_b34, W24_l5, W24_l24, W24_r16, W24_r35, W24_s19, W24_g38, k0, k14, k12]
        exact fin _ _ _ (none, l) ⟨by simp [stpN, k12, stp_zero], ho⟩ (by simp [enbH])
      by_cases k11 : (ps[i]).1.kind = 11
      · simp [W24, W24_rs, W24_c1, W24_c3, W24_c17, W24_c18, W24_c20, W24_c22, W24_c36, W24_c37, W24_k2, W24_k6, W24_k11, W24_k21, W24_k25, W24_k30, W24_b4, W24_b7, W24_b8, W24_b9, W24_b10, W24_b12, W24_b13, W24_b14, W24_b15, W24_b23, W24_b26, W24_b27, W24_b28, W24_b29, W24_b31, W24_b32, W24_b33, W24_b34, W24_l5, W24_l24, W24_r16, W24_r35, W24_s19, W24_g38, k0, k14, k12, k11]
        exact fin _ _ _ (none, l) ⟨by simp [stpN, k11, stp_zero], ho⟩ (by simp [enbH])
      by_cases k7 : (ps[i]).1.kind = 7
      · simp [W24, W24_rs, W24_c1, W24_c3, W24_c17, W24_c18, W24_c20, W24_c22, W24_c36, W24_c37, W24_k2, W24_k6, W24_k11, W24_k21, W24_k25, W24_k30, W24_b4, W24_b7, W24_b8, W24_b9, W24_b10, W24_b12, W24_b13, W24_b14, W24_b15, W24_b23, W24_b26, W24_b27, W24_b28, W24_b29, W24_b31, W24_b32, W24_b33, W24_b34, W24_l5, W24_l24, W24_r16, W24_r35, W24_s19, W24_g38, k0, k14, k12, k11, k7]
        exact fin _ _ _ (none, l) ⟨by simp [stpN, k7, stp_zero], ho⟩ (by simp [enbH])
      by_cases k8 : (ps[i]).1.kind = 8
      · simp [W24, W24_rs, W24_c1, W24_c3, W24_c17, W24_c18, W24_c20, W24_c22, W24_c36, W24_c37, W24_k2, W24_k6, W24_k11, W24_k21, W24_k25, W24_k30, W24_b4, W24_b7, W24_b8, W24_b9, W24_b10, W24_b12, W24_b13, W24_b14, W24_b15, W24_b23, W24_b26, W24_b27, W24_b28, W24_b29, W24_b31, W24_b32, W24_b33, W24_b34, W24_l5, W24_l24, W24_r16, W24_r35, W24_s19, W24_g38, k0, k14, k12, k11, k7, k8]
        cases hw8 : (ps[i]).2.2
        · simp [W24, W24_rs, W24_c1, W24_c3, W24_c17, W24_c18, W24_c20, W24_c22, W24_c36, W24_c37, W24_k2, W24_k6, W24_k11, W24_k21, W24_k25, W24_k30, W24_b4, W24_b7, W24_b8, W24_b9, W24_b10, W24_b12, W24_b13, W24_b14, W24_b15, W24_b23, W24_b26, W24_b27, W24_b28, W24_b29, W24_b31, W24_b32, W24_b33, W24_b34, W24_l5, W24_l24, W24_r16, W24_r35, W24_s19, W24_g38, hw8]
          have hs : stpN ps[i] = 1 := by simp [stpN, k0, k14, k12, k11, k7, k8, hw8]
          rw [hs] at fin
          exact sLoop_intro (fun c : Nat × Option Nat => c.1 ≤ 1 ∧ (c.2 = none → c.1 = 0 ∧ l = [])) (fun c => 1 - c.1) _ _ (0, none) ⟨by simp, fun e => ⟨rfl, ho e⟩⟩ (by simp) (by simp [enbH, stp_zero, hw8]) (enb_body (vs 3 + 1) (vt 4 + 1) ps[i] hxl2 l hlen2 1 (by omega) Ψ fin)
        · simp [W24, W24_rs, W24_c1, W24_c3, W24_c17, W24_c18, W24_c20, W24_c22, W24_c36, W24_c37, W24_k2, W24_k6, W24_k11, W24_k21, W24_k25, W24_k30, W24_b4, W24_b7, W24_b8, W24_b9, W24_b10, W24_b12, W24_b13, W24_b14, W24_b15, W24_b23, W24_b26, W24_b27, W24_b28, W24_b29, W24_b31, W24_b32, W24_b33, W24_b34, W24_l5, W24_l24, W24_r16, W24_r35, W24_s19, W24_g38, hw8]
          exact fin _ _ _ (none, l) ⟨by simp [stpN, k0, k14, k12, k11, k7, k8, hw8, stp_zero], ho⟩ (by simp [enbH])
      by_cases k10 : (ps[i]).1.kind = 10
      · simp [W24, W24_rs, W24_c1, W24_c3, W24_c17, W24_c18, W24_c20, W24_c22, W24_c36, W24_c37, W24_k2, W24_k6, W24_k11, W24_k21, W24_k25, W24_k30, W24_b4, W24_b7, W24_b8, W24_b9, W24_b10, W24_b12, W24_b13, W24_b14, W24_b15, W24_b23, W24_b26, W24_b27, W24_b28, W24_b29, W24_b31, W24_b32, W24_b33, W24_b34, W24_l5, W24_l24, W24_r16, W24_r35, W24_s19, W24_g38, k0, k14, k12, k11, k7, k8, k10]
        have hs : stpN ps[i] = 2 := by simp [stpN, k0, k14, k12, k11, k7, k8, k10]
        rw [hs] at fin
        exact sLoop_intro (fun c : Nat × Option Nat => c.1 ≤ 2 ∧ (c.2 = none → c.1 = 0 ∧ l = [])) (fun c => 2 - c.1) _ _ (0, none) ⟨by simp, fun e => ⟨rfl, ho e⟩⟩ (by simp) (by simp [enbH, stp_zero, enbH]) (enb_body (vs 3 + 1) (vt 4 + 1) ps[i] hxl2 l hlen2 2 (by omega) Ψ fin)
      · simp [W24, W24_rs, W24_c1, W24_c3, W24_c17, W24_c18, W24_c20, W24_c22, W24_c36, W24_c37, W24_k2, W24_k6, W24_k11, W24_k21, W24_k25, W24_k30, W24_b4, W24_b7, W24_b8, W24_b9, W24_b10, W24_b12, W24_b13, W24_b14, W24_b15, W24_b23, W24_b26, W24_b27, W24_b28, W24_b29, W24_b31, W24_b32, W24_b33, W24_b34, W24_l5, W24_l24, W24_r16, W24_r35, W24_s19, W24_g38, k0, k14, k12, k11, k7, k8, k10]
        have hs : stpN ps[i] = 1 := by simp [stpN, k0, k14, k12, k11, k7, k8, k10]
        rw [hs] at fin
        exact sLoop_intro (fun c : Nat × Option Nat => c.1 ≤ 1 ∧ (c.2 = none → c.1 = 0 ∧ l = [])) (fun c => 1 - c.1) _ _ (0, none) ⟨by simp, fun e => ⟨rfl, ho e⟩⟩ (by simp) (by simp [enbH, stp_zero, enbH]) (enb_body (vs 3 + 1) (vt 4 + 1) ps[i] hxl2 l hlen2 1 (by omega) Ψ fin)
    | some v =>
      simp [W24, W24_rs, W24_c1, W24_c3, W24_c17, W24_c18, W24_c20, W24_c22, W24_c36, W24_c37, W24_k2, W24_k6, W24_k11, W24_k21, W24_k25, W24_k30, W24_b4, W24_b7, W24_b8, W24_b9, W24_b10, W24_b12, W24_b13, W24_b14, W24_b15, W24_b23, W24_b26, W24_b27, W24_b28, W24_b29, W24_b31, W24_b32, W24_b33, W24_b34, W24_l5, W24_l24, W24_r16, W24_r35, W24_s19, W24_g38, encPl, enbH]
      by_cases k0 : (ps[i]).1.kind = 0
      · simp [W24, W24_rs, W24_c1, W24_c3, W24_c17, W24_c18, W24_c20, W24_c22, W24_c36, W24_c37, W24_k2, W24_k6, W24_k11, W24_k21, W24_k25, W24_k30, W24_b4, W24_b7, W24_b8, W24_b9, W24_b10, W24_b12, W24_b13, W24_b14, W24_b15, W24_b23, W24_b26, W24_b27, W24_b28, W24_b29, W24_b31, W24_b32, W24_b33, W24_b34, W24_l5, W24_l24, W24_r16, W24_r35, W24_s19, W24_g38, k0]
        exact fin _ _ _ (some v, l) ⟨by simp [stpN, k0, stp_zero], ho⟩ (by simp [enbH])
      by_cases k14 : (ps[i]).1.kind = 14
      · simp [W24, W24_rs, W24_c1, W24_c3, W24_c17, W24_c18, W24_c20, W24_c22, W24_c36, W24_c37, W24_k2, W24_k6, W24_k11, W24_k21, W24_k25, W24_k30, W24_b4, W24_b7, W24_b8, W24_b9, W24_b10, W24_b12, W24_b13, W24_b14, W24_b15, W24_b23, W24_b26, W24_b27, W24_b28, W24_b29, W24_b31, W24_b32, W24_b33, W24_b34, W24_l5, W24_l24, W24_r16, W24_r35, W24_s19, W24_g38, k0, k14]
        exact fin _ _ _ (some v, l) ⟨by simp [stpN, k14, stp_zero], ho⟩ (by simp [enbH])
      by_cases k12 : (ps[i]).1.kind = 12
      · simp [W24, W24_rs, W24_c1, W24_c3, W24_c17, W24_c18, W24_c20, W24_c22, W24_c36, W24_c37, W24_k2, W24_k6, W24_k11, W24_k21, W24_k25, W24_k30, W24_b4, W24_b7, W24_b8, W24_b9, W24_b10, W24_b12, W24_b13, W24_b14, W24_b15, W24_b23, W24_b26, W24_b27, W24_b28, W24_b29, W24_b31, W24_b32, W24_b33, W24_b34, W24_l5, W24_l24, W24_r16, W24_r35, W24_s19, W24_g38, k0, k14, k12]
        exact fin _ _ _ (some v, l) ⟨by simp [stpN, k12, stp_zero], ho⟩ (by simp [enbH])
      by_cases k11 : (ps[i]).1.kind = 11
      · simp [W24, W24_rs, W24_c1, W24_c3, W24_c17, W24_c18, W24_c20, W24_c22, W24_c36, W24_c37, W24_k2, W24_k6, W24_k11, W24_k21, W24_k25, W24_k30, W24_b4, W24_b7, W24_b8, W24_b9, W24_b10, W24_b12, W24_b13, W24_b14, W24_b15, W24_b23, W24_b26, W24_b27, W24_b28, W24_b29, W24_b31, W24_b32, W24_b33, W24_b34, W24_l5, W24_l24, W24_r16, W24_r35, W24_s19, W24_g38, k0, k14, k12, k11]
        exact fin _ _ _ (some v, l) ⟨by simp [stpN, k11, stp_zero], ho⟩ (by simp [enbH])
      by_cases k7 : (ps[i]).1.kind = 7
      · simp [W24, W24_rs, W24_c1, W24_c3, W24_c17, W24_c18, W24_c20, W24_c22, W24_c36, W24_c37, W24_k2, W24_k6, W24_k11, W24_k21, W24_k25, W24_k30, W24_b4, W24_b7, W24_b8, W24_b9, W24_b10, W24_b12, W24_b13, W24_b14, W24_b15, W24_b23, W24_b26, W24_b27, W24_b28, W24_b29, W24_b31, W24_b32, W24_b33, W24_b34, W24_l5, W24_l24, W24_r16, W24_r35, W24_s19, W24_g38, k0, k14, k12, k11, k7]
        exact fin _ _ _ (some v, l) ⟨by simp [stpN, k7, stp_zero], ho⟩ (by simp [enbH])
      by_cases k8 : (ps[i]).1.kind = 8
      · simp [W24, W24_rs, W24_c1, W24_c3, W24_c17, W24_c18, W24_c20, W24_c22, W24_c36, W24_c37, W24_k2, W24_k6, W24_k11, W24_k21, W24_k25, W24_k30, W24_b4, W24_b7, W24_b8, W24_b9, W24_b10, W24_b12, W24_b13, W24_b14, W24_b15, W24_b23, W24_b26, W24_b27, W24_b28, W24_b29, W24_b31, W24_b32, W24_b33, W24_b34, W24_l5, W24_l24, W24_r16, W24_r35, W24_s19, W24_g38, k0, k14, k12, k11, k7, k8]
        cases hw8 : (ps[i]).2.2
        · simp [W24, W24_rs, W24_c1, W24_c3, W24_c17, W24_c18, W24_c20, W24_c22, W24_c36, W24_c37, W24_k2, W24_k6, W24_k11, W24_k21, W24_k25, W24_k30, W24_b4, W24_b7, W24_b8, W24_b9, W24_b10, W24_b12, W24_b13, W24_b14, W24_b15, W24_b23, W24_b26, W24_b27, W24_b28, W24_b29, W24_b31, W24_b32, W24_b33, W24_b34, W24_l5, W24_l24, W24_r16, W24_r35, W24_s19, W24_g38, hw8]
          have hs : stpN ps[i] = 1 := by simp [stpN, k0, k14, k12, k11, k7, k8, hw8]
          rw [hs] at fin
          exact sLoop_intro (fun c : Nat × Option Nat => c.1 ≤ 1 ∧ (c.2 = none → c.1 = 0 ∧ l = [])) (fun c => 1 - c.1) _ _ (0, some v) ⟨by simp, fun e => ⟨rfl, ho e⟩⟩ (by simp) (by simp [enbH, stp_zero, hw8]) (enb_body (vs 3 + 1) (vt 4 + 1) ps[i] hxl2 l hlen2 1 (by omega) Ψ fin)
        · simp [W24, W24_rs, W24_c1, W24_c3, W24_c17, W24_c18, W24_c20, W24_c22, W24_c36, W24_c37, W24_k2, W24_k6, W24_k11, W24_k21, W24_k25, W24_k30, W24_b4, W24_b7, W24_b8, W24_b9, W24_b10, W24_b12, W24_b13, W24_b14, W24_b15, W24_b23, W24_b26, W24_b27, W24_b28, W24_b29, W24_b31, W24_b32, W24_b33, W24_b34, W24_l5, W24_l24, W24_r16, W24_r35, W24_s19, W24_g38, hw8]
          exact fin _ _ _ (some v, l) ⟨by simp [stpN, k0, k14, k12, k11, k7, k8, hw8, stp_zero], ho⟩ (by simp [enbH])
      by_cases k10 : (ps[i]).1.kind = 10
      · simp [W24, W24_rs, W24_c1, W24_c3, W24_c17, W24_c18, W24_c20, W24_c22, W24_c36, W24_c37, W24_k2, W24_k6, W24_k11, W24_k21, W24_k25, W24_k30, W24_b4, W24_b7, W24_b8, W24_b9, W24_b10, W24_b12, W24_b13, W24_b14, W24_b15, W24_b23, W24_b26, W24_b27, W24_b28, W24_b29, W24_b31, W24_b32, W24_b33, W24_b34, W24_l5, W24_l24, W24_r16, W24_r35, W24_s19, W24_g38, k0, k14, k12, k11, k7, k8, k10]
        have hs : stpN ps[i] = 2 := by simp [stpN, k0, k14, k12, k11, k7, k8, k10]
        rw [hs] at fin
        exact sLoop_intro (fun c : Nat × Option Nat => c.1 ≤ 2 ∧ (c.2 = none → c.1 = 0 ∧ l = [])) (fun c => 2 - c.1) _ _ (0, some v) ⟨by simp, fun e => ⟨rfl, ho e⟩⟩ (by simp) (by simp [enbH, stp_zero, enbH]) (enb_body (vs 3 + 1) (vt 4 + 1) ps[i] hxl2 l hlen2 2 (by omega) Ψ fin)
      · simp [W24, W24_rs, W24_c1, W24_c3, W24_c17, W24_c18, W24_c20, W24_c22, W24_c36, W24_c37, W24_k2, W24_k6, W24_k11, W24_k21, W24_k25, W24_k30, W24_b4, W24_b7, W24_b8, W24_b9, W24_b10, W24_b12, W24_b13, W24_b14, W24_b15, W24_b23, W24_b26, W24_b27, W24_b28, W24_b29, W24_b31, W24_b32, W24_b33, W24_b34, W24_l5, W24_l24, W24_r16, W24_r35, W24_s19, W24_g38, k0, k14, k12, k11, k7, k8, k10]
        have hs : stpN ps[i] = 1 := by simp [stpN, k0, k14, k12, k11, k7, k8, k10]
        rw [hs] at fin
        exact sLoop_intro (fun c : Nat × Option Nat => c.1 ≤ 1 ∧ (c.2 = none → c.1 = 0 ∧ l = [])) (fun c => 1 - c.1) _ _ (0, some v) ⟨by simp, fun e => ⟨rfl, ho e⟩⟩ (by simp) (by simp [enbH, stp_zero, enbH]) (enb_body (vs 3 + 1) (vt 4 + 1) ps[i] hxl2 l hlen2 1 (by omega) Ψ fin)
  · rintro vt ⟨o, l⟩ ⟨hl, ho⟩
    simp only at hl ho
    have hlen := steps_len ps
    rw [hen]
    have hl : l = ps.flatMap stepsAt := by rw [hl]; simp
    rw [← hl]
    rw [← hl] at hlen
    cases o with
    | none =>
      have := ho rfl
      subst this
      simp [W24, W24_rs, W24_c1, W24_c3, W24_c17, W24_c18, W24_c20, W24_c22, W24_c36, W24_c37, W24_k2, W24_k6, W24_k11, W24_k21, W24_k25, W24_k30, W24_b4, W24_b7, W24_b8, W24_b9, W24_b10, W24_b12, W24_b13, W24_b14, W24_b15, W24_b23, W24_b26, W24_b27, W24_b28, W24_b29, W24_b31, W24_b32, W24_b33, W24_b34, W24_l5, W24_l24, W24_r16, W24_r35, W24_s19, W24_g38, enbH]
      refine scall_pure (sp_cls [] (by simp) (by simp [closedLL]) (by simp)) (by simp) (by simp [closedLL]) ?_
      simp [W24, W24_rs, W24_c1, W24_c3, W24_c17, W24_c18, W24_c20, W24_c22, W24_c36, W24_c37, W24_k2, W24_k6, W24_k11, W24_k21, W24_k25, W24_k30, W24_b4, W24_b7, W24_b8, W24_b9, W24_b10, W24_b12, W24_b13, W24_b14, W24_b15, W24_b23, W24_b26, W24_b27, W24_b28, W24_b29, W24_b31, W24_b32, W24_b33, W24_b34, W24_l5, W24_l24, W24_r16, W24_r35, W24_s19, W24_g38, retW_eq, closedLL]
    | some v =>
      simp [W24, W24_rs, W24_c1, W24_c3, W24_c17, W24_c18, W24_c20, W24_c22, W24_c36, W24_c37, W24_k2, W24_k6, W24_k11, W24_k21, W24_k25, W24_k30, W24_b4, W24_b7, W24_b8, W24_b9, W24_b10, W24_b12, W24_b13, W24_b14, W24_b15, W24_b23, W24_b26, W24_b27, W24_b28, W24_b29, W24_b31, W24_b32, W24_b33, W24_b34, W24_l5, W24_l24, W24_r16, W24_r35, W24_s19, W24_g38, enbH]
      refine scall_pure (sp_cls (l.map encS) (fun x hx => by obtain ⟨y, -, rfl⟩ := List.mem_map.1 hx; exact ⟨rfl, encS_cell y⟩) (by simp) (by simp; omega)) (by simp) (by simp) ?_
      simp [W24, W24_rs, W24_c1, W24_c3, W24_c17, W24_c18, W24_c20, W24_c22, W24_c36, W24_c37, W24_k2, W24_k6, W24_k11, W24_k21, W24_k25, W24_k30, W24_b4, W24_b7, W24_b8, W24_b9, W24_b10, W24_b12, W24_b13, W24_b14, W24_b15, W24_b23, W24_b26, W24_b27, W24_b28, W24_b29, W24_b31, W24_b32, W24_b33, W24_b34, W24_l5, W24_l24, W24_r16, W24_r35, W24_s19, W24_g38, retW_eq]
theorem sp_sts (t : Tm) (hw : t.wt ≤ 68719476736) : Am.Spec Try.prog 30 [.agg (encT t)] (.int .i64 (t.status)) := by
  refine Am.Spec.of_W (W := W30) Try.func30 (by kernel_rfl) (by kernel_rfl) (by kernel_rfl) Try.ntmps30 W30_eq (rs := [.tmp 2]) (by kernel_rfl) (by simp) ?_
  intro vs
  simp [W30, W30_rs, W30_b1, W30_b2, W30_b3, W30_b5, W30_c4, W30_c6]
  refine scall_pure (sp_nrm t (by omega)) (by simp) (by simp) ?_
  simp [W30, W30_rs, W30_b1, W30_b2, W30_b3, W30_b5, W30_c4, W30_c6]
  by_cases k : t.norm.kind = 0
  · simp [W30, W30_rs, W30_b1, W30_b2, W30_b3, W30_b5, W30_c4, W30_c6, k, retW_eq, Tm.status]
  · simp [W30, W30_rs, W30_b1, W30_b2, W30_b3, W30_b5, W30_c4, W30_c6, k]
    refine scall_pure (sp_enb t hw) (by simp) (by simp) ?_
    simp [W30, W30_rs, W30_b1, W30_b2, W30_b3, W30_b5, W30_c4, W30_c6]
    by_cases e : t.enabled = []
    · simp [W30, W30_rs, W30_b1, W30_b2, W30_b3, W30_b5, W30_c4, W30_c6, k, e, retW_eq, Tm.status]
    · have : 0 < t.enabled.length := List.length_pos_iff.2 e
      simp [W30, W30_rs, W30_b1, W30_b2, W30_b3, W30_b5, W30_c4, W30_c6, k, this, retW_eq, Tm.status, e]
end Go.Proofs.Ytkagfenchknjjaa
