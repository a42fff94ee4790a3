import Derived.Test.YtnngddgaobhkiaaGF11
import Derived.Test.YtnngddgaobhkiaaGH15
import Derived.Test.YtnngddgaobhkiaaGQ10
import Derived.Test.YtnngddgaobhkiaaGE14
import Derived.Test.YtnngddgaobhkiaaGJ13
set_option linter.unusedVariables false
set_option linter.unusedSimpArgs false
namespace Go.Proofs.Ytnngddgaobhkiaa
open Go Go.Am Go.RowKit
attribute [local simp] W48 W48_rs W48_b1 W48_b2 W64 W64_rs W64_b1 W64_b2 W49 W49_rs W49_b1 W49_b2 W49_b3 W49_b6 W49_b7 W49_b8 W49_b9 W49_b12 W50 W50_rs W50_b2 W50_b4 W50_b5 W50_b6 W50_b7 W50_b9 W50_b10 W50_b11 W50_b12 W50_b14 W50_b15 W50_b16 W50_b17 W50_b18 W50_b21 W50_b22 W50_b24 W50_b26 W50_b28 W50_b30 W50_b32 W50_b34 W50_b35 W50_b36 W50_b37 W50_b38 W50_b39 W50_b41 W50_b42 W50_b43 W50_b44 W50_k40 W25 W25_rs W25_b1 W25_b2 W25_b3 W25_b9 W25_b10 W25_b11 W25_b13 W25_b15 W25_b16 W25_b17 W25_b18 W25_b19 W25_b21 W25_b23 W25_b27 W25_b29 W25_b30 W25_b33 W25_b36 W25_b37 W25_b38 W25_b40 W25_b41 W25_b42

/-! ### Numbers that are reckoned -/
def encR (x : Int × Int) : AV := .tup [.int .i64 x.1, .int .i64 x.2]
theorem fit_in {n : Int} (h : isI64 n = true) : fit n = (n, 0) := by rw [fit, if_pos h]
theorem fit_out {n : Int} (h : ¬ isI64 n = true) : fit n = (0, 8) := by rw [fit, if_neg h]
theorem sp_tru (b : Bool) : Am.Spec Try.prog 48 [.bool b] (.int .i64 (truthN b)) := by
  cases b
  · refine W48_S (by simp) ?_
    intro vs
    simp [truthN, retW_eq]
  · refine W48_S (by simp) ?_
    intro vs
    simp [truthN, retW_eq]
theorem sp_sum (a b : Int) (ha : isI64 a = true) (hb : isI64 b = true) : Am.Spec Try.prog 64 [.int .i64 a, .int .i64 b] (encR (fit (a + b))) := by
  rw [isI64_iff] at ha hb
  have key : ∀ c, fit (a + b) = c → Am.Spec Try.prog 64 [.int .i64 a, .int .i64 b] (encR c) := fun c hc => by
    by_cases hf : isI64 (a + b) = true
    · rw [fit_in hf] at hc
      subst hc
      rw [isI64_iff] at hf
      have w0 : IntKind.wrap .i64 (a + b) = a + b := wrap64 hf.1 hf.2
      by_cases h1 : 0 < b
      · have w1 : IntKind.wrap .i64 (9223372036854775807 - b) = 9223372036854775807 - b := wrap64 (by omega) (by omega)
        have h2 : ¬ 9223372036854775807 - b < a := by omega
        have h3 : ¬ b < 0 := by omega
        refine W64_S (by simp) ?_
        intro vs
        simp [h1, w0, w1, h2, h3, encR, retW_eq]
      · by_cases h3 : b < 0
        · have w1 : IntKind.wrap .i64 (-9223372036854775808 - b) = -9223372036854775808 - b := wrap64 (by omega) (by omega)
          have h2 : ¬ a < -9223372036854775808 - b := by omega
          refine W64_S (by simp) ?_
          intro vs
          simp [h1, w0, w1, h2, h3, encR, retW_eq]
        · refine W64_S (by simp) ?_
          intro vs
          simp [h1, w0, h3, encR, retW_eq]
    · rw [fit_out hf] at hc
      subst hc
      rw [isI64_iff] at hf
      by_cases h1 : 0 < b
      · have w1 : IntKind.wrap .i64 (9223372036854775807 - b) = 9223372036854775807 - b := wrap64 (by omega) (by omega)
        have h2 : 9223372036854775807 - b < a := by omega
        have h3 : ¬ b < 0 := by omega
        refine W64_S (by simp) ?_
        intro vs
        simp [h1, w1, h2, h3, encR, retW_eq]
      · have h3 : b < 0 := by omega
        have w1 : IntKind.wrap .i64 (-9223372036854775808 - b) = -9223372036854775808 - b := wrap64 (by omega) (by omega)
        have h2 : a < -9223372036854775808 - b := by omega
        refine W64_S (by simp) ?_
        intro vs
        simp [h1, w1, h2, h3, encR, retW_eq]
  exact key _ rfl
theorem sp_tms (a b : Int) (ha : isI64 a = true) (hb : isI64 b = true) : Am.Spec Try.prog 49 [.int .i64 a, .int .i64 b] (encR (fit (a * b))) := by
  have hm := mul_wrap a b ha hb
  have ha' := (isI64_iff a).1 ha
  have hb' := (isI64_iff b).1 hb
  by_cases h0 : a = 0
  · subst h0
    rw [Int.zero_mul, fit_in (by rfl)]
    refine W49_S (by simp) ?_
    intro vs
    simp [encR, retW_eq]
  by_cases h1 : b = 0
  · subst h1
    rw [Int.mul_zero, fit_in (by rfl)]
    refine W49_S (by simp) ?_
    intro vs
    simp [h0, encR, retW_eq]
  by_cases h2 : a = -1
  · subst h2
    by_cases h3 : b = -9223372036854775808
    · subst h3
      rw [fit_out (by decide)]
      refine W49_S (by simp) ?_
      intro vs
      simp [encR, retW_eq]
    · have e : (-1 : Int) * b = -b := by omega
      have w : IntKind.wrap .i64 (-b) = -b := wrap64 (by omega) (by omega)
      rw [e, fit_in ((isI64_iff _).2 (by omega))]
      refine W49_S (by simp) ?_
      intro vs
      simp [h1, h3, e, w, encR, retW_eq]
  by_cases h4 : b = -1
  · subst h4
    by_cases h3 : a = -9223372036854775808
    · subst h3
      rw [fit_out (by decide)]
      refine W49_S (by simp) ?_
      intro vs
      simp [encR, retW_eq]
    · have e : a * (-1 : Int) = -a := by omega
      have w : IntKind.wrap .i64 (-a) = -a := wrap64 (by omega) (by omega)
      rw [e, fit_in ((isI64_iff _).2 (by omega))]
      refine W49_S (by simp) ?_
      intro vs
      simp [h0, h2, h3, e, w, encR, retW_eq]
  have hm := hm h1
  obtain ⟨c, hc⟩ : ∃ c, a * b = c := ⟨_, rfl⟩
  rw [hc] at hm ⊢
  have hq : IntKind.wrap .i64 ((IntKind.wrap .i64 c).tdiv b) = (IntKind.wrap .i64 c).tdiv b := by
    have hw : -9223372036854775808 ≤ IntKind.wrap .i64 c ∧ IntKind.wrap .i64 c < 9223372036854775808 := by
      rw [IntKind.wrap_i64]; omega
    clear hm
    generalize IntKind.wrap .i64 c = w at hw ⊢
    have h8 : (w.tdiv b).natAbs ≤ w.natAbs := Int.natAbs_tdiv_le_natAbs w b
    by_cases hb1 : b = 1
    · rw [hb1, Int.tdiv_one]; exact wrap64 hw.1 hw.2
    obtain ⟨d, hd⟩ : ∃ d, w.tdiv b = d := ⟨_, rfl⟩
    by_cases hw0 : w = -9223372036854775808
    · have h5 : 2 ≤ b.natAbs := by omega
      have h6 : (w.tdiv b).natAbs = w.natAbs / b.natAbs := Int.natAbs_tdiv ..
      have h7 : w.natAbs / b.natAbs ≤ w.natAbs / 2 := Nat.div_le_div_left h5 (by omega)
      rw [hd] at h6 ⊢
      have h9 : w.natAbs / 2 = 4611686018427387904 := by subst hw0; rfl
      have h10 : d.natAbs ≤ 4611686018427387904 := by rw [h6, ← h9]; exact h7
      exact wrap64 (by omega) (by omega)
    · rw [hd] at h8 ⊢
      exact wrap64 (by omega) (by omega)
  by_cases hf : isI64 c = true
  · rw [fit_in hf]
    have hd := hm.2 hf
    have w := (isI64_iff c).1 hf
    have w := wrap64 w.1 w.2
    rw [w] at hd hq
    refine W49_S (by simp) ?_
    intro vs
    have wa : IntKind.wrap .i64 a = a := wrap64 (by omega) (by omega)
    simp [h0, h1, h2, h4, hc, w, hd, wa, encR, retW_eq]
  · rw [fit_out hf]
    have hd : ¬ _ := fun h => hf (hm.1 h)
    refine W49_S (by simp) ?_
    intro vs
    simp [h0, h1, h2, h4, hc, hq, hd, encR, retW_eq]
theorem sp_two (k a b : Int) (hk : 5 ≤ k ∧ k ≤ 15) (ha : isI64 a = true) (hb : isI64 b = true) : Am.Spec Try.prog 50 [.int .i64 k, .int .i64 a, .int .i64 b] (encR (ev2 k a b)) := by
  have ha' := (isI64_iff a).1 ha
  have hb' := (isI64_iff b).1 hb
  have hT := sp_tms a b ha hb
  have hS := sp_sum a b ha hb
  obtain ⟨h1, h2⟩ := hk
  rcases (by omega : k = 5 ∨ k = 6 ∨ k = 7 ∨ k = 8 ∨ k = 9 ∨ k = 10 ∨ k = 11 ∨ k = 12 ∨ k = 13 ∨ k = 14 ∨ k = 15) with rfl | rfl | rfl | rfl | rfl | rfl | rfl | rfl | rfl | rfl | rfl
  · have e : ev2 5 a b = fit (a * b) := rfl
    rw [e]
    refine W50_S (by simp) ?_
    intro vs
    simp
    refine scall_pure hT (by simp [encR]) (by simp [encR]) ?_
    simp [encR, retW_eq]
  · have e : ev2 6 a b = if b = 0 then (0, 9) else fit (a.tdiv b) := rfl
    rw [e]
    by_cases h0 : b = 0
    · subst h0
      refine W50_S (by simp) ?_
      intro vs
      simp [encR, retW_eq]
    · rw [if_neg h0]
      by_cases h5 : b = -1
      · subst h5
        have e : a.tdiv (-1) = a * -1 := by rw [Int.tdiv_neg, Int.tdiv_one]; omega
        rw [e]
        refine W50_S (by simp) ?_
        intro vs
        simp
        refine scall_pure hT (by simp [encR]) (by simp [encR]) ?_
        simp [encR, retW_eq]
      · have h8 : (a.tdiv b).natAbs ≤ a.natAbs := Int.natAbs_tdiv_le_natAbs a b
        have h9 : isI64 (a.tdiv b) = true := by
          rw [isI64_iff]
          by_cases hw0 : a = -9223372036854775808
          · have h5 : 2 ≤ b.natAbs ∨ b = 1 := by omega
            rcases h5 with h5 | rfl
            · have h6 : (a.tdiv b).natAbs = a.natAbs / b.natAbs := Int.natAbs_tdiv ..
              have h7 : a.natAbs / b.natAbs ≤ a.natAbs / 2 := Nat.div_le_div_left h5 (by omega)
              have h9 : a.natAbs / 2 = 4611686018427387904 := by subst hw0; rfl
              have h10 : (a.tdiv b).natAbs ≤ 4611686018427387904 := by rw [h6, ← h9]; exact h7
              omega
            · rw [Int.tdiv_one]; exact ha'
          · omega
        rw [fit_in h9]
        have w := (isI64_iff _).1 h9
        have w := wrap64 w.1 w.2
        refine W50_S (by simp) ?_
        intro vs
        simp [h0, h5, w, encR, retW_eq]
  · have e : ev2 7 a b = if b = 0 then (0, 9) else (a.tmod b, 0) := rfl
    rw [e]
    by_cases h0 : b = 0
    · subst h0
      refine W50_S (by simp) ?_
      intro vs
      simp [encR, retW_eq]
    · rw [if_neg h0]
      by_cases h5 : b = -1
      · subst h5
        have e : a.tmod (-1) = 0 := by rw [Int.tmod_neg, Int.tmod_one]
        rw [e]
        refine W50_S (by simp) ?_
        intro vs
        simp [encR, retW_eq]
      · refine W50_S (by simp) ?_
        intro vs
        simp [h0, h5, encR, retW_eq]
  · have e : ev2 8 a b = fit (a + b) := rfl
    rw [e]
    refine W50_S (by simp) ?_
    intro vs
    simp
    refine scall_pure hS (by simp [encR]) (by simp [encR]) ?_
    simp [encR, retW_eq]
  · have e : ev2 9 a b = fit (a - b) := rfl
    rw [e]
    by_cases h0 : b = -9223372036854775808
    · subst h0
      by_cases h1 : 0 ≤ a
      · rw [fit_out (by rw [isI64_iff]; omega)]
        refine W50_S (by simp) ?_
        intro vs
        simp [h1, encR, retW_eq]
      · have h9 : isI64 (a - -9223372036854775808) = true := by rw [isI64_iff]; omega
        rw [fit_in h9]
        have w := (isI64_iff _).1 h9
        have w := wrap64 w.1 w.2
        refine W50_S (by simp) ?_
        intro vs
        simp [h1, encR, retW_eq]
        simpa using w
    · have hn : isI64 (-b) = true := by rw [isI64_iff]; omega
      have hS := sp_sum a (-b) ha hn
      have e : a - b = a + -b := by omega
      rw [e]
      have w : IntKind.wrap .i64 (-b) = -b := wrap64 (by omega) (by omega)
      refine W50_S (by simp) ?_
      intro vs
      simp [h0, w]
      refine scall_pure hS (by simp [encR]) (by simp [encR]) ?_
      simp [encR, retW_eq]
  · have e : ev2 10 a b = (truthN (decide (a = b)), 0) := rfl
    rw [e]
    refine W50_S (by simp) ?_
    intro vs
    simp
    refine scall_pure (sp_tru (decide (a = b))) (by simp) (by simp) ?_
    simp [encR, retW_eq]
  · have e : ev2 11 a b = (truthN (decide (a ≠ b)), 0) := rfl
    rw [e]
    refine W50_S (by simp) ?_
    intro vs
    simp
    refine scall_pure (sp_tru (decide (a ≠ b))) (by simp) (by simp) ?_
    simp [encR, retW_eq]
  · have e : ev2 12 a b = (truthN (decide (a < b)), 0) := rfl
    rw [e]
    refine W50_S (by simp) ?_
    intro vs
    simp
    refine scall_pure (sp_tru (decide (a < b))) (by simp) (by simp) ?_
    simp [encR, retW_eq]
  · have e : ev2 13 a b = (truthN (decide (a ≤ b)), 0) := rfl
    rw [e]
    refine W50_S (by simp) ?_
    intro vs
    simp
    refine scall_pure (sp_tru (decide (a ≤ b))) (by simp) (by simp) ?_
    simp [encR, retW_eq]
  · have e : ev2 14 a b = (truthN (decide (b < a)), 0) := rfl
    rw [e]
    refine W50_S (by simp) ?_
    intro vs
    simp
    refine scall_pure (sp_tru (decide (b < a))) (by simp) (by simp) ?_
    simp [encR, retW_eq]
  · have e : ev2 15 a b = (truthN (decide (b ≤ a)), 0) := rfl
    rw [e]
    refine W50_S (by simp) ?_
    intro vs
    simp
    refine scall_pure (sp_tru (decide (b ≤ a))) (by simp) (by simp) ?_
    simp [encR, retW_eq]
theorem Ex.pre_kid {x y z : Ex} (h : y ∈ x.l) (hz : z ∈ Ex.pre y) : z ∈ Ex.pre x := by
  rw [Ex.pre_eq]
  refine List.mem_cons_of_mem _ ?_
  generalize x.l = l at h
  induction l with
  | nil => simp at h
  | cons w l ih =>
    simp only [Ex.pres, List.mem_append]
    rcases List.mem_cons.1 h with rfl | h
    · exact .inl hz
    · exact .inr (ih h)
theorem evE_num {v : List Int} {x : Ex} (h : x.kind = 1) : evE v x = (x.n, 0) := by
  obtain ⟨k, n, s, _ | ⟨y, _ | ⟨z, l⟩⟩⟩ := x <;> (simp only at h; subst h; simp [evE])
theorem evE_var {v : List Int} {x : Ex} (h : x.kind = 2) : evE v x = (v.getD x.n.toNat 0, 0) := by
  obtain ⟨k, n, s, _ | ⟨y, _ | ⟨z, l⟩⟩⟩ := x <;> (simp only at h; subst h; simp [evE])
theorem sp_eev (v : List Int) (hv : ∀ n ∈ v, isI64 n = true) (hvl : v.length ≤ 1000) (x : Ex) (hr : exRight v.length x = true) (hx : ∀ y ∈ Ex.pre x, isI64 y.n = true) :
    Am.Spec Try.prog 25 [.agg (encE x), .sl (encI v)] (encR (evE v x)) := by
  rw [exRight_eq] at hr
  simp only [Bool.and_eq_true, exOk, decide_eq_true_eq] at hr
  obtain ⟨⟨h1, h2, h3, h4, h5⟩, h6⟩ := hr
  have h6 := List.all_eq_true.1 h6
  have ih : ∀ y ∈ x.l, Am.Spec Try.prog 25 [.agg (encE y), .sl (encI v)] (encR (evE v y)) := fun y hy => sp_eev v hv hvl y (h6 y hy) fun z hz => hx z (Ex.pre_kid hy hz)
  have hle : ∀ y ∈ x.l, isI64 (evE v y).1 = true := fun y hy => evE_le v hv y fun z hz => hx z (Ex.pre_kid hy hz)
  by_cases k1 : x.kind = 1
  · rw [evE_num k1]
    refine W25_S (by simp) ?_
    intro vs
    simp [k1, encR, retW_eq]
  by_cases k2 : x.kind = 2
  · rw [if_neg k1, if_pos k2] at h5
    simp only [Bool.and_eq_true, decide_eq_true_eq] at h5
    obtain ⟨i, hi⟩ : ∃ i : Nat, x.n = i := ⟨x.n.toNat, by omega⟩
    have hil : i < v.length := by omega
    have hx0 : ixRows (encI v) (i : Int) 1 = some (.elt [.int .i64 v[i]] 0) := encI_at _ i hil _ rfl
    have e : v.getD x.n.toNat 0 = v[i] := by rw [hi]; simp [List.getD_eq_getElem?_getD, hil]
    have hl : (i : Int) < v.length := by omega
    have hl' : ¬ (v.length : Int) ≤ i := by omega
    have hn : ¬ (i : Int) < 0 := by omega
    rw [evE_var k2, e]
    refine W25_S (by simp) ?_
    intro vs
    simp [k2, hi, hn, hl, hl', hx0, encR, retW_eq]
  by_cases k3 : x.kind = 3 ∨ x.kind = 4
  · obtain ⟨y, hy⟩ : ∃ y, x.l = [y] := by
      rcases hL : x.l with _ | ⟨y, _ | ⟨z, l⟩⟩
      · rw [hL] at h4; rcases k3 with k | k <;> simp [kids, k] at h4
      · exact ⟨y, rfl⟩
      · rw [hL] at h4; rcases k3 with k | k <;> simp [kids, k] at h4 <;> omega
    have hey := ih y (by simp [hy])
    have hly := hle y (by simp [hy])
    rw [evE_one k1 k2 hy]
    generalize evE v y = c at *
    obtain ⟨a, e⟩ := c
    by_cases he : e = 0
    · subst he
      have hA : evA x.kind (a, 0) = if x.kind = 3 then (truthN (decide (a = 0)), 0) else fit (-a) := by simp [evA]
      rw [hA]
      rcases k3 with k | k
      · rw [if_pos k]
        refine W25_S (by simp) ?_
        intro vs
        simp [k, hy]
        refine scall_pure hey (by simp [encR]) (by simp [encR]) ?_
        simp [k, encR]
        refine scall_pure (sp_tru (decide (a = 0))) (by simp) (by simp) ?_
        simp [retW_eq, encR]
      · rw [if_neg (by omega)]
        have ht := sp_tms a (-1) hly (by rfl)
        rw [show a * -1 = -a by omega] at ht
        refine W25_S (by simp) ?_
        intro vs
        simp [k, hy]
        refine scall_pure hey (by simp [encR]) (by simp [encR]) ?_
        simp [k, encR]
        refine scall_pure ht (by simp [encR]) (by simp [encR]) ?_
        simp [retW_eq, encR]
    · have hA : evA x.kind (a, e) = (0, e) := by simp [evA, he]
      rw [hA]
      refine W25_S (by simp) ?_
      intro vs
      simp [k1, k2, hy]
      refine scall_pure hey (by simp [encR]) (by simp [encR]) ?_
      simp [he, retW_eq, encR]
  · obtain ⟨y, z, hy⟩ : ∃ y z, x.l = [y, z] := by
      have hk : kids x.kind = 2 := by unfold kids; rw [if_neg (by omega), if_neg k3]
      rw [hk] at h4
      rcases hL : x.l with _ | ⟨y, _ | ⟨z, _ | ⟨w, l⟩⟩⟩
      · rw [hL] at h4; simp at h4
      · rw [hL] at h4; simp at h4
      · exact ⟨y, z, rfl⟩
      · rw [hL] at h4; simp at h4; omega
    have hey := ih y (by simp [hy])
    have hly := hle y (by simp [hy])
    have hez := ih z (by simp [hy])
    have hlz := hle z (by simp [hy])
    rw [evE_two k1 k2 hy]
    generalize evE v y = c at *
    generalize evE v z = d at *
    obtain ⟨a, e⟩ := c
    obtain ⟨b, f⟩ := d
    have k3' : ¬ x.kind = 3 := by omega
    have k4' : ¬ x.kind = 4 := by omega
    by_cases he : e = 0
    · subst he
      have hB : evB x.kind (a, 0) (b, f) = if x.kind = 16 ∧ a = 0 then (0, 0) else if x.kind = 17 ∧ a ≠ 0 then (1, 0) else if f ≠ 0 then (0, f) else if x.kind = 16 ∨ x.kind = 17 then (truthN (decide (b ≠ 0)), 0) else ev2 x.kind a b := by simp [evB]
      rw [hB]
      by_cases k6 : x.kind = 16 ∧ a = 0
      · rw [if_pos k6]
        obtain ⟨k, rfl⟩ := k6
        refine W25_S (by simp) ?_
        intro vs
        simp [k, hy]
        refine scall_pure hey (by simp [encR]) (by simp [encR]) ?_
        simp [k, retW_eq, encR]
      by_cases k7 : x.kind = 17 ∧ a ≠ 0
      · rw [if_neg k6, if_pos k7]
        obtain ⟨k, ha⟩ := k7
        refine W25_S (by simp) ?_
        intro vs
        simp [k, hy]
        refine scall_pure hey (by simp [encR]) (by simp [encR]) ?_
        simp [k, ha, retW_eq, encR]
      rw [if_neg k6, if_neg k7]
      by_cases k : x.kind = 16
      · have ha : ¬ a = 0 := fun h => k6 ⟨k, h⟩
        by_cases hf : f = 0
        · subst hf
          rw [if_neg (by simp), if_pos (.inl k)]
          refine W25_S (by simp) ?_
          intro vs
          simp [k, hy]
          refine scall_pure hey (by simp [encR]) (by simp [encR]) ?_
          simp [k, ha, hy, encR]
          refine scall_pure hez (by simp [encR]) (by simp [encR]) ?_
          simp [k, encR]
          refine scall_pure (sp_tru (decide (b ≠ 0))) (by simp) (by simp) ?_
          simp [retW_eq, encR]
        · rw [if_pos hf]
          refine W25_S (by simp) ?_
          intro vs
          simp [k, hy]
          refine scall_pure hey (by simp [encR]) (by simp [encR]) ?_
          simp [k, ha, hy, encR]
          refine scall_pure hez (by simp [encR]) (by simp [encR]) ?_
          simp [hf, retW_eq, encR]
      by_cases k' : x.kind = 17
      · have ha : a = 0 := by
          by_cases h : a = 0
          · exact h
          · exact absurd ⟨k', h⟩ k7
        by_cases hf : f = 0
        · subst hf
          rw [if_neg (by simp), if_pos (.inr k')]
          refine W25_S (by simp) ?_
          intro vs
          simp [k', hy]
          refine scall_pure hey (by simp [encR]) (by simp [encR]) ?_
          simp [k', ha, hy, encR]
          refine scall_pure hez (by simp [encR]) (by simp [encR]) ?_
          simp [k', encR]
          refine scall_pure (sp_tru (decide (b ≠ 0))) (by simp) (by simp) ?_
          simp [retW_eq, encR]
        · rw [if_pos hf]
          refine W25_S (by simp) ?_
          intro vs
          simp [k', hy]
          refine scall_pure hey (by simp [encR]) (by simp [encR]) ?_
          simp [k', ha, hy, encR]
          refine scall_pure hez (by simp [encR]) (by simp [encR]) ?_
          simp [hf, retW_eq, encR]
      · by_cases hf : f = 0
        · subst hf
          have h2 := sp_two x.kind a b ⟨by omega, by omega⟩ hly hlz
          rw [if_neg (by simp), if_neg (by simp [k, k'])]
          generalize ev2 x.kind a b = c at *
          refine W25_S (by simp) ?_
          intro vs
          simp [k1, k2, hy]
          refine scall_pure hey (by simp [encR]) (by simp [encR]) ?_
          simp [k, k', k3', k4', hy, encR]
          refine scall_pure hez (by simp [encR]) (by simp [encR]) ?_
          simp [k, k', encR]
          refine scall_pure h2 (by simp [encR]) (by simp [encR]) ?_
          simp [retW_eq, encR]
        · rw [if_pos hf]
          refine W25_S (by simp) ?_
          intro vs
          simp [k1, k2, hy]
          refine scall_pure hey (by simp [encR]) (by simp [encR]) ?_
          simp [k, k', k3', k4', hy, encR]
          refine scall_pure hez (by simp [encR]) (by simp [encR]) ?_
          simp [hf, retW_eq, encR]
    · have hA : evB x.kind (a, e) (b, f) = (0, e) := by simp [evB, he]
      rw [hA]
      refine W25_S (by simp) ?_
      intro vs
      simp [k1, k2, hy]
      refine scall_pure hey (by simp [encR]) (by simp [encR]) ?_
      simp [he, retW_eq, encR]
termination_by SizeOf.sizeOf x
decreasing_by exact Ex.lt_of_mem hy
end Go.Proofs.Ytnngddgaobhkiaa
set_option linter.unusedVariables false
set_option linter.unusedSimpArgs false
namespace Go.Proofs.Ytnngddgaobhkiaa
open Go Go.Am Go.RowKit
attribute [local simp] W10 W10_rs W10_b1 W10_b2 W10_b3 W10_b4 W10_b10 W10_b11 W10_b13 W10_b15 W10_b17 W10_b19 W10_b20 W10_b21 W10_b22 W10_b23 W10_b25 W10_b26 W10_b27 W10_b28 W10_b29 W10_b30 W10_b31 W10_b32 W10_b33 W10_b34 W10_b37 W10_b43 W10_b44 W10_k9 W10_k35 W10_s50 W10_g51

/-! ### A step that is done -/
/-- A scope that is left by one jump at most. -/
theorem sScope_out {s : St} {B g : (Nat → St → Prop) → St → Prop} (I : St → Prop) (hB : ∀ J : Nat → St → Prop, (∀ s, I s → J 0 s) → B J s) (hg : ∀ J s, I s → g J s) : @sScope s ⟨B⟩ ⟨[(0, g)]⟩ := by
  unfold sScope
  refine ⟨fun l m s => l = 0 ∧ I s, hB _ fun s h => ⟨0, s, .refl s, rfl, h⟩, fun l m s h => ?_⟩
  obtain ⟨rfl, h⟩ := h
  exact hg _ s h
theorem no_f (e : Int) : (Did.no e).f = .zero := rfl
theorem no_ev (e : Int) : (Did.no e).ev = .zero := rfl
theorem no_is (e : Int) : (Did.no e).is = false := rfl
theorem no_e (e : Int) : (Did.no e).e = e := rfl
theorem encF_zero : encF .zero = [.int .i64 0, .int .i64 0, .int .i64 0, .str ⟨#[]⟩, .int .i64 0, .int .i64 0, .str ⟨#[]⟩, .sl [], .sl [], .sl [], .sl [], .int .i64 0, .int .i64 0] := by rw [encF_eq]; rfl
theorem encEv_zero : encEv .zero = [.str ⟨#[]⟩, .int .i64 0, .int .i64 0] := rfl
theorem onP_len {t : Tm} {p : List Int} (h : OnPath t p) : p.length ≤ t.wt := by
  induction h with
  | nil t => simp
  | cons t i h p hp ih =>
    have h1 := Tm.wt_eq t
    have h2 := Tm.wts_mem (List.getElem_mem h)
    simp only [List.length_cons]
    omega
def didR (d : Did) : AV := .tup [.agg (encF d.f), .agg (encEv d.ev), .bool d.is, .int .i64 d.e]
def doH (c : Cor) (f g : Cfg) (vars : List Int) (ev : Ev) (B11 : List AV) (x : Tm) (cs : List AV) (v3 v4 v6 v7 v60 v11 v12 v14 : Nat) : List (Nat × Blk) :=
  [(3, .box v3 33 (encC c)), (4, .box v4 36 (encF f)), (6, .box v6 36 (encFL g 60 v60)), (7, .box v7 39 (encEv ev)), (60, .row v60 3 1 (encI vars)),
    (11, .box v11 53 B11), (12, .box v12 29 (encT x)), (14, .box v14 29 cs)]
/-- Where a fault is told. -/
def doI (r : AV) (s : St) : Prop := ∃ (T : List (Nat × AV)) (VS : Nat → Nat) (e : Int) (c : Cor) (f g : Cfg) (vars : List Int) (ev : Ev) (B11 : List AV) (x : Tm) (cs : List AV) (v3 v4 v6 v7 v60 v11 v12 v14 : Nat),
  s = ⟨Am.look T, hls (doH c f g vars ev B11 x cs v3 v4 v6 v7 v60 v11 v12 v14) VS, noG⟩ ∧ Am.look T 6 = .ref 6 v6 (.p 0) ∧ Am.look T 7 = .ref 7 v7 (.p 0) ∧ Am.look T 9 = .int .i64 e ∧ r = didR (.no e)
@[simp] theorem encEv_len (ev : Ev) : (encEv ev).length = 3 := rfl
@[simp] theorem encEv_ok (ev : Ev) : (encEv ev).all AV.cell = true := rfl
@[simp] theorem encEv_cell (ev : Ev) : ∀ c ∈ encEv ev, c.cell = true := by simp [encEv]
theorem do_g51 (r : AV) (J : Nat → St → Prop) (s : St) (h : doI r s) : W10_g51 (retK Try.prog [.cell 6 36, .cell 7 39, .tmp 8, .tmp 9] r) J s := by
  obtain ⟨T, VS, e, c, f, g, vars, ev, B11, x, cs, v3, v4, v6, v7, v60, v11, v12, v14, rfl, h6, h7, h9, rfl⟩ := h
  simp only [didR, no_f, no_ev, no_is, no_e, encF_zero, encEv_zero, doH]
  simp [h6, h7, h9, retW_eq, encEv]
theorem do_k9 (c : Cor) (f g : Cfg) (vars : List Int) (ev : Ev) (is : Bool) (B11 : List AV) (x y : Tm) (cs : List AV) (p : List Int) (v3 v4 v6 v7 v60 v11 v12 v14 : Nat) (hT : TellsT cs y)
    (hon : OnPath g.t p) (hpl : p.length ≤ 137438953472) (hlok : g.t.lok) (hwt : (putT g.t p y).wt ≤ 137438953472) (hwn : (putT g.t p y).norm.wt ≤ 137438953472) (hsn : (putT g.t p y).norm.size ≤ 1000000) (hss : stSize g.st ≤ 1000000)
    (hsl : g.st.length ≤ 137438953472) (hsk : ∀ l ∈ g.st, l.length ≤ 137438953472) (hst : 0 ≤ g.steps ∧ g.steps ≤ 5000)
    (J : Nat → St → Prop) (r : AV) (hJ : ∀ s, doI r s → J 0 s)
    (hr : r = didR (if 2000 < (putT g.t p y).norm.size + stSize g.st then .no 11 else ⟨⟨(putT g.t p y).norm, vars, g.st, g.steps + 1, g.key⟩, ev, is, 0⟩))
    (T : List (Nat × AV)) (VS : Nat → Nat) (h6 : Am.look T 6 = .ref 6 v6 (.p 0)) (h7 : Am.look T 7 = .ref 7 v7 (.p 0)) (h8 : Am.look T 8 = .bool is) (h13 : Am.look T 13 = .sl (encI p)) (h14 : Am.look T 14 = .ref 14 v14 (.p 0)) :
    W10_k9 (retK Try.prog [.cell 6 36, .cell 7 39, .tmp 8, .tmp 9] r) J ⟨Am.look T, hls (doH c f g vars ev B11 x cs v3 v4 v6 v7 v60 v11 v12 v14) VS, noG⟩ := by
  have h1 := sp_put p g.t y hon hpl hlok
  have h2 := sp_nrm (putT g.t p y) hwt
  have h3 := sp_sz (putT g.t p y).norm (by omega)
  have h4 := sp_ssz g.st hss hsl hsk
  have hrd := readA_whole hT.len
  have hpu := hT.pur
  have hfz := hT.frz
  have hnn := stSize_nn g.st
  have hpos := (putT g.t p y).norm.size_pos
  have e1 := setFL_t g 60 v60 (putT g.t p y).norm
  generalize (putT g.t p y).norm = n at *
  generalize putT g.t p y = m at *
  have e2 : setL (encFL { g with t := n } 60 v60) 11 [.int .i64 (g.steps + 1)] = encFL { g with t := n, steps := g.steps + 1 } 60 v60 := by rw [encFL_eq, encFL_eq]; rfl
  have w1 : IntKind.wrap .i64 (g.steps + 1) = g.steps + 1 := wrap64 (by omega) (by omega)
  have w2 : IntKind.wrap .i64 (n.size + stSize g.st) = n.size + stSize g.st := wrap64 (by omega) (by omega)
  by_cases h : 2000 < n.size + stSize g.st
  · rw [if_pos h] at hr
    simp only [doH]
    simp [h6, h7, h8, h13, h14, hrd, hpu, hfz]
    refine scall_pure h1 (by simp [hpu, hfz]) (by simp [hpu, hfz]) ?_
    simp [hfz]
    refine scall_pure h2 (by simp) (by simp) ?_
    simp [h6, e1, e2, w1]
    refine scall0_pure h3 (by simp) (by simp) ?_
    simp [h6]
    refine scall0_pure h4 (by simp) (by simp) ?_
    simp [h6, w2, h]
    refine hJ _ ⟨_, VS, 11, c, f, { g with t := n, steps := g.steps + 1 }, vars, ev, B11, x, cs, v3, v4, v6, v7, v60, v11, v12, v14, rfl, ?_, ?_, ?_, hr⟩
    · simp [h6]
    · simp [h7]
    · simp
  · rw [if_neg h] at hr
    subst hr
    have h' : ¬ 2000 < n.size + stSize g.st := h
    simp only [doH]
    simp [h6, h7, h8, h13, h14, hrd, hpu, hfz]
    refine scall_pure h1 (by simp [hpu, hfz]) (by simp [hpu, hfz]) ?_
    simp [hfz]
    refine scall_pure h2 (by simp) (by simp) ?_
    simp [h6, e1, e2, w1]
    refine scall0_pure h3 (by simp) (by simp) ?_
    simp [h6]
    refine scall0_pure h4 (by simp) (by simp) ?_
    simp [h6, h7, h8, w2, h', encEv]
    simp [retW_eq, h6, h7, didR, encEv]
    rw [fl_ret _ _ 60 v60 3 vars (by simp)]
    exact ⟨by simp, rfl⟩
theorem do_fin (c : Cor) (f : Cfg) {vn sn : Int} (he : Env8 vn sn c.procs) (hf : OkF vn sn c.procs f) (hvn : vn ≤ 1000) (hsn : sn ≤ 1000) (st : Stp3) (hs : st ∈ f.t.enabled) (t : Tm) (vars : List Int) (sts : List (List Tm)) (key : Int) (ev : Ev) (is : Bool)
    (hd : deed c.procs f (atT f.t st.2.1) st.2.2 = ⟨t, vars, sts, key, ev, is, 0⟩) (B11 : List AV) (x : Tm) (cs : List AV) (v3 v4 v6 v7 v60 v11 v12 v14 : Nat) (hT : TellsT cs t)
    (J : Nat → St → Prop) (r : AV) (hJ : ∀ s, doI r s → J 0 s)
    (hr : r = didR (if (deed c.procs f (atT f.t st.2.1) st.2.2).e ≠ 0 then .no (deed c.procs f (atT f.t st.2.1) st.2.2).e
      else if 2000 < (putT f.t (toP f.t st) (deed c.procs f (atT f.t st.2.1) st.2.2).t).norm.size + stSize (deed c.procs f (atT f.t st.2.1) st.2.2).st then .no 11
      else ⟨⟨(putT f.t (toP f.t st) (deed c.procs f (atT f.t st.2.1) st.2.2).t).norm, (deed c.procs f (atT f.t st.2.1) st.2.2).vars, (deed c.procs f (atT f.t st.2.1) st.2.2).st, f.steps + 1, (deed c.procs f (atT f.t st.2.1) st.2.2).key⟩, (deed c.procs f (atT f.t st.2.1) st.2.2).ev, (deed c.procs f (atT f.t st.2.1) st.2.2).is, 0⟩))
    (T : List (Nat × AV)) (VS : Nat → Nat) (h6 : Am.look T 6 = .ref 6 v6 (.p 0)) (h7 : Am.look T 7 = .ref 7 v7 (.p 0)) (h8 : Am.look T 8 = .bool is) (h13 : Am.look T 13 = .sl (encI (toP f.t st))) (h14 : Am.look T 14 = .ref 14 v14 (.p 0)) :
    W10_k9 (retK Try.prog [.cell 6 36, .cell 7 39, .tmp 8, .tmp 9] r) J ⟨Am.look T, hls (doH c f ⟨f.t, f.vars, sts, f.steps, key⟩ vars ev B11 x cs v3 v4 v6 v7 v60 v11 v12 v14) VS, noG⟩ := by
  have hdo := step_deed he hf hs
  have hpo := put_ok he hf hs
  have hso := step_ok f.t st (by rw [← enabled_eq hf.norm]; exact hs)
  have hact := toP_act hso.act
  have hon := actP_on hact
  rw [hd] at hr hdo hpo
  have hwt := hf.wt
  have hok := right_okN _ _ _ _ _ hpo.t
  have hnw := Tm.norm_wt (putT f.t (toP f.t st) t)
  have hpw := hpo.wt
  have hns := norm_size _ hok
  have hps := hpo.size
  have hlen := onP_len hon
  have h1 := hdo.stsz
  have h2 := hdo.st
  simp only at hr h1 h2 hpw hps hns
  refine do_k9 c f ⟨f.t, f.vars, sts, f.steps, key⟩ vars ev is B11 x t cs (toP f.t st) v3 v4 v6 v7 v60 v11 v12 v14 hT hon ?_ (Tm.lok_of_wt _ ?_) hpw ?_ ?_ ?_ ?_ ?_ ?_ J r hJ ?_ T VS h6 h7 h8 h13 h14
  · try simp only
    omega
  · try simp only
    omega
  · try simp only
    omega
  · try simp only
    omega
  · try simp only
    omega
  · try simp only
    omega
  · intro l hl
    have hl : l ∈ sts := hl
    have := stSize_mem hl
    have := sizes_len l
    omega
  · have := hf.steps; simp only; omega
  · rw [hr, if_neg (by simp)]
theorem tells_wait (k a : Int) (n : ByteArray) : TellsT [.int .i64 14, .int .i64 k, .int .i64 a, .str n, .int .i64 0, .int .i64 0, .str ⟨#[]⟩, .nils, .nils] ⟨14, k, a, n, .zero, []⟩ where
  len := rfl
  ok := rfl
  pur := fun H => by rw [encT_eq]; rfl
  frz := fun H => rfl
theorem len_two {l : List Tm} (h : l.length = 2) : ∃ y z, l = [y, z] := by
  rcases l with _ | ⟨y, _ | ⟨z, _ | ⟨w, l⟩⟩⟩
  · simp at h
  · simp at h
  · exact ⟨y, z, rfl⟩
  · simp at h
theorem stAt_nat {s : List (List Tm)} {a : Nat} (h : a < s.length) : stAt s a = s[a] := by rw [stAt, List.getD_eq_getElem?_getD, Int.toNat_natCast, List.getElem?_eq_getElem h]; rfl
theorem setFL_12 (f : Cfg) (j v : Nat) (k : Int) : setL (encFL f j v) 12 [.int .i64 k] = encFL { f with key := k } j v := by rw [encFL_eq, encFL_eq]; rfl
theorem do_k35 (c : Cor) (f : Cfg) {vn sn : Int} (he : Env8 vn sn c.procs) (hf : OkF vn sn c.procs f) (hvn : vn ≤ 1000) (hsn : sn ≤ 1000) (st : Stp3) (hs : st ∈ f.t.enabled) (val : Int)
    (hval : (atT f.t st.2.1).kind = 2 ∨ (atT f.t st.2.1).kind = 9 → evE f.vars (atT f.t st.2.1).e = (val, 0)) (v3 v4 v6 v7 v60 v11 v12 v14 : Nat)
    (J : Nat → St → Prop) (r : AV) (hJ : ∀ s, doI r s → J 0 s) (hr : r = didR (if (deed c.procs f (atT f.t st.2.1) st.2.2).e ≠ 0 then .no (deed c.procs f (atT f.t st.2.1) st.2.2).e
      else if 2000 < (putT f.t (toP f.t st) (deed c.procs f (atT f.t st.2.1) st.2.2).t).norm.size + stSize (deed c.procs f (atT f.t st.2.1) st.2.2).st then .no 11
      else ⟨⟨(putT f.t (toP f.t st) (deed c.procs f (atT f.t st.2.1) st.2.2).t).norm, (deed c.procs f (atT f.t st.2.1) st.2.2).vars, (deed c.procs f (atT f.t st.2.1) st.2.2).st, f.steps + 1, (deed c.procs f (atT f.t st.2.1) st.2.2).key⟩, (deed c.procs f (atT f.t st.2.1) st.2.2).ev, (deed c.procs f (atT f.t st.2.1) st.2.2).is, 0⟩))
    (T : List (Nat × AV)) (VS : Nat → Nat) (h3 : Am.look T 3 = .ref 3 v3 (.p 0)) (h6 : Am.look T 6 = .ref 6 v6 (.p 0)) (h7 : Am.look T 7 = .ref 7 v7 (.p 0)) (h8 : Am.look T 8 = .bool false) (h11 : Am.look T 11 = .ref 11 v11 (.p 0))
    (h12 : Am.look T 12 = .ref 12 v12 (.p 0)) (h13 : Am.look T 13 = .sl (encI st.2.1)) (h14 : Am.look T 14 = .ref 14 v14 (.p 0)) (h15 : Am.look T 15 = .int .i64 val) :
    W10_k35 (retK Try.prog [.cell 6 36, .cell 7 39, .tmp 8, .tmp 9] r) J
      ⟨Am.look T, hls [(3, .box v3 33 (encC c)), (4, .box v4 36 (encF f)), (6, .box v6 36 (encFL f 60 v60)), (7, .box v7 39 [.str ⟨#[]⟩, .int .i64 0, .int .i64 0]), (60, .row v60 3 1 (encI f.vars)),
    (11, .box v11 53 [.int .i64 st.1, .sl (encI st.2.1), .int .i64 st.2.2]), (12, .box v12 29 (encT (atT f.t st.2.1))), (14, .box v14 29 [.int .i64 0, .int .i64 0, .int .i64 0, .str ⟨#[]⟩, .int .i64 0, .int .i64 0, .str ⟨#[]⟩, .nils, .nils])] VS, noG⟩ := by
  have hfin := fun t vars sts key ev is hd B11 x cs => do_fin c f he hf hvn hsn st hs t vars sts key ev is hd B11 x cs v3 v4 v6 v7 v60 v11 v12 v14
  have hso := step_ok f.t st (by rw [← enabled_eq hf.norm]; exact hs)
  have hxr := at_right _ _ _ hso.act _ hf.t
  have hon := actP_on hso.act
  have hpl := onP_len hon
  have hwt := hf.wt
  have hblk := sp_blk f.t st.2.1 hon (by omega)
  obtain ⟨hok, ⟨hk0, hk1⟩, -⟩ := right_ok hxr
  have hks := hso.some
  rw [hso.kind] at hks
  have halt := hso.alt
  rw [hso.kind] at halt
  have hto : toP f.t st = if (atT f.t st.2.1).kind = 8 then st.2.1.take (outT f.t st.2.1 0 0) else st.2.1 := rfl
  have hslen := hf.slen hsn
  have hrow := hf.srow
  have hkey := hf.key
  have hsteps := hf.steps
  have hst := hf.st
  have hvars := hf.vars
  have hxe := allE_at hon hf.ex
  have hxw := allE_wt _ hxe
  have hxs := size_at hon
  have hfs := hf.size
  have hfn := stSize_nn f.st
  have wkey : IntKind.wrap .i64 (f.key + 1) = f.key + 1 := wrap64 (by omega) (by omega)
  have s10 := fun sts => setFL_10 f 60 v60 sts
  have s12 := fun k => setFL_12 f 60 v60 k
  have hkids : ∀ y ∈ (atT f.t st.2.1).l, y.lok := fun y hy => Tm.lok_of_wt y (by have := allE_wt y (allE_kid hxe y hy); have := size_kid hy; omega)
  have hdeed : deed c.procs f (atT f.t st.2.1) st.2.2 = deed c.procs f (atT f.t st.2.1) st.2.2 := rfl
  generalize hx : atT f.t st.2.1 = x at *
  have cases : x.kind = 1 ∨ x.kind = 2 ∨ x.kind = 3 ∨ x.kind = 4 ∨ x.kind = 5 ∨ x.kind = 6 ∨ x.kind = 8 ∨ x.kind = 9 ∨ x.kind = 10 ∨ x.kind = 13 := by omega
  rcases cases with k | k | k | k | k | k | k | k | k | k
  · -- TDo
    rw [k, if_neg (by omega)] at hto
    simp [-W10_k9, k, h3, h6, h7, h8, h11, h12, h13, h14, h15, wkey, s12]
    refine hfin ⟨14, f.key, x.a, x.name, .zero, []⟩ f.vars f.st (f.key + 1) ⟨x.name, f.key, 0⟩ true (by unfold deed; rw [if_pos k]) _ x _ (tells_wait _ _ _) J r hJ hr _ VS ?_ ?_ ?_ ?_ ?_
    · simp [h6]
    · simp [h7]
    · simp
    · simp [h13, hto]
    · simp [h14]
  · -- TSet
    rw [k, if_neg (by omega)] at hto
    have ha := ok_a hok; rw [k] at ha
    have ha := num1 (s := sn) (p := c.procs.length) ha
    have ha0 := ha.1
    have ha1 : x.a < f.vars.length := by omega
    have hlt : x.a.toNat < f.vars.length := by omega
    have eset : (encI f.vars).set x.a.toNat [.int .i64 val] = encI (f.vars.set x.a.toNat val) := by simp [encI, List.map_set]
    simp [-W10_k9, k, h3, h6, h7, h8, h11, h12, h13, h14, h15, ha0, ha1, eset]
    refine hfin .skip (f.vars.set x.a.toNat val) f.st f.key .zero false (by unfold deed; rw [if_neg (by omega), if_pos k]; rw [hval (.inl k), if_pos rfl]) _ x _ tells_zero J r hJ hr _ VS ?_ ?_ ?_ ?_ ?_
    · simp [h6]
    · simp [h7]
    · simp [h8]
    · simp [h13, hto]
    · simp [h14]
  · -- TPush
    rw [k, if_neg (by omega)] at hto
    have ha := ok_a hok; rw [k] at ha
    have ha := num3 (v := vn) (p := c.procs.length) ha
    obtain ⟨a, hxa⟩ : ∃ a : Nat, x.a = a := ⟨x.a.toNat, by omega⟩
    have hl := ok_l hok; rw [k] at hl
    have hl : (x.l.length : Int) = 1 := hl
    obtain ⟨y, hy⟩ : ∃ y, x.l = [y] := List.length_eq_one_iff.1 (by omega)
    have hp := sp_psh f.st a y (by omega) (by omega) (fun l hl => by have := hrow l hl; exact ⟨by omega, this.2⟩) (hkids y (by rw [hy]; simp))
    simp [-W10_k9, k, h3, h6, h7, h8, h11, h12, h13, h14, h15, hxa, hy]
    refine scall0_pure hp (by simp) (by simp) ?_
    simp [-W10_k9, k, h3, h6, h7, h8, h11, h12, h13, h14, h15, s10]
    refine hfin .skip f.vars (stPush f.st a y) f.key .zero false (by unfold deed; rw [if_neg (by omega), if_neg (by omega), if_pos k]; rw [hxa, hy]; rfl) _ x _ tells_zero J r hJ hr _ VS ?_ ?_ ?_ ?_ ?_
    · simp [h6]
    · simp [h7]
    · simp [h8]
    · simp [h13, hto]
    · simp [h14]
  · -- TReverse
    rw [k, if_neg (by omega)] at hto
    have ha := ok_a hok; rw [k] at ha
    have ha := num3 (v := vn) (p := c.procs.length) ha
    obtain ⟨a, hxa⟩ : ∃ a : Nat, x.a = a := ⟨x.a.toNat, by omega⟩
    have hal : a < f.st.length := by omega
    have hp := sp_rev f.st a hal (by omega) (fun l hl => by have := hrow l hl; exact ⟨by omega, this.2⟩)
    simp [-W10_k9, k, h3, h6, h7, h8, h11, h12, h13, h14, h15, hxa]
    refine scall_pure hp (by simp) (by simp) ?_
    simp [-W10_k9, k, h3, h6, h7, h8, h11, h12, h13, h14, h15, s10]
    refine hfin (stRev f.st[a]) f.vars (stAccept f.st a) f.key .zero false (by unfold deed; rw [if_neg (by omega), if_neg (by omega), if_neg (by omega), if_pos k]; rw [hxa, stAt_nat hal]) _ x _ (tells_enc _) J r hJ hr _ VS ?_ ?_ ?_ ?_ ?_
    · simp [h6]
    · simp [h7]
    · simp [h8]
    · simp [h13, hto]
    · simp [h14]
  · -- TAccept
    rw [k, if_neg (by omega)] at hto
    have ha := ok_a hok; rw [k] at ha
    have ha := num3 (v := vn) (p := c.procs.length) ha
    have hp := sp_acc f.st x.a (by omega) (by omega) (fun l hl => by have := hrow l hl; exact ⟨by omega, this.2⟩)
    simp [-W10_k9, k, h3, h6, h7, h8, h11, h12, h13, h14, h15]
    refine scall_pure hp (by simp) (by simp) ?_
    simp [-W10_k9, k, h3, h6, h7, h8, h11, h12, h13, h14, h15, s10]
    refine hfin .skip f.vars (stAccept f.st x.a) f.key .zero false (by unfold deed; rw [if_neg (by omega), if_neg (by omega), if_neg (by omega), if_neg (by omega), if_pos k]) _ x _ tells_zero J r hJ hr _ VS ?_ ?_ ?_ ?_ ?_
    · simp [h6]
    · simp [h7]
    · simp [h8]
    · simp [h13, hto]
    · simp [h14]
  · -- TMerge
    rw [k, if_neg (by omega)] at hto
    have ha := ok_a hok; rw [k] at ha
    have ha := num3 (v := vn) (p := c.procs.length) ha
    have hb := ok_b hok; rw [k] at hb
    have hb := num3 (v := vn) (p := c.procs.length) hb
    obtain ⟨a, hxa⟩ : ∃ a : Nat, x.a = a := ⟨x.a.toNat, by omega⟩
    obtain ⟨b, hxb⟩ : ∃ b : Nat, x.b = b := ⟨x.b.toNat, by omega⟩
    have hp : Am.Spec Try.prog 21 [.sl (encSt f.st), .int .i64 a, .int .i64 b] (.sl (encSt (stMerge f.st a b))) := by
      by_cases hab : a = b
      · subst hab
        have := sp_mrg0 f.st a (by omega) (fun l hl => by have := hrow l hl; exact ⟨by omega, this.2⟩)
        rw [show stMerge f.st a a = f.st from by rw [stMerge, if_pos rfl]]
        exact this
      · exact sp_mrg f.st a b hab (by omega) (by omega) (by omega) (fun l hl => by have := hrow l hl; exact ⟨by omega, this.2⟩)
    simp [-W10_k9, k, h3, h6, h7, h8, h11, h12, h13, h14, h15, hxa, hxb]
    refine scall_pure hp (by simp) (by simp) ?_
    simp [-W10_k9, k, h3, h6, h7, h8, h11, h12, h13, h14, h15, s10]
    refine hfin .skip f.vars (stMerge f.st a b) f.key .zero false (by unfold deed; rw [if_neg (by omega), if_neg (by omega), if_neg (by omega), if_neg (by omega), if_neg (by omega), if_pos k]; rw [hxa, hxb]) _ x _ tells_zero J r hJ hr _ VS ?_ ?_ ?_ ?_ ?_
    · simp [h6]
    · simp [h7]
    · simp [h8]
    · simp [h13, hto]
    · simp [h14]
  · -- TExit
    rw [k, if_pos rfl] at hto
    simp [-W10_k9, k, h3, h6, h7, h8, h11, h12, h13, h14, h15]
    refine scall_pure hblk (by simp) (by simp) ?_
    simp [-W10_k9, k, h3, h6, h7, h8, h11, h12, h13, h14, h15]
    refine hfin .skip f.vars f.st f.key .zero false (by unfold deed; rw [if_neg (by omega), if_neg (by omega), if_neg (by omega), if_neg (by omega), if_neg (by omega), if_neg (by omega), if_neg (by omega), if_neg (by omega), if_neg (by omega)]) _ x _ tells_zero J r hJ hr _ VS ?_ ?_ ?_ ?_ ?_
    · simp [h6]
    · simp [h7]
    · simp [h8]
    · simp [h13, hto]
    · simp [h14]
  · -- TIf
    rw [k, if_neg (by omega)] at hto
    have hl := ok_l hok; rw [k] at hl
    have hl : (x.l.length : Int) = 2 := hl
    obtain ⟨y, z, hy⟩ : ∃ y z, x.l = [y, z] := len_two (by omega)
    by_cases hv : val = 0
    · simp [-W10_k9, k, h3, h6, h7, h8, h11, h12, h13, h14, h15, hy, hv]
      refine hfin z f.vars f.st f.key .zero false (by unfold deed; rw [if_neg (by omega), if_neg (by omega), if_neg (by omega), if_neg (by omega), if_neg (by omega), if_neg (by omega), if_pos k]; rw [hval (.inr k), hy, if_neg (by simp [hv])]; rfl) _ x _ (tells_enc _) J r hJ hr _ VS ?_ ?_ ?_ ?_ ?_
      · simp [h6]
      · simp [h7]
      · simp [h8]
      · simp [h13, hto]
      · simp [h14]
    · simp [-W10_k9, k, h3, h6, h7, h8, h11, h12, h13, h14, h15, hy, hv]
      refine hfin y f.vars f.st f.key .zero false (by unfold deed; rw [if_neg (by omega), if_neg (by omega), if_neg (by omega), if_neg (by omega), if_neg (by omega), if_neg (by omega), if_pos k]; rw [hval (.inr k), hy, if_pos (by simpa using hv)]; rfl) _ x _ (tells_enc _) J r hJ hr _ VS ?_ ?_ ?_ ?_ ?_
      · simp [h6]
      · simp [h7]
      · simp [h8]
      · simp [h13, hto]
      · simp [h14]
  · -- TChoose
    rw [k, if_neg (by omega)] at hto
    have hl := ok_l hok; rw [k] at hl
    have hl : (x.l.length : Int) = 2 := hl
    obtain ⟨y, z, hy⟩ : ∃ y z, x.l = [y, z] := len_two (by omega)
    rw [if_pos k] at halt
    have h01 : st.2.2 = 0 ∨ st.2.2 = 1 := by omega
    rcases h01 with hv | hv
    · simp [-W10_k9, k, h3, h6, h7, h8, h11, h12, h13, h14, h15, hy, hv]
      refine hfin y f.vars f.st f.key .zero false (by unfold deed; rw [if_neg (by omega), if_neg (by omega), if_neg (by omega), if_neg (by omega), if_neg (by omega), if_neg (by omega), if_neg (by omega), if_pos k]; rw [hv, hy]; rfl) _ x _ (tells_enc _) J r hJ hr _ VS ?_ ?_ ?_ ?_ ?_
      · simp [h6]
      · simp [h7]
      · simp [h8]
      · simp [h13, hto]
      · simp [h14]
    · simp [-W10_k9, k, h3, h6, h7, h8, h11, h12, h13, h14, h15, hy, hv]
      refine hfin z f.vars f.st f.key .zero false (by unfold deed; rw [if_neg (by omega), if_neg (by omega), if_neg (by omega), if_neg (by omega), if_neg (by omega), if_neg (by omega), if_neg (by omega), if_pos k]; rw [hv, hy]; rfl) _ x _ (tells_enc _) J r hJ hr _ VS ?_ ?_ ?_ ?_ ?_
      · simp [h6]
      · simp [h7]
      · simp [h8]
      · simp [h13, hto]
      · simp [h14]
  · -- TCall
    rw [k, if_neg (by omega)] at hto
    have ha := ok_a hok; rw [k] at ha
    have ha := num4 (v := vn) (s := sn) ha
    obtain ⟨a, hxa⟩ : ∃ a : Nat, x.a = a := ⟨x.a.toNat, by omega⟩
    have hal : a < c.procs.length := by omega
    have hix : ixRows (c.procs.map encT) (a : Int) 9 = some (.elt (encT c.procs[a]) 0) := by rw [ixRows_nat]; simp [List.getElem?_eq_getElem hal]
    simp [-W10_k9, k, h3, h6, h7, h8, h11, h12, h13, h14, h15, hxa, hix]
    refine hfin c.procs[a] f.vars f.st f.key .zero false (by unfold deed; rw [if_neg (by omega), if_neg (by omega), if_neg (by omega), if_neg (by omega), if_neg (by omega), if_neg (by omega), if_neg (by omega), if_neg (by omega), if_pos k]; rw [hxa, Int.toNat_natCast, List.getElem?_eq_getElem hal]; rfl) _ x _ (tells_enc _) J r hJ hr _ VS ?_ ?_ ?_ ?_ ?_
    · simp [h6]
    · simp [h7]
    · simp [h8]
    · simp [h13, hto]
    · simp [h14]
theorem sp_do (c : Cor) (f : Cfg) (pick : Int) {vn sn : Int} (he : Env8 vn sn c.procs) (hf : OkF vn sn c.procs f) (hvn : vn ≤ 1000) (hsn : sn ≤ 1000) :
    Am.Spec Try.prog 10 [.agg (encC c), .agg (encF f), .int .i64 pick] (.tup [.agg (encF (doM c.procs f pick).f), .agg (encEv (doM c.procs f pick).ev), .bool (doM c.procs f pick).is, .int .i64 (doM c.procs f pick).e]) := by
  have hwt := hf.wt
  have henb := sp_enb f.t (by omega)
  have ho := hs_rown f (by omega) (by have := hf.vlen hvn; omega) (by have := hf.slen hsn; omega) (fun l hl => by have := hf.srow l hl; exact ⟨by omega, this.2⟩)
  rw [hf.norm] at ho
  rw [doM_eq hf.norm]
  by_cases h0 : pick < 0
  · rw [if_pos h0]
    simp only [no_f, no_ev, no_is, no_e, encF_zero, encEv_zero]
    refine W10_S (by simp) ?_
    intro vs
    simp
    refine sScope_straight fun J => ?_
    simp
    refine scall_pure henb (by simp) (by simp) ?_
    simp [h0, retW_eq]
  rw [if_neg h0]
  by_cases h1 : (f.t.enabled.length : Int) ≤ pick
  · rw [List.getElem?_eq_none (by omega)]
    simp only [no_f, no_ev, no_is, no_e, encF_zero, encEv_zero]
    refine W10_S (by simp) ?_
    intro vs
    simp
    refine sScope_straight fun J => ?_
    simp
    refine scall_pure henb (by simp) (by simp) ?_
    simp [h0, h1, retW_eq]
  have hlt : pick.toNat < f.t.enabled.length := by omega
  rw [List.getElem?_eq_getElem hlt]
  simp only
  by_cases h2 : 5000 ≤ f.steps
  · rw [if_pos h2]
    simp only [no_f, no_ev, no_is, no_e, encF_zero, encEv_zero]
    refine W10_S (by simp) ?_
    intro vs
    simp
    refine sScope_straight fun J => ?_
    simp
    refine scall_pure henb (by simp) (by simp) ?_
    simp [h0, h1, h2, retW_eq]
  rw [if_neg h2]
  have hs := List.getElem_mem hlt
  obtain ⟨i, hi⟩ : ∃ i : Nat, pick = i := ⟨pick.toNat, by omega⟩
  subst hi
  have hlt' : i < f.t.enabled.length := hlt
  generalize hst : f.t.enabled[(i : Int).toNat] = st at *
  have hix : ixRows (f.t.enabled.map encS) (i : Int) 3 = some (.elt (encS st) 0) := by
    rw [ixRows_nat]; simp [List.getElem?_eq_getElem hlt', ← hst]
  have hso := step_ok f.t st (by rw [← enabled_eq hf.norm]; exact hs)
  have hon := actP_on hso.act
  have hpl := onP_len hon
  have hat := sp_rat f.t st.2.1 hon (by omega)
  have hxr := at_right _ _ _ hso.act _ hf.t
  have hxe := allE_at hon hf.ex
  obtain ⟨hok, -, -⟩ := right_ok hxr
  have hev : (atT f.t st.2.1).kind = 2 ∨ (atT f.t st.2.1).kind = 9 → Am.Spec Try.prog 25 [.agg (encE (atT f.t st.2.1).e), .sl (encI f.vars)] (encR (evE f.vars (atT f.t st.2.1).e)) := fun hk => by
    have h := ok_e hok
    have ke : kE (atT f.t st.2.1).kind = true := decide_eq_true hk
    rw [if_pos ke, ← hf.vars] at h
    refine sp_eev f.vars hf.nums (hf.vlen hvn) _ h fun y hy => ?_
    rw [allE_eq, Bool.and_eq_true, exN, Bool.and_eq_true] at hxe
    exact List.all_eq_true.1 hxe.1.2 y hy
  have hK := fun val hval v3 v4 v6 v7 v60 v11 v12 v14 => do_k35 c f he hf hvn hsn st hs val hval v3 v4 v6 v7 v60 v11 v12 v14
  have ho : Am.HSpecL Try.prog 23 [.agg (encF f)] [] fun r l' => ∃ v, r = .agg (encFL f 8 v) ∧ l' = [(8, .row v 3 1 (encI f.vars))] := ho
  obtain ⟨r, hr⟩ : ∃ r, r = didR (if (deed c.procs f (atT f.t st.2.1) st.2.2).e ≠ 0 then .no (deed c.procs f (atT f.t st.2.1) st.2.2).e
      else if 2000 < (putT f.t (toP f.t st) (deed c.procs f (atT f.t st.2.1) st.2.2).t).norm.size + stSize (deed c.procs f (atT f.t st.2.1) st.2.2).st then .no 11
      else ⟨⟨(putT f.t (toP f.t st) (deed c.procs f (atT f.t st.2.1) st.2.2).t).norm, (deed c.procs f (atT f.t st.2.1) st.2.2).vars, (deed c.procs f (atT f.t st.2.1) st.2.2).st, f.steps + 1, (deed c.procs f (atT f.t st.2.1) st.2.2).key⟩, (deed c.procs f (atT f.t st.2.1) st.2.2).ev, (deed c.procs f (atT f.t st.2.1) st.2.2).is, 0⟩) := ⟨_, rfl⟩
  show Am.Spec Try.prog 10 [.agg (encC c), .agg (encF f), .int .i64 (i : Nat)] (didR (if (deed c.procs f (atT f.t st.2.1) st.2.2).e ≠ 0 then .no (deed c.procs f (atT f.t st.2.1) st.2.2).e
      else if 2000 < (putT f.t (toP f.t st) (deed c.procs f (atT f.t st.2.1) st.2.2).t).norm.size + stSize (deed c.procs f (atT f.t st.2.1) st.2.2).st then .no 11
      else ⟨⟨(putT f.t (toP f.t st) (deed c.procs f (atT f.t st.2.1) st.2.2).t).norm, (deed c.procs f (atT f.t st.2.1) st.2.2).vars, (deed c.procs f (atT f.t st.2.1) st.2.2).st, f.steps + 1, (deed c.procs f (atT f.t st.2.1) st.2.2).key⟩, (deed c.procs f (atT f.t st.2.1) st.2.2).ev, (deed c.procs f (atT f.t st.2.1) st.2.2).is, 0⟩))
  rw [← hr]
  by_cases hk : (atT f.t st.2.1).kind = 2 ∨ (atT f.t st.2.1).kind = 9
  · have hev := hev hk
    have hd : (deed c.procs f (atT f.t st.2.1) st.2.2).e = (evE f.vars (atT f.t st.2.1).e).2 := by
      rcases hk with k | k
      · unfold deed
        rw [if_neg (by omega), if_pos k]
        split
        · rename_i h; exact h.symm
        · rfl
      · unfold deed
        rw [if_neg (by omega), if_neg (by omega), if_neg (by omega), if_neg (by omega), if_neg (by omega), if_neg (by omega), if_pos k]
    have hm : (decide ((atT f.t st.2.1).kind = 2) || decide ((atT f.t st.2.1).kind = 9)) = true := by simpa using hk
    by_cases hz : (evE f.vars (atT f.t st.2.1).e).2 = 0
    · have hK := hK (evE f.vars (atT f.t st.2.1).e).1 (fun _ => by rw [← hz])
      generalize atT f.t st.2.1 = x at *
      generalize evE f.vars x.e = ev at *
      simp only [encR] at hev
      rcases hk with k | k
      · refine W10_S (by simp) ?_
        intro vs
        simp
        refine sScope_out (doI r) (fun J hJ => ?_) (fun J s h => do_g51 _ J s h)
        simp
        refine scall_pure henb (by simp) (by simp) ?_
        simp [h0, h1, h2]
        refine scall_heap [] [(60, 8)] ho (by simp) (by simp) (by simp) ?_
        intro r' l' VS' hrl
        obtain ⟨v, rfl, rfl⟩ := hrl
        refine ⟨by simp [encFL_okk], ?_⟩
        simp [encFL_ren, hix, encS]
        refine scall_pure hat (by simp) (by simp) ?_
        simp [-W10_k35, -W10_k9, k]
        refine scall_flat hev (by simp) (by simp) rfl ?_
        simp [-W10_k35, -W10_k9, k, hz]
        refine hK _ _ _ _ _ _ _ _ J r hJ hr _ VS' ?_ ?_ ?_ ?_ ?_ ?_ ?_ ?_ ?_
        all_goals simp
      · refine W10_S (by simp) ?_
        intro vs
        simp
        refine sScope_out (doI r) (fun J hJ => ?_) (fun J s h => do_g51 _ J s h)
        simp
        refine scall_pure henb (by simp) (by simp) ?_
        simp [h0, h1, h2]
        refine scall_heap [] [(60, 8)] ho (by simp) (by simp) (by simp) ?_
        intro r' l' VS' hrl
        obtain ⟨v, rfl, rfl⟩ := hrl
        refine ⟨by simp [encFL_okk], ?_⟩
        simp [encFL_ren, hix, encS]
        refine scall_pure hat (by simp) (by simp) ?_
        simp [-W10_k35, -W10_k9, k]
        refine scall_flat hev (by simp) (by simp) rfl ?_
        simp [-W10_k35, -W10_k9, k, hz]
        refine hK _ _ _ _ _ _ _ _ J r hJ hr _ VS' ?_ ?_ ?_ ?_ ?_ ?_ ?_ ?_ ?_
        all_goals simp
    · generalize atT f.t st.2.1 = x at *
      generalize evE f.vars x.e = ev at *
      simp only [encR] at hev
      rcases hk with k | k
      · refine W10_S (by simp) ?_
        intro vs
        simp
        refine sScope_out (doI r) (fun J hJ => ?_) (fun J s h => do_g51 _ J s h)
        simp
        refine scall_pure henb (by simp) (by simp) ?_
        simp [h0, h1, h2]
        refine scall_heap [] [(60, 8)] ho (by simp) (by simp) (by simp) ?_
        intro r' l' VS' hrl
        obtain ⟨v, rfl, rfl⟩ := hrl
        refine ⟨by simp [encFL_okk], ?_⟩
        simp [encFL_ren, hix, encS]
        refine scall_pure hat (by simp) (by simp) ?_
        simp [-W10_k35, -W10_k9, k]
        refine scall_flat hev (by simp) (by simp) rfl ?_
        simp [-W10_k35, -W10_k9, k, hz]
        refine hJ _ ⟨_, VS', ev.2, c, f, f, f.vars, .zero, [.int .i64 st.1, .sl (encI st.2.1), .int .i64 st.2.2], x, [.int .i64 0, .int .i64 0, .int .i64 0, .str ⟨#[]⟩, .int .i64 0, .int .i64 0, .str ⟨#[]⟩, .nils, .nils], _, _, _, _, _, _, _, _, rfl, ?_, ?_, ?_, ?_⟩
        · simp
        · simp
        · simp
        · rw [hr, hd, if_pos hz]
      · refine W10_S (by simp) ?_
        intro vs
        simp
        refine sScope_out (doI r) (fun J hJ => ?_) (fun J s h => do_g51 _ J s h)
        simp
        refine scall_pure henb (by simp) (by simp) ?_
        simp [h0, h1, h2]
        refine scall_heap [] [(60, 8)] ho (by simp) (by simp) (by simp) ?_
        intro r' l' VS' hrl
        obtain ⟨v, rfl, rfl⟩ := hrl
        refine ⟨by simp [encFL_okk], ?_⟩
        simp [encFL_ren, hix, encS]
        refine scall_pure hat (by simp) (by simp) ?_
        simp [-W10_k35, -W10_k9, k]
        refine scall_flat hev (by simp) (by simp) rfl ?_
        simp [-W10_k35, -W10_k9, k, hz]
        refine hJ _ ⟨_, VS', ev.2, c, f, f, f.vars, .zero, [.int .i64 st.1, .sl (encI st.2.1), .int .i64 st.2.2], x, [.int .i64 0, .int .i64 0, .int .i64 0, .str ⟨#[]⟩, .int .i64 0, .int .i64 0, .str ⟨#[]⟩, .nils, .nils], _, _, _, _, _, _, _, _, rfl, ?_, ?_, ?_, ?_⟩
        · simp
        · simp
        · simp
        · rw [hr, hd, if_pos hz]
  · have hK := hK 0 (fun h => absurd h hk)
    have n2 : ¬ (atT f.t st.2.1).kind = 2 := fun h => hk (.inl h)
    have n9 : ¬ (atT f.t st.2.1).kind = 9 := fun h => hk (.inr h)
    generalize atT f.t st.2.1 = x at *
    refine W10_S (by simp) ?_
    intro vs
    simp
    refine sScope_out (doI r) (fun J hJ => ?_) (fun J s h => do_g51 _ J s h)
    simp
    refine scall_pure henb (by simp) (by simp) ?_
    simp [h0, h1, h2]
    refine scall_heap [] [(60, 8)] ho (by simp) (by simp) (by simp) ?_
    intro r' l' VS' hrl
    obtain ⟨v, rfl, rfl⟩ := hrl
    refine ⟨by simp [encFL_okk], ?_⟩
    simp [encFL_ren, hix, encS]
    refine scall_pure hat (by simp) (by simp) ?_
    simp [-W10_k35, -W10_k9, n2, n9]
    refine hK _ _ _ _ _ _ _ _ J r hJ hr _ VS' ?_ ?_ ?_ ?_ ?_ ?_ ?_ ?_ ?_
    all_goals simp
end Go.Proofs.Ytnngddgaobhkiaa
set_option linter.unusedVariables false
set_option linter.unusedSimpArgs false
namespace Go.Proofs.Ytnngddgaobhkiaa
open Go Go.Am Go.RowKit
attribute [local simp] W7 W7_rs

/-! ### A program that may be, and where it begins -/
structure CorOk (c : Cor) : Prop where
  chk : chkM c = true
  ex : ∀ t ∈ c.procs, allE t = true
  nums : ∀ n ∈ c.vars, isI64 n = true
abbrev OkC (c : Cor) (f : Cfg) : Prop := OkF c.vars.length c.stacks c.procs f
def begM (c : Cor) : Cfg := ⟨((c.procs[c.main.toNat]?).getD .skip).norm, c.vars, List.replicate c.stacks.toNat [], 0, 0⟩
structure ChkOk (c : Cor) : Prop where
  vars : (c.vars.length : Int) ≤ 20
  st : 0 ≤ c.stacks ∧ c.stacks ≤ 10
  procs : 1 ≤ (c.procs.length : Int) ∧ (c.procs.length : Int) ≤ 20
  main : 0 ≤ c.main ∧ c.main < c.procs.length
  all : ∀ t ∈ c.procs, t.size ≤ 2000 ∧ tmAny t = false ∧ tmRight c.vars.length c.stacks c.procs.length t false = true
theorem chk_ok {c : Cor} (h : chkM c = true) : ChkOk c := by
  unfold chkM at h
  simp only [Bool.and_eq_true, decide_eq_true_eq, List.all_eq_true] at h
  obtain ⟨h1, h2, h3, h4, h5, h6, h7, h8⟩ := h
  refine ⟨h1, ⟨h2, h3⟩, ⟨h4, h5⟩, ⟨h6, h7⟩, fun t ht => ?_⟩
  have := h8 t ht
  unfold chkT at this
  simp only [Bool.and_eq_true, decide_eq_true_eq, Bool.not_eq_true'] at this
  exact this
theorem CorOk.env {c : Cor} (h : CorOk c) : Env8 c.vars.length c.stacks c.procs where
  right := fun t ht => by
    have := (chk_ok h.chk).all t ht
    rw [tmRight_pushed, this.2.2, this.2.1]; rfl
  small := h.ex
  size := fun t ht => ((chk_ok h.chk).all t ht).1
theorem main_get {c : Cor} (h : CorOk c) : ∃ (m : Nat) (hm : m < c.procs.length), c.main = m ∧ (c.procs[c.main.toNat]?).getD .skip = c.procs[m] := by
  have := (chk_ok h.chk).main
  refine ⟨c.main.toNat, by omega, by omega, ?_⟩
  rw [List.getElem?_eq_getElem (by omega)]; rfl
theorem CorOk.wt {c : Cor} (h : CorOk c) : ∀ t ∈ c.procs, t.lok ∧ t.wt ≤ 20010000 := fun t ht => by
  have h1 := allE_wt t (h.ex t ht)
  have h2 := ((chk_ok h.chk).all t ht).1
  exact ⟨Tm.lok_of_wt t (by omega), by omega⟩
theorem stSize_rep (n : Nat) : stSize (List.replicate n []) = 0 := by
  induction n with
  | zero => rfl
  | succ n ih => simp only [stSize, List.replicate_succ, List.map_cons, List.sum_cons, Tm.sizes] at *; omega
theorem beg_ok {c : Cor} (h : CorOk c) : OkC c (begM c) := by
  obtain ⟨m, hm, e, eg⟩ := main_get h
  have hk := chk_ok h.chk
  have hin := List.getElem_mem hm
  have ha := hk.all _ hin
  have hx := h.ex _ hin
  have ho := right_okN _ _ _ _ _ ha.2.2
  have hn := norm_size _ ho
  unfold OkC begM
  rw [eg]
  refine ⟨right_norm _ _ _ _ _ ha.2.2, allE_norm _ ho hx, norm_norm _ ho, rfl, h.nums, ?_, ?_, ?_, by simp only; omega, by simp only; omega⟩
  · have := hk.st; simp only [List.length_replicate]; omega
  · intro l hl t ht
    rw [(List.mem_replicate.1 hl).2] at ht
    simp at ht
  · simp only [stSize_rep]; omega
theorem sp_begC {c : Cor} (h : CorOk c) : Am.Spec Try.prog 9 [.agg (encC c)] (.agg (encF (begM c))) := by
  obtain ⟨m, hm, e, eg⟩ := main_get h
  have hk := chk_ok h.chk
  have := (h.wt _ (List.getElem_mem hm)).2
  have := sp_beg c m c.stacks.toNat e hm (by have := hk.st; omega) (by have := hk.st; omega) (by omega) (by have := hk.vars; omega)
  unfold begM
  rw [eg]
  exact this
theorem sp_doC {c : Cor} (h : CorOk c) {f : Cfg} (hf : OkC c f) (pick : Int) : Am.Spec Try.prog 10 [.agg (encC c), .agg (encF f), .int .i64 pick] (didR (doM c.procs f pick)) :=
  sp_do c f pick h.env hf (by have := (chk_ok h.chk).vars; omega) (by have := (chk_ok h.chk).st; omega)
def toldR (d : Told) : AV := .tup [.agg (encF d.f), .agg (encEv d.ev), .bool d.is]
theorem sp_tellC {c : Cor} (h : CorOk c) {f : Cfg} (hf : OkC c f) (key value : Int) : Am.Spec Try.prog 11 [.agg (encC c), .agg (encF f), .int .i64 key, .int .i64 value] (toldR (tellM f key value)) := by
  have hk := chk_ok h.chk
  have hwt := hf.wt
  have hv := hf.vlen (by have := hk.vars; omega)
  have hs := hf.slen (by have := hk.st; omega)
  have hn := hf.norm
  refine sp_tell c f key value (by omega) ?_ ?_ (by omega) (by omega) (fun l hl => by have := hf.srow l hl; exact ⟨by omega, this.2⟩) ?_
  · rw [hn]; omega
  · rw [hn]; exact Tm.lok_of_wt _ (by omega)
  · rw [hn]
    intro p hp
    have h1 := tell_put hf hp
    refine ⟨(tell_b hf hp).1, ?_⟩
    have := allE_wt _ h1.2.1
    have := hf.size
    have := stSize_nn f.st
    omega
theorem sp_chkC {c : Cor} (h : CorOk c) : Am.Spec Try.prog 18 [.agg (encC c)] (.bool true) := by
  rw [← h.chk]
  exact sp_chk c fun t ht => ⟨(h.wt t ht).1, by have := (h.wt t ht).2; omega⟩

@[simp] theorem nrmL_encF (f : Cfg) : nrmL (encF f) = encF f := by rw [encF_eq, encSt_Q]; simp [nrmL, nrm, nrmLL_map, encI]
@[simp] theorem nrmL_encEv (ev : Ev) : nrmL (encEv ev) = encEv ev := rfl
@[simp] theorem nrmL_encC (c : Cor) : nrmL (encC c) = encC c := by simp [encC, nrmL, nrm, nrmLL_map, encI]
/-! ### The chapter's example -/
def tPay : Tm := ⟨1, -1, 0, ⟨#[112, 97, 121]⟩, .zero, []⟩
def cPay : Cor := ⟨[], 0, [tPay], 0⟩
theorem pay_ok : CorOk cPay where
  chk := by decide +kernel
  ex := by decide +kernel
  nums := by decide +kernel
theorem encC_pay : encC cPay = [.sl [], .int .i64 0, .sl [encT tPay], .int .i64 0] := rfl
theorem encT_pay : encT tPay = [.int .i64 1, .int .i64 (-1), .int .i64 0, .str ⟨#[112, 97, 121]⟩, .int .i64 0, .int .i64 0, .str ⟨#[]⟩, .sl [], .sl []] := by rw [encT_eq]; rfl
structure KnoT (g : Cfg) (ev : Ev) (is : Bool) (e e1 : Int) (h : Told) : Prop where
  e : e = 0
  is : is = true
  name : ev.name = ⟨#[112, 97, 121]⟩
  key : g.key = 1
  e1 : e1 = 12
  has : h.is = true
  val : h.ev.value = 7
  kind : h.f.t.kind = 0
theorem kno_t : KnoT (doM [tPay] (begM cPay) 0).f (doM [tPay] (begM cPay) 0).ev (doM [tPay] (begM cPay) 0).is (doM [tPay] (begM cPay) 0).e (doM [tPay] (begM cPay) 1).e (tellM (doM [tPay] (begM cPay) 0).f 0 7) := by
  constructor <;> decide +kernel
theorem sp_kno8 : Am.Spec Try.prog 7 [] (.bool true) := by
  have ht := kno_t
  have hb := beg_ok pay_ok
  have h1 := sp_begC pay_ok
  have h2 := sp_doC pay_ok hb 0
  have h3 := sp_doC pay_ok hb 1
  have h4 := sp_tellC pay_ok (doM_ok pay_ok.env hb 0 ht.e) 0 7
  have h5 := sp_chkC pay_ok
  rw [show cPay.procs = [tPay] from rfl] at h2 h3 h4
  generalize doM [tPay] (begM cPay) 0 = d at *
  generalize doM [tPay] (begM cPay) 1 = d1 at *
  generalize begM cPay = f at *
  generalize tellM d.f 0 7 = t at *
  obtain ⟨a1, a2, a3, a4, a5, a6, a7, a8⟩ := ht
  simp only [didR, toldR, encC_pay, encT_pay] at h1 h2 h3 h4 h5
  refine W7_S (by simp) ?_
  intro vs
  simp
  refine scall_nrm h1 (by simp [nrmL, nrm, nrmLL]) (by simp [closedL, closedLL]) ?_
  simp
  refine scall_nrm h2 (by simp [nrmL, nrm, nrmLL]) (by simp [closedL, closedLL]) ?_
  simp
  refine scall_nrm h3 (by simp [nrmL, nrm, nrmLL]) (by simp [closedL, closedLL]) ?_
  simp
  refine scall_nrm h4 (by simp [nrmL, nrm, nrmLL]) (by simp [closedL, closedLL]) ?_
  simp
  refine scall_nrm h5 (by simp [nrmL, nrm, nrmLL]) (by simp [closedL, closedLL]) ?_
  simp [a1, a2, a3, a4, a5, a6, a7, a8, encEv, retW_eq]
end Go.Proofs.Ytnngddgaobhkiaa
set_option linter.unusedVariables false
set_option linter.unusedSimpArgs false
namespace Go.Proofs.Ytnngddgaobhkiaa
open Go Go.Am Go.RowKit


/-! ### What may be done, as the document says -/
def enS (t : Tm) (p : List Int) (w : Bool) : List Stp3 := (t.pls p w).flatMap stepsAt
def enK (t : Tm) (p : List Int) (w : Bool) (n : Nat) : List Stp3 := (Tm.plsL t.kind (t.l.take n) p w 0).flatMap stepsAt
end Go.Proofs.Ytnngddgaobhkiaa
set_option linter.unusedVariables false
set_option linter.unusedSimpArgs false
namespace Go.Proofs.Ytnngddgaobhkiaa
open Go Go.Am Go.RowKit


/-! ### Rows of processes, stacks, configs that are the same -/
def sameS (x y : List (List Tm)) : Bool := eqL (eqL Tm.same) x y
theorem sameS_iff (x y : List (List Tm)) : sameS x y = true ↔ x = y :=
  eqL_iff _ _ _ fun l _ m => eqL_iff _ _ _ fun t _ u => Tm.same_iff t u
def sameF (f g : Cfg) : Bool := Tm.same f.t g.t && (decide (f.vars = g.vars) && (sameS f.st g.st && (decide (f.steps = g.steps) && decide (f.key = g.key))))
theorem sameF_iff (f g : Cfg) : sameF f g = true ↔ f = g := by
  unfold sameF
  simp only [Bool.and_eq_true, Tm.same_iff, sameS_iff, decide_eq_true_eq]
  cases f; cases g
  simp only [Cfg.mk.injEq]
end Go.Proofs.Ytnngddgaobhkiaa
set_option linter.unusedVariables false
set_option linter.unusedSimpArgs false
namespace Go.Proofs.Ytnngddgaobhkiaa
open Go Go.Am Go.RowKit
attribute [local simp] W8 W8_rs W8_k1 W8_b2

/-! ### An exit -/
theorem sp_wit8 (a n : Int) (hn : 0 < n) (h2 : n < 1000) : Am.Spec Try.prog 8 [.int .i64 a, .int .i64 n] (.int .i64 (within a n)) := by
  refine W8_S (by simp) ?_
  intro vs
  simp
  rw [if_neg (by omega)]
  simp
  have h1 := Int.tmod_lt_of_pos a hn
  have h3 : -n < a.tmod n := by have := Int.lt_tmod_of_pos a hn; omega
  refine sIf_dec (fun h => ?_) (fun h => ?_)
  · simp
    rw [wrap64 (by omega) (by omega)]
    simp [retW_eq, within, h]
  · simp [retW_eq, within, h]
def rawK (k : Int) (l : AV) : List AV := [.int .i64 k, .int .i64 0, .int .i64 0, .str ⟨#[]⟩, .int .i64 0, .int .i64 0, .str ⟨#[]⟩, .nils, l]
theorem tells_rawK (k : Int) (l : List Tm) : TellsT (rawK k (.slt (l.map encT))) (.of k l) where
  len := rfl
  ok := rfl
  pur := fun H => by rw [encT_eq]; rfl
  frz := fun H => rfl
theorem tells_rawN (k : Int) : TellsT (rawK k .nils) (.of k []) where
  len := rfl
  ok := rfl
  pur := fun H => by rw [encT_eq]; rfl
  frz := fun H => rfl
def rawPay : List AV := [.int .i64 1, .int .i64 (-1), .int .i64 0, .str ⟨#[112, 97, 121]⟩, .int .i64 0, .int .i64 0, .str ⟨#[]⟩, .nils, .nils]
def exT : Nat → Tm
  | 0 => .of 8 []
  | i + 1 => if i % 2 = 1 then .of 11 [.of 12 [exT i, tPay], tPay] else .of 12 [exT i, tPay]
def exR : Nat → List AV
  | 0 => rawK 8 .nils
  | i + 1 => if i % 2 = 1 then rawK 11 (.slt [encT (.of 12 [exT i, tPay]), encT tPay]) else rawK 12 (.slt [encT (exT i), encT tPay])
def exF (block behind : Bool) (d : Nat) : Tm :=
  let t := if block then .of 7 [exT d] else exT d
  if behind then .of 12 [t, tPay] else t
def cOne (t : Tm) : Cor := ⟨[], 0, [t], 0⟩
structure ExitOk (t w : Tm) : Prop where
  some : ∃ i, ∃ h : i < (begM (cOne t)).t.enabled.length, ((begM (cOne t)).t.enabled[i]).1 = 8
  all : ∀ i, ∀ h : i < (begM (cOne t)).t.enabled.length, ((begM (cOne t)).t.enabled[i]).1 = 8 → (doM [t] (begM (cOne t)) i).e = 0 ∧ (doM [t] (begM (cOne t)) i).is = false ∧ (doM [t] (begM (cOne t)) i).f.t = w
def exitB (t w : Tm) : Bool := chkM (cOne t) && (allE t && ((begM (cOne t)).t.enabled.any (fun s => decide (s.1 = 8)) &&
  (List.range (begM (cOne t)).t.enabled.length).all fun i => !(match (begM (cOne t)).t.enabled[i]? with | some s => decide (s.1 = 8) | none => false) || (decide ((doM [t] (begM (cOne t)) i).e = 0) && (!(doM [t] (begM (cOne t)) i).is && Tm.same (doM [t] (begM (cOne t)) i).f.t w))))
theorem wit_ge (a n : Int) (hn : 0 < n) : 0 ≤ within a n := by
  unfold within
  have h1 := Int.lt_tmod_of_pos a hn
  split <;> omega
theorem wit_lt (a n : Int) (hn : 0 < n) : within a n < n := by
  unfold within
  have h1 := Int.tmod_lt_of_pos a hn
  split <;> omega
end Go.Proofs.Ytnngddgaobhkiaa
set_option linter.unusedVariables false
set_option linter.unusedSimpArgs false
namespace Go.Proofs.Ytnngddgaobhkiaa
open Go Go.Am Go.RowKit
attribute [local simp] W12 W12_rs W12_b1 W12_b3 W12_b4 W12_b5 W12_b7 W12_k2 W12_l6 W3 W3_rs W3_b1 W3_b9 W3_b10 W3_b12 W3_b13 W3_b15 W3_b19 W3_b22 W3_b25 W3_b28 W3_b29 W3_b32 W3_b33 W3_b37 W3_k7 W3_k8 W3_k18 W3_k21 W3_k24 W3_k27 W3_k30 W3_k31 W3_l16 W3_l20 W3_l23 W3_l26 W3_l34

/-! ### What is pushed is taken back -/
theorem sp_Wd1 (x y : List ByteArray) (hw : x.length ≤ 137438953472) : Am.Spec Try.prog 12 [.sl (encB x), .sl (encB y)] (.bool (eqL (fun a b => decide (a = b)) x y)) := by
  by_cases c : x.length = y.length
  · have c' : (x.length : Int) = y.length := by omega
    refine W12_S (by simp) ?_
    intro vs
    simp [-W12_l6, c]
    refine sLoop_intro (fun i => i ≤ y.length ∧ eqL (fun a b => decide (a = b)) x y = eqL (fun a b => decide (a = b)) (x.drop i) (y.drop i)) (fun i => y.length - i) (fun i => [(0, .sl (encB x)), (1, .sl (encB y)), (5, .int .i64 (i : Nat))])
      (fun _ => []) 0 (by simp) (by simp) (by simp) ?_
    rintro L i vt ⟨hi, hj⟩ hL
    by_cases h : i < y.length
    · have hl2 : i < x.length := by omega
      have h' : (i : Int) < x.length := by omega
      have hd := eqL_drop (fun a b => decide (a = b)) x y i hl2 h
      by_cases hb : x[i] = y[i]
      · simp [h, h', hl2, hb]
        rw [wrap64 (by omega) (by omega)]
        exact hL _ _ _ (i + 1) ⟨h, by rw [hj, hd, decide_eq_true hb]; simp⟩ (by omega) (by simp) (by simp)
      · rw [hj, hd, decide_eq_false hb]
        simp [h, h', hl2, hb, retW_eq]
    · have e := eqL_end (fun a b => decide (a = b)) x y i (by omega) c
      have h2 : ¬ i < x.length := by omega
      have h' : ¬ (i : Int) < x.length := by omega
      rw [hj, e]
      simp [h, h', h2, retW_eq]
  · have c' : ¬ (x.length : Int) = y.length := by omega
    rw [eqL_len _ _ _ c]
    refine W12_S (by simp) ?_
    intro vs
    simp [c, c', retW_eq]
theorem sp_Wd1R (x : List ByteArray) (hw : x.length ≤ 137438953472) : Am.Spec Try.prog 12 [.sl (encB x), .sl (encB x)] (.bool true) := by
  have := sp_Wd1 x x hw
  rwa [(eqL_iff _ x x fun a _ b => by simp).2 rfl] at this
def abcB : ByteArray := ⟨#[97, 98, 99, 100, 101, 102]⟩
def doB : ByteArray := ⟨#[100, 111]⟩
def unB : ByteArray := ⟨#[117, 110]⟩
def ltr (i : Nat) : ByteArray := abcB.extract i (i + 1)
def tDoN (s : ByteArray) : Tm := ⟨1, -1, 0, s, .zero, []⟩
theorem encT_doN (s : ByteArray) : encT (tDoN s) = [.int .i64 1, .int .i64 (-1), .int .i64 0, .str s, .int .i64 0, .int .i64 0, .str ⟨#[]⟩, .sl [], .sl []] := by rw [encT_eq]; rfl
def rowAt (cut : Int) (i : Nat) : List Tm := [tDoN (doB ++ ltr i), .of 3 [tDoN (unB ++ ltr i)]] ++ if (i : Int) + 1 = cut then [.of 5 []] else []
def rowL (cut : Int) : Nat → List Tm
  | 0 => []
  | i + 1 => rowL cut i ++ rowAt cut i
def endL (two : Bool) : List Tm := if two then [⟨6, 0, 1, ⟨#[]⟩, .zero, []⟩, ⟨4, 1, 0, ⟨#[]⟩, .zero, []⟩] else [.of 4 []]
def foldS : List Tm → Tm
  | [] => .skip
  | [x] => x
  | x :: y :: l => .of 12 [x, foldS (y :: l)]
def lastL (k : Nat) (cut : Int) (two : Bool) : List Tm := rowL cut k ++ endL two
def lastC (t : Tm) : Cor := ⟨[], 2, [t], 0⟩
def wantD (i : Nat) : List ByteArray := (List.range i).map fun j => doB ++ ltr j
def wantU (k j : Nat) : List ByteArray := (List.range j).map fun i => unB ++ ltr (k - 1 - i)
def runM (ps : List Tm) : Nat → Cfg → List ByteArray → Option (List ByteArray × Cfg)
  | 0, f, got => some (got, f)
  | n + 1, f, got =>
    if (doM ps f 0).e ≠ 0 then some (got, f) else if (doM ps f 0).is = true then
      (if (tellM (doM ps f 0).f (doM ps f 0).ev.key 0).is = true then runM ps n (tellM (doM ps f 0).f (doM ps f 0).ev.key 0).f (got ++ [(doM ps f 0).ev.name]) else none)
      else runM ps n (doM ps f 0).f got
def lastB (k : Nat) (cut : Int) (two : Bool) : Bool :=
  chkM (lastC (foldS (lastL k cut two))) && (allE (foldS (lastL k cut two)) && match runM [foldS (lastL k cut two)] 60 (begM (lastC (foldS (lastL k cut two)))) [] with
    | some (g, f) => decide (g = wantD k ++ wantU k (k - cut.toNat)) && decide (f.t.kind = 0)
    | none => false)
set_option maxRecDepth 100000 in
theorem lasts_all : ∀ k < 5, ∀ cut < k + 2, ∀ two : Bool, lastB (k + 1) (cut : Nat) two = true := by decide +kernel
theorem foldS_drop (l : List Tm) (i : Nat) (h : i + 1 < l.length) : foldS (l.drop i) = .of 12 [l[i], foldS (l.drop (i + 1))] := by
  rw [List.drop_eq_getElem_cons (show i < l.length by omega)]
  cases e : l.drop (i + 1) with
  | nil => have := congrArg List.length e; simp at this; omega
  | cons y m => rfl
theorem foldS_last (l : List Tm) (i : Nat) (h : i + 1 = l.length) : foldS (l.drop i) = l[i] := by
  rw [List.drop_eq_getElem_cons (show i < l.length by omega), List.drop_of_length_le (by omega)]
  rfl
theorem runM_ok {c : Cor} (hc : CorOk c) {f : Cfg} (hf : OkC c f) (he : (doM c.procs f 0).e = 0) : OkC c (doM c.procs f 0).f := doM_ok hc.env hf 0 he
theorem las_k18 (t : Tm) (hc : CorOk (lastC t)) (want : List ByteArray) (fe : Cfg) (hres : runM [t] 60 (begM (lastC t)) [] = some (want, fe)) (hk : fe.t.kind = 0) (hwant : want ≠ []) (hwl : want.length ≤ 1000) (cs : List AV) (hT : TellsT cs t) (R : List (List AV)) (w57 w88 v14 : Nat) (T : List (Nat × AV)) (VS : Nat → Nat)
    (h11 : Am.look T 11 = .ref 88 w88 .o) (h14 : Am.look T 14 = .ref 14 v14 (.p 0)) :
    W3_k18 (retK Try.prog [.tmp 6] (.bool true)) ⟨Am.look T, hls [(57, .row w57 29 9 R), (88, .row w88 9 1 (encB want)), (14, .box v14 29 cs)] VS, noG⟩ := by
  have hb := sp_begC hc
  have hf := beg_ok hc
  have hd := fun (f : Cfg) (hf : OkC (lastC t) f) => sp_doC hc hf 0
  have htl := fun (f : Cfg) (hf : OkC (lastC t) f) (k : Int) => sp_tellC hc hf k 0
  have eC : encC (lastC t) = [.sl [], .int .i64 2, .sl [encT t], .int .i64 0] := rfl
  have eP : (lastC t).procs = [t] := rfl
  simp only [eC, eP, didR, toldR] at hb hd htl
  have hok : ∀ f : Cfg, OkC (lastC t) f → (doM [t] f 0).e = 0 → OkC (lastC t) (doM [t] f 0).f := fun f hf he => runM_ok hc hf he
  have htok : ∀ f : Cfg, OkC (lastC t) f → ∀ k : Int, (tellM f k 0).is = true → OkC (lastC t) (tellM f k 0).f := fun f hf k h => tellM_ok hf k 0 rfl h
  have hpu := hT.pur
  have hfz := hT.frz
  have hrd := readA_whole hT.len
  have hln := hT.len
  generalize begM (lastC t) = f0 at *
  simp [-W3_l16, h11, h14, hrd, hpu, hfz, hln]
  refine scall_nrm hb (by simp [nrmL, nrm, nrmLL, nrmL_encT]) (by simp [closedL, closedLL]) ?_
  simp [-W3_l16, h11, h14]
  refine sLoop_intro (α := Nat × Cfg × List ByteArray × Nat) (fun x => x.1 ≤ 60 ∧ OkC (lastC t) x.2.1 ∧ runM [t] (60 - x.1) x.2.1 x.2.2.1 = some (want, fe) ∧ x.2.2.1.length ≤ x.1) (fun x => 60 - x.1)
    (fun x => [(11, .ref 88 w88 .o), (16, .ref 16 (VS 16 + 1) (.p 0)), (17, .ref 17 (VS 17 + 1) (.p 0)), (18, if x.2.2.1 = [] then .nils else .ref 149 x.2.2.2 .o), (19, .int .i64 (x.1 : Nat))])
    (fun x => (88, .row w88 9 1 (encB want)) :: (16, .box (VS 16 + 1) 33 [.nils, .int .i64 2, .slt [encT t], .int .i64 0]) :: (17, .box (VS 17 + 1) 36 (encF x.2.1)) :: if x.2.2.1 = [] then [] else [(149, .row x.2.2.2 9 1 (encB x.2.2.1))])
    (0, f0, [], 0) ⟨by simp, hf, hres, by simp⟩ (by simp [h11]) (by simp) ?_
  rintro L ⟨i, f, got, u⟩ vt ⟨hi, hf, hr, hgl⟩ hL
  simp only at hi hf hr hgl hL ⊢
  by_cases h : i < 60
  · have h' : (i : Int) < 60 := by omega
    rw [show 60 - i = (60 - (i + 1)) + 1 by omega, runM] at hr
    have hd := hd f hf
    have hok := hok f hf
    generalize doM [t] f 0 = d at *
    by_cases he : d.e = 0
    · have hok := hok he
      rw [if_neg (by simp [he])] at hr
      by_cases his : d.is = true
      · rw [if_pos his] at hr
        have htl := htl d.f hok d.ev.key
        have htok := htok d.f hok d.ev.key
        generalize tellM d.f d.ev.key 0 = tl at *
        by_cases hti : tl.is = true
        · rw [if_pos hti] at hr
          have esn : encB got ++ [[.str d.ev.name]] = encB (got ++ [d.ev.name]) := by simp [encB]
          have hne : ¬ (got ++ [d.ev.name]) = [] := by simp
          by_cases hg : got = []
          · subst hg
            simp [h, h']
            refine scall_nrm hd (by simp [nrmL, nrm, nrmLL, nrmL_encT]) (by simp [closedL, closedLL]) ?_
            simp [he, his, encEv]
            refine scall_nrm htl (by simp [nrmL, nrm, nrmLL, nrmL_encT]) (by simp [closedL, closedLL]) ?_
            simp [hti, encEv]
            rw [wrap64 (by omega) (by omega)]
            refine hL _ _ _ (i + 1, tl.f, [d.ev.name], vt 149 + 1) ⟨h, htok hti, hr, by simp⟩ (by simp only; omega) (by simp) (by simp [encB])
          · simp [h, h', hg]
            refine scall_nrm hd (by simp [nrmL, nrm, nrmLL, nrmL_encT]) (by simp [closedL, closedLL]) ?_
            simp [he, his, encEv]
            rw [decide_eq_true (by omega)]
            simp [encEv]
            refine scall_nrm htl (by simp [nrmL, nrm, nrmLL, nrmL_encT]) (by simp [closedL, closedLL]) ?_
            simp [hti, encEv]
            rw [wrap64 (by omega) (by omega)]
            refine hL _ _ _ (i + 1, tl.f, got ++ [d.ev.name], u + 1) ⟨h, htok hti, hr, by simp; omega⟩ (by simp only; omega) (by simp) (by simp [esn])
        · rw [if_neg hti] at hr; cases hr
      · rw [if_neg his] at hr
        by_cases hg : got = []
        · simp [h, h', hg]
          refine scall_nrm hd (by simp [nrmL, nrm, nrmLL, nrmL_encT]) (by simp [closedL, closedLL]) ?_
          simp [he, his, encEv]
          rw [wrap64 (by omega) (by omega)]
          refine hL _ _ _ (i + 1, d.f, got, u) ⟨h, hok, hr, by simp only; omega⟩ (by simp only; omega) (by simp [hg]) (by simp [hg])
        · simp [h, h', hg]
          refine scall_nrm hd (by simp [nrmL, nrm, nrmLL, nrmL_encT]) (by simp [closedL, closedLL]) ?_
          simp [he, his, encEv]
          rw [wrap64 (by omega) (by omega)]
          refine hL _ _ _ (i + 1, d.f, got, u) ⟨h, hok, hr, by simp only; omega⟩ (by simp only; omega) (by simp [hg]) (by simp [hg])
    · rw [if_pos (by simp [he])] at hr
      simp only [Option.some.injEq, Prod.mk.injEq] at hr
      obtain ⟨rfl, rfl⟩ := hr
      simp [h, h', hwant]
      refine scall_nrm hd (by simp [nrmL, nrm, nrmLL, nrmL_encT]) (by simp [closedL, closedLL]) ?_
      simp [he, encEv]
      refine scall_pure (sp_Wd1R got (by omega)) (by simp) (by simp) ?_
      simp [hk, retW_eq]
  · have h' : ¬ (i : Int) < 60 := by omega
    rw [show 60 - i = 0 by omega, runM] at hr
    simp only [Option.some.injEq, Prod.mk.injEq] at hr
    obtain ⟨rfl, rfl⟩ := hr
    simp [h, h', hwant]
    refine scall_pure (sp_Wd1R got (by omega)) (by simp) (by simp) ?_
    simp [hk, retW_eq]
theorem las_k21 (l : List Tm) (m : Nat) (hlm : l.length = m + 1) (hm : m ≤ 1000) (hc : CorOk (lastC (foldS l))) (want : List ByteArray) (fe : Cfg) (hres : runM [foldS l] 60 (begM (lastC (foldS l))) [] = some (want, fe)) (hk : fe.t.kind = 0) (hwant : want ≠ []) (hwl : want.length ≤ 1000) (w57 w88 : Nat) (T : List (Nat × AV)) (VS : Nat → Nat)
    (h9 : Am.look T 9 = .ref 57 w57 .o) (h11 : Am.look T 11 = .ref 88 w88 .o) :
    W3_k21 (retK Try.prog [.tmp 6] (.bool true)) ⟨Am.look T, hls [(57, .row w57 29 9 (l.map encT)), (88, .row w88 9 1 (encB want))] VS, noG⟩ := by
  have w1 : IntKind.wrap .i64 ((l.length : Int) - 1) = (m : Nat) := by rw [wrap64 (by omega) (by omega)]; omega
  have hml : m < l.length := by omega
  simp [-W3_l20, h9, h11, w1, hml]
  refine sLoop_intro (α := Nat × List AV) (fun x => x.1 ≤ m ∧ TellsT x.2 (foldS (l.drop x.1))) (fun x => x.1)
    (fun x => [(9, .ref 57 w57 .o), (11, .ref 88 w88 .o), (14, .ref 14 (VS 14 + 1) (.p 0)), (15, .int .i64 (x.1 : Nat))])
    (fun x => [(57, .row w57 29 9 (l.map encT)), (88, .row w88 9 1 (encB want)), (14, .box (VS 14 + 1) 29 x.2)])
    (m, encT l[m]) ⟨Nat.le_refl _, by rw [foldS_last l m (by omega)]; exact tells_enc _⟩ (by simp [h9, h11]) (by simp) ?_
  rintro L ⟨i, cs⟩ vt ⟨hi, hT⟩ hL
  simp only at hi hT hL ⊢
  have hpu := hT.pur
  have hfz := hT.frz
  have hrd := readA_whole hT.len
  have hln := hT.len
  by_cases h : 0 < i
  · obtain ⟨j, rfl⟩ : ∃ j, i = j + 1 := ⟨i - 1, by omega⟩
    have hjl : j < l.length := by omega
    have w2 : IntKind.wrap .i64 ((j : Nat) : Int) = (j : Nat) := wrap64 (by omega) (by omega)
    have h' : (0 : Int) < (j : Int) + 1 := by omega
    simp [h', w2, hjl, hrd, hpu, hfz, hln]
    refine hL _ _ _ (j, rawK 12 (.slt [encT l[j], encT (foldS (l.drop (j + 1)))])) ⟨by omega, ?_⟩ (by simp only; omega) (by simp) (by simp [rawK])
    rw [foldS_drop l j (by omega)]
    exact tells_rawK 12 [l[j], foldS (l.drop (j + 1))]
  · have e : i = 0 := by omega
    subst e
    rw [List.drop_zero] at hT
    simp [-W3_k18]
    exact las_k18 (foldS l) hc want fe hres hk hwant hwl cs hT (l.map encT) w57 w88 (VS 14 + 1) _ vt (by simp) (by simp)
theorem sslV_ltr (i : Nat) (h : i < 6) : sslV (⟨#[97, 98, 99, 100, 101, 102]⟩ : ByteArray) (some (.i64, (i : Int))) (some (.i64, (i : Int) + 1)) = some (.str (ltr i)) := by
  unfold sslV
  simp only [Option.map_some, Option.getD_some]
  have hs : ((⟨#[97, 98, 99, 100, 101, 102]⟩ : ByteArray).size : Int) = 6 := rfl
  rw [hs, decide_eq_true (by omega), show ((i : Int) + 1).toNat = i + 1 by omega, Int.toNat_natCast]
  rfl
theorem ltr_size (i : Nat) : (ltr i).size ≤ 6 := by
  unfold ltr abcB
  have := ByteArray.size_extract (a := (⟨#[97, 98, 99, 100, 101, 102]⟩ : ByteArray)) (b := i) (e := i + 1)
  rw [this]
  have hs : (⟨#[97, 98, 99, 100, 101, 102]⟩ : ByteArray).size = 6 := rfl
  omega
structure LastOk (k : Nat) (cut : Int) (two : Bool) (fe : Cfg) : Prop where
  cor : CorOk (lastC (foldS (lastL k cut two)))
  res : runM [foldS (lastL k cut two)] 60 (begM (lastC (foldS (lastL k cut two)))) [] = some (wantD k ++ wantU k (k - cut.toNat), fe)
  kind : fe.t.kind = 0
theorem last_of {k : Nat} {cut : Int} {two : Bool} (h : lastB k cut two = true) : ∃ fe, LastOk k cut two fe := by
  unfold lastB at h
  rw [Bool.and_eq_true, Bool.and_eq_true] at h
  obtain ⟨h1, h2, h3⟩ := h
  have hc : CorOk (lastC (foldS (lastL k cut two))) := ⟨h1, by simpa [lastC] using h2, by simp [lastC]⟩
  split at h3
  · rename_i g f e
    rw [Bool.and_eq_true] at h3
    exact ⟨f, hc, by rw [e, of_decide_eq_true h3.1], of_decide_eq_true h3.2⟩
  · cases h3
theorem wantU_succ (k j : Nat) : wantU k (j + 1) = wantU k j ++ [unB ++ ltr (k - 1 - j)] := by simp [wantU, List.range_succ]
theorem wantD_succ (i : Nat) : wantD (i + 1) = wantD i ++ [doB ++ ltr i] := by simp [wantD, List.range_succ]
theorem wantD_len (i : Nat) : (wantD i).length = i := by simp [wantD]
theorem wantU_len (k i : Nat) : (wantU k i).length = i := by simp [wantU]
/-- The words that are wanted: from the last one down. -/
theorem las_k24 (k cut : Nat) (two : Bool) (hk1 : 1 ≤ k) (hk5 : k ≤ 5) (hcut : cut ≤ k) (fe : Cfg) (hok : LastOk k cut two fe) (m : Nat) (hlm : (lastL k cut two).length = m + 1) (hm : m ≤ 1000) (w57 w88 : Nat) (T : List (Nat × AV)) (VS : Nat → Nat)
    (h7 : Am.look T 7 = .int .i64 (k : Nat)) (h8 : Am.look T 8 = .int .i64 (cut : Nat)) (h9 : Am.look T 9 = .ref 57 w57 .o) (h11 : Am.look T 11 = .ref 88 w88 .o) :
    W3_k24 (retK Try.prog [.tmp 6] (.bool true)) ⟨Am.look T, hls [(57, .row w57 29 9 ((lastL k cut two).map encT)), (88, .row w88 9 1 (encB (wantD k)))] VS, noG⟩ := by
  simp [-W3_l23, h7]
  refine sLoop_intro (α := Nat × Nat) (fun x => x.1 ≤ k - cut) (fun x => k - cut - x.1)
    (fun x => [(8, .int .i64 (cut : Nat)), (9, .ref 57 w57 .o), (11, .ref 88 x.2 .o), (13, .int .i64 (k - x.1 : Nat))])
    (fun x => [(57, .row w57 29 9 ((lastL k cut two).map encT)), (88, .row x.2 9 1 (encB (wantD k ++ wantU k x.1)))])
    (0, w88) (by simp) (by simp [h8, h9, h11]) (by simp [wantU]) ?_
  rintro L ⟨j, u⟩ vt hj hL
  simp only at hj hL ⊢
  by_cases h : j < k - cut
  · have h' : (cut : Int) < ((k - j : Nat) : Int) := by omega
    have w2 : IntKind.wrap .i64 (((k - j : Nat) : Int) - 1) = ((k - 1 - j : Nat) : Int) := by rw [wrap64 (by omega) (by omega)]; omega
    have hsl := sslV_ltr (k - 1 - j) (by omega)
    have e1 : ((k - 1 - j : Nat) : Int) + 1 = ((k - j : Nat) : Int) := by omega
    rw [e1] at hsl
    have hsz := ltr_size (k - 1 - j)
    have hsz2 : (⟨#[117, 110]⟩ : ByteArray).size + (ltr (k - 1 - j)).size ≤ maxLen := by rw [show (⟨#[117, 110]⟩ : ByteArray).size = 2 from rfl]; unfold maxLen; omega
    have hlen : (wantD k ++ wantU k j).length = k + j := by rw [List.length_append, wantD_len, wantU_len]
    have esn : encB (wantD k ++ wantU k j) ++ [[.str (unB ++ ltr (k - 1 - j))]] = encB (wantD k ++ wantU k (j + 1)) := by rw [wantU_succ]; simp [encB]
    simp only [unB] at esn
    generalize wantD k ++ wantU k j = W at *
    simp [h', w2, hsl, hsz2]
    rw [decide_eq_true (by omega)]
    simp [w2]
    exact hL _ _ _ (j + 1, u + 1) (by simp only; omega) (by simp only; omega) (by simp; omega) (by simp [esn])
  · obtain rfl : j = k - cut := by omega
    have h' : ¬ (cut : Int) < ((k - (k - cut) : Nat) : Int) := by omega
    simp [-W3_k21, h']
    exact las_k21 _ m hlm hm hok.cor _ fe (by have := hok.res; rwa [Int.toNat_natCast] at this) hok.kind (by cases k with | zero => omega | succ k => simp [wantD, List.range_succ]) (by rw [List.length_append, wantD_len, wantU_len]; omega) w57 u _ vt (by simp) (by simp)
theorem las_k27 (k cut : Nat) (two : Bool) (hk1 : 1 ≤ k) (hk5 : k ≤ 5) (hcut : cut ≤ k) (fe : Cfg) (hok : LastOk k cut two fe) (m : Nat) (hlm : (lastL k cut two).length = m + 1) (hm : m ≤ 1000) (w57 : Nat) (T : List (Nat × AV)) (VS : Nat → Nat)
    (h7 : Am.look T 7 = .int .i64 (k : Nat)) (h8 : Am.look T 8 = .int .i64 (cut : Nat)) (h9 : Am.look T 9 = .ref 57 w57 .o) :
    W3_k27 (retK Try.prog [.tmp 6] (.bool true)) ⟨Am.look T, hls [(57, .row w57 29 9 ((lastL k cut two).map encT))] VS, noG⟩ := by
  simp [-W3_l26, h7]
  refine sLoop_intro (α := Nat × Nat) (fun x => x.1 ≤ k) (fun x => k - x.1)
    (fun x => [(7, .int .i64 (k : Nat)), (8, .int .i64 (cut : Nat)), (9, .ref 57 w57 .o), (11, if x.1 = 0 then .nils else .ref 88 x.2 .o), (12, .int .i64 (x.1 : Nat))])
    (fun x => (57, .row w57 29 9 ((lastL k cut two).map encT)) :: if x.1 = 0 then [] else [(88, .row x.2 9 1 (encB (wantD x.1)))])
    (0, 0) (by simp) (by simp [h7, h8, h9]) (by simp) ?_
  rintro L ⟨j, u⟩ vt hj hL
  simp only at hj hL ⊢
  by_cases h : j < k
  · have h' : (j : Int) < k := by omega
    have w2 : IntKind.wrap .i64 ((j : Int) + 1) = (j : Int) + 1 := wrap64 (by omega) (by omega)
    have hsl := sslV_ltr j (by omega)
    have hsz := ltr_size j
    have hsz2 : (⟨#[100, 111]⟩ : ByteArray).size + (ltr j).size ≤ maxLen := by rw [show (⟨#[100, 111]⟩ : ByteArray).size = 2 from rfl]; unfold maxLen; omega
    have hlen := wantD_len j
    have esn : encB (wantD j) ++ [[.str (doB ++ ltr j)]] = encB (wantD (j + 1)) := by rw [wantD_succ]; simp [encB]
    have e0 : j = 0 → wantD j = [] := fun e => by subst e; rfl
    simp only [doB] at esn
    by_cases hj0 : j = 0
    · subst hj0
      have w0 : IntKind.wrap .i64 1 = 1 := wrap64 (by omega) (by omega)
      have hsl0 : sslV (⟨#[97, 98, 99, 100, 101, 102]⟩ : ByteArray) (some (.i64, 0)) (some (.i64, 1)) = some (.str (ltr 0)) := hsl
      have esn0 : encB (wantD 1) = [[.str (⟨#[100, 111]⟩ ++ ltr 0)]] := by rw [← esn]; rfl
      simp [h, w0, hsl0, hsz2]
      exact hL _ _ _ (1, vt 88 + 1) (by simp only; omega) (by simp only; omega) (by simp) (by simp [esn0])
    · generalize wantD j = W at *
      simp [h, h', w2, hsl, hsz2, hj0]
      rw [decide_eq_true (by omega)]
      simp [w2]
      exact hL _ _ _ (j + 1, u + 1) (by simp only; omega) (by simp only; omega) (by simp) (by simp [esn])
  · obtain rfl : j = k := by omega
    have hj0 : ¬ j = 0 := by omega
    simp [-W3_k24, hj0]
    exact las_k24 j cut two hk1 hk5 hcut fe hok m hlm hm w57 u _ vt (by simp) (by simp) (by simp) (by simp)
theorem rowL_len (cut : Int) : ∀ i, (rowL cut i).length ≤ 3 * i
  | 0 => by simp [rowL]
  | i + 1 => by
    have := rowL_len cut i
    simp only [rowL, rowAt, List.length_append, List.length_cons, List.length_nil]
    split
    · simp only [List.length_cons, List.length_nil]; omega
    · simp only [List.length_nil]; omega
theorem sp_las (n accept : Int) (two : Bool) : Am.Spec Try.prog 3 [.int .i64 n, .int .i64 accept, .bool two] (.bool true) := by
  have a1 := wit_ge n 5 (by omega)
  have a2 := wit_lt n 5 (by omega)
  have hw := sp_wit8 n 5 (by omega) (by omega)
  obtain ⟨k0, hk0⟩ : ∃ d : Nat, within n 5 = d := ⟨(within n 5).toNat, by omega⟩
  rw [hk0] at hw a1 a2
  have b1 := wit_ge accept ((k0 : Int) + 1 + 1) (by omega)
  have b2 := wit_lt accept ((k0 : Int) + 1 + 1) (by omega)
  have hw2 := sp_wit8 accept ((k0 : Int) + 1 + 1) (by omega) (by omega)
  obtain ⟨cut, hcut⟩ : ∃ d : Nat, within accept ((k0 : Int) + 1 + 1) = d := ⟨(within accept ((k0 : Int) + 1 + 1)).toNat, by omega⟩
  rw [hcut] at hw2 b1 b2
  obtain ⟨fe, hok⟩ := last_of (lasts_all k0 (by omega) cut (by omega) two)
  have w1 : IntKind.wrap .i64 (1 + (k0 : Int)) = ((k0 : Int) + 1) := by rw [wrap64 (by omega) (by omega)]; omega
  have w2 : IntKind.wrap .i64 ((k0 : Int) + 1 + 1) = ((k0 : Int) + 1 + 1) := wrap64 (by omega) (by omega)
  have hlen : ∀ i, (rowL cut i).length ≤ 3 * i := rowL_len cut
  have hend : (endL two).length = if two then 2 else 1 := by cases two <;> rfl
  refine W3_S (by simp) ?_
  intro vs
  simp
  refine scall_pure sp_kno8 (by simp) (by simp) ?_
  simp
  refine scall_pure hw (by simp) (by simp) ?_
  simp [w1, w2]
  refine scall_pure hw2 (by simp) (by simp) ?_
  simp [-W3_l34]
  refine sLoop_intro (α := Nat × Nat) (fun x => x.1 ≤ k0 + 1) (fun x => k0 + 1 - x.1)
    (fun x => [(2, .bool two), (7, .int .i64 ((k0 : Int) + 1)), (8, .int .i64 (cut : Nat)), (9, if x.1 = 0 then .nils else .ref 57 x.2 .o), (10, .int .i64 (x.1 : Nat))])
    (fun x => if x.1 = 0 then [] else [(57, .row x.2 29 9 ((rowL cut x.1).map encT))])
    (0, 0) (by simp) (by simp) (by simp) ?_
  rintro L ⟨i, u⟩ vt hi hL
  simp only at hi hL ⊢
  have hleni := hlen i
  by_cases h : i < k0 + 1
  · have h' : (i : Int) < (k0 : Int) + 1 := by omega
    have w3 : IntKind.wrap .i64 ((i : Int) + 1) = (i : Int) + 1 := wrap64 (by omega) (by omega)
    have hsl := sslV_ltr i (by omega)
    have hsz := ltr_size i
    have hsz2 : (⟨#[100, 111]⟩ : ByteArray).size + (ltr i).size ≤ maxLen := by rw [show (⟨#[100, 111]⟩ : ByteArray).size = 2 from rfl]; unfold maxLen; omega
    have hsz3 : (⟨#[117, 110]⟩ : ByteArray).size + (ltr i).size ≤ maxLen := by rw [show (⟨#[117, 110]⟩ : ByteArray).size = 2 from rfl]; unfold maxLen; omega
    by_cases hi0 : i = 0
    · by_cases hc : (i : Int) + 1 = cut
      · have erow : (rowL cut (i + 1)).map encT = (rowL cut i).map encT ++ [encT (tDoN (doB ++ ltr i)), encT (.of 3 [tDoN (unB ++ ltr i)])] ++ [encT (.of 5 [])] := by
          simp only [rowL, rowAt, if_pos hc, List.map_append, List.map_cons, List.map_nil, List.append_assoc]
        simp only [encT_of, encT_doN, doB, unB, List.map_cons, List.map_nil] at erow
        subst hi0
        simp only [rowL, List.map_nil, List.nil_append, List.cons_append] at erow
        have erow : (rowL cut 1).map encT = _ := erow
        have w0 : IntKind.wrap .i64 1 = 1 := wrap64 (by omega) (by omega)
        have hsl0 : sslV (⟨#[97, 98, 99, 100, 101, 102]⟩ : ByteArray) (some (.i64, 0)) (some (.i64, 1)) = some (.str (ltr 0)) := hsl
        have hc : (1 : Int) = cut := hc
        simp [w0, hsl0, hsz2, hsz3, ← hc, h']
        rw [← hc] at erow
        exact hL _ _ _ (1, vt 57 + 1 + 1) (by simp only; omega) (by simp only; omega) (by simp [← hc]) (by simp [erow, ← hc])
      · have erow : (rowL cut (i + 1)).map encT = (rowL cut i).map encT ++ [encT (tDoN (doB ++ ltr i)), encT (.of 3 [tDoN (unB ++ ltr i)])] := by
          simp only [rowL, rowAt, if_neg hc, List.map_append, List.map_cons, List.map_nil, List.append_nil]
        simp only [encT_of, encT_doN, doB, unB, List.map_cons, List.map_nil] at erow
        subst hi0
        simp only [rowL, List.map_nil, List.nil_append, List.cons_append] at erow
        have erow : (rowL cut 1).map encT = _ := erow
        have w0 : IntKind.wrap .i64 1 = 1 := wrap64 (by omega) (by omega)
        have hsl0 : sslV (⟨#[97, 98, 99, 100, 101, 102]⟩ : ByteArray) (some (.i64, 0)) (some (.i64, 1)) = some (.str (ltr 0)) := hsl
        have hc : ¬ (1 : Int) = cut := hc
        simp [w0, hsl0, hsz2, hsz3, hc, h']
        exact hL _ _ _ (1, vt 57 + 1) (by simp only; omega) (by simp only; omega) (by simp) (by simp [erow])
    · by_cases hc : (i : Int) + 1 = cut
      · have erow : (rowL cut (i + 1)).map encT = (rowL cut i).map encT ++ [encT (tDoN (doB ++ ltr i)), encT (.of 3 [tDoN (unB ++ ltr i)])] ++ [encT (.of 5 [])] := by
          simp only [rowL, rowAt, if_pos hc, List.map_append, List.map_cons, List.map_nil, List.append_assoc]
        simp only [encT_of, encT_doN, doB, unB, List.map_cons, List.map_nil] at erow
        generalize (rowL cut i) = R at *
        simp [hi0, h, h', w3, hsl, hsz2, hsz3]
        rw [decide_eq_true (by omega)]
        have w4 : IntKind.wrap .i64 (cut : Int) = cut := wrap64 (by omega) (by omega)
        simp [w3, w4, hc]
        have hR : (R.length + 2 + 1) * 120 ≤ 140737488355328 := by clear hsz2 hsz3 w1 w2 w3 w4; omega
        rw [decide_eq_true hR]
        simp [w3, w4, hc]
        exact hL _ _ _ (i + 1, u + 1 + 1) (by simp only; omega) (by simp only; omega) (by simp [hc]) (by simp [erow])
      · have erow : (rowL cut (i + 1)).map encT = (rowL cut i).map encT ++ [encT (tDoN (doB ++ ltr i)), encT (.of 3 [tDoN (unB ++ ltr i)])] := by
          simp only [rowL, rowAt, if_neg hc, List.map_append, List.map_cons, List.map_nil, List.append_nil]
        simp only [encT_of, encT_doN, doB, unB, List.map_cons, List.map_nil] at erow
        generalize (rowL cut i) = R at *
        simp [hi0, h, h', w3, hsl, hsz2, hsz3]
        rw [decide_eq_true (by omega)]
        simp [w3, hc]
        exact hL _ _ _ (i + 1, u + 1) (by simp only; omega) (by simp only; omega) (by simp) (by simp [erow])
  · obtain rfl : i = k0 + 1 := by omega
    have h' : ¬ ((k0 : Int) + 1) < (k0 : Int) + 1 := by omega
    cases two
    · have eend : (lastL (k0 + 1) cut false).map encT = (rowL cut (k0 + 1)).map encT ++ [encT (.of 4 [])] := by
        simp [lastL, endL]
      simp only [encT_of, List.map_nil] at eend
      have hll : (lastL (k0 + 1) cut false).length = (rowL cut (k0 + 1)).length + 1 := by simp [lastL, endL]
      have hfin := las_k27 (k0 + 1) cut false (by omega) (by omega) (by omega) fe hok (rowL cut (k0 + 1)).length hll (by omega)
      rw [eend] at hfin
      generalize (rowL cut (k0 + 1)) = R at *
      simp [-W3_k27]
      rw [decide_eq_true (by omega)]
      simp [-W3_k27]
      exact hfin _ _ vt (by simp) (by simp) (by simp)
    · have eend : (lastL (k0 + 1) cut true).map encT = (rowL cut (k0 + 1)).map encT ++ [[.int .i64 6, .int .i64 0, .int .i64 1, .str ⟨#[]⟩, .int .i64 0, .int .i64 0, .str ⟨#[]⟩, .sl [], .sl []], [.int .i64 4, .int .i64 1, .int .i64 0, .str ⟨#[]⟩, .int .i64 0, .int .i64 0, .str ⟨#[]⟩, .sl [], .sl []]] := by
        simp only [lastL, endL, if_true, List.map_append, List.map_cons, List.map_nil, encT_eq]
        rfl
      have hll : (lastL (k0 + 1) cut true).length = (rowL cut (k0 + 1)).length + 1 + 1 := by simp [lastL, endL]
      have hfin := las_k27 (k0 + 1) cut true (by omega) (by omega) (by omega) fe hok ((rowL cut (k0 + 1)).length + 1) hll (by omega)
      rw [eend] at hfin
      generalize (rowL cut (k0 + 1)) = R at *
      simp [-W3_k27]
      rw [decide_eq_true (by omega)]
      simp [-W3_k27]
      exact hfin _ _ vt (by simp) (by simp) (by simp)
end Go.Proofs.Ytnngddgaobhkiaa
set_option linter.unusedVariables false
set_option linter.unusedSimpArgs false
namespace Go.Proofs.Ytnngddgaobhkiaa
open Go Go.Am Go.RowKit
attribute [local simp] W13 W13_rs W13_k1 W13_k2 W13_b4 W13_b6 W13_l5 W13_l7 W4 W4_rs W4_b1 W4_b3 W4_b16 W4_b20 W4_b21 W4_b23 W4_b27 W4_b30 W4_b31 W4_k2 W4_k26 W4_l24 W4_l29

/-! ### Nil slices and literals deep in values are rows -/
mutual
def nrx : AV → AV
  | .nils => .sl []
  | .agg cs => .agg (nrxL cs)
  | .tup cs => .tup (nrxL cs)
  | .sl rows => .sl (nrxLL rows)
  | .slt rows => .sl (nrxLL rows)
  | a => a
def nrxL : List AV → List AV
  | [] => []
  | a :: l => nrx a :: nrxL l
def nrxLL : List (List AV) → List (List AV)
  | [] => []
  | r :: l => nrxL r :: nrxLL l
end
theorem nrxL_map : ∀ l, nrxL l = l.map nrx
  | [] => rfl
  | a :: l => by simp [nrxL, nrxL_map l]
theorem nrxLL_map : ∀ l, nrxLL l = l.map nrxL
  | [] => rfl
  | a :: l => by simp [nrxLL, nrxLL_map l]
theorem R_nrx {C : Ctx} {a : AV} {v : Value} (h : R C a v) : R C (nrx a) v := by
  induction h with
  | agg cs vs hl hh ih =>
    unfold nrx
    refine .agg _ vs (by rw [nrxL_map]; simpa using hl) fun i a ha => ?_
    rw [nrxL_map, List.getElem?_map] at ha
    obtain ⟨b, hb, rfl⟩ := Option.map_eq_some_iff.1 ha
    exact ih i b hb
  | tup cs vs hl hh ih =>
    unfold nrx
    refine .tup _ vs (by rw [nrxL_map]; simpa using hl) fun i a ha => ?_
    rw [nrxL_map, List.getElem?_map] at ha
    obtain ⟨b, hb, rfl⟩ := Option.map_eq_some_iff.1 ha
    exact ih i b hb
  | sl rows A cap g off sz f hA hcap hmax hsz hc hone hh ih =>
    unfold nrx
    have e : (nrxLL rows).length = rows.length := by rw [nrxLL_map]; simp
    have := R.sl (C := C) (nrxLL rows) A cap g off sz f (fun hne => hA fun e2 => hne (by rw [e2]; rfl)) (by rw [e]; exact hcap) (by rw [e]; exact hmax) (fun r hr => by
      rw [nrxLL_map] at hr
      obtain ⟨q, hq, rfl⟩ := List.mem_map.1 hr
      rw [nrxL_map, List.length_map]
      exact hsz q hq) (by rw [e]; exact hc) hone (fun i r hr j a ha => by
      rw [nrxLL_map, List.getElem?_map] at hr
      obtain ⟨q, hq, rfl⟩ := Option.map_eq_some_iff.1 hr
      rw [nrxL_map, List.getElem?_map] at ha
      obtain ⟨b, hb, rfl⟩ := Option.map_eq_some_iff.1 ha
      exact ih i q hq j b hb)
    rw [e] at this
    exact this
  | slt rows g off sz f hA hmax hsz hc hone hh ih =>
    unfold nrx
    have e : (nrxLL rows).length = rows.length := by rw [nrxLL_map]; simp
    have := R.slt (C := C) (nrxLL rows) g off sz f hA (by rw [e]; exact hmax) (fun r hr => by
      rw [nrxLL_map] at hr
      obtain ⟨q, hq, rfl⟩ := List.mem_map.1 hr
      rw [nrxL_map, List.length_map]
      exact hsz q hq) (by rw [e]; exact hc) hone (fun i r hr j a ha => by
      rw [nrxLL_map, List.getElem?_map] at hr
      obtain ⟨q, hq, rfl⟩ := Option.map_eq_some_iff.1 hr
      rw [nrxL_map, List.getElem?_map] at ha
      obtain ⟨b, hb, rfl⟩ := Option.map_eq_some_iff.1 ha
      exact ih i q hq j b hb)
    rw [e] at this
    exact this.loose
  | nils => exact R.nil_sl .nils
  | _ => first | exact R.any _ | (unfold nrx; constructor <;> assumption)
theorem Spec_nrx {P : Program} {f : FuncId} {args : List AV} {r : AV} (h : Am.Spec P f (nrxL args) r) : Am.Spec P f args r where
  enters := h.enters
  calls := fun w S l vs hS hR => h.calls w S l vs hS ⟨by rw [nrxL_map]; simpa using hR.1, fun i a ha => by
    rw [nrxL_map, List.getElem?_map] at ha
    obtain ⟨b, hb, rfl⟩ := Option.map_eq_some_iff.1 ha
    exact R_nrx (hR.2 i b hb)⟩
theorem scall_nrx {P : Program} {f : FuncId} {args caps args' : List AV} {d : Option Nat} {s : St} {K : Kt (St → Prop)} {r : AV} (h : Am.Spec P f args' r) (e : nrxL ((args ++ caps).map (pur (frzs s.H args))) = args')
    (hc : closedL ((args ++ caps).map (pur (frzs s.H args))) = true) (k : K.v (s.put d r (frzs s.H args))) : @sCall P (.func f caps) args d s K :=
  scall_pure (Spec_nrx (by rw [e]; exact h)) rfl hc k
theorem nrxL_append (a b : List AV) : nrxL (a ++ b) = nrxL a ++ nrxL b := by simp [nrxL_map]
mutual
theorem nrxL_encE : ∀ x : Ex, nrxL (encE x) = encE x
  | ⟨k, n, s, l⟩ => by simp [encE, nrxL, nrx, nrxLL_encEs l]
theorem nrxLL_encEs : ∀ l : List Ex, nrxLL (encEs l) = encEs l
  | [] => rfl
  | x :: l => by simp [encEs, nrxLL, nrxL_encE x, nrxLL_encEs l]
end
mutual
theorem nrxL_encT : ∀ x : Tm, nrxL (encT x) = encT x
  | ⟨k, a, b, s, e, l⟩ => by simp [encT, nrxL, nrx, nrxL_append, nrxL_encE e, nrxLL_encTs l]
theorem nrxLL_encTs : ∀ l : List Tm, nrxLL (encTs l) = encTs l
  | [] => rfl
  | x :: l => by simp [encTs, nrxLL, nrxL_encT x, nrxLL_encTs l]
end
@[simp] theorem nrxL_encF (f : Cfg) : nrxL (encF f) = encF f := by rw [encF_eq, encSt_Q]; simp [nrxL, nrx, nrxLL_map, encI, nrxL_encE, nrxL_encT, encQ, Function.comp_def]
/-! ### A process that goes on and on -/
theorem sp_sz6 (s : List (List Tm)) (hs : stSize s ≤ 1000000) (hl : s.length ≤ 137438953472) (hk : ∀ l ∈ s, l.length ≤ 137438953472) : Am.Spec Try.prog 13 [.sl (encSt s)] (.int .i64 (stSize s)) := by
  rw [encSt_Q]
  refine W13_S (by simp) ?_
  intro vs
  simp [-W13_l7]
  refine sLoop_intro (fun i => i ≤ s.length) (fun i => s.length - i) (fun i => [(0, .sl (s.map encQ)), (3, .int .i64 (stSize (s.take i))), (4, .int .i64 (i : Nat))]) (fun _ => []) 0 (by simp) (by simp [stSize]) (by simp) ?_
  rintro L i vt hi hL
  by_cases h : i < s.length
  · have h' : (i : Int) < s.length := by omega
    have e1 := stSize_split s (i + 1)
    have e2 := stSize_take s i h
    have e3 := stSize_nn (s.drop (i + 1))
    have e4 := stSize_nn (s.take i)
    have hix : ixRows (s.map encQ) (i : Int) 1 = some (.elt (encQ s[i]) 0) := by rw [ixRows_nat]; simp [List.getElem?_eq_getElem h]
    simp [-W13_l5, h, h']
    refine sLoop_intro (fun j => j ≤ s[i].length) (fun j => s[i].length - j) (fun j => [(0, .sl (s.map encQ)), (3, .int .i64 (stSize (s.take i) + Tm.sizes (s[i].take j))), (4, .int .i64 (i : Nat)), (5, .int .i64 (j : Nat))]) (fun _ => []) 0 (by simp) (by simp [Tm.sizes]) (by simp) ?_
    rintro L2 j vt2 hj hL2
    have hkl := hk s[i] (List.getElem_mem h)
    by_cases g : j < s[i].length
    · have g' : (j : Int) < s[i].length := by omega
      have q1 := Tm.sizes_split s[i] (j + 1)
      have q2 := Tm.sizes_take s[i] j g
      have q3 := Tm.sizes_nonneg (s[i].drop (j + 1))
      have q4 := Tm.sizes_nonneg (s[i].take j)
      have q5 := s[i][j].size_pos
      have hz := sp_r5z s[i][j] (by omega)
      simp [h, h', g, g', hix]
      refine scall_pure hz (by simp) (by simp) ?_
      simp
      rw [wrap64 (by omega) (by omega), wrap64 (by omega) (by omega)]
      refine hL2 _ _ _ (j + 1) g (by omega) ?_ (by simp)
      simp [q2]
      omega
    · have g' : ¬ (j : Int) < s[i].length := by omega
      have e : s[i].take j = s[i] := List.take_of_length_le (by omega)
      rw [e]
      simp [h, h', g, g', hix]
      rw [wrap64 (by omega) (by omega)]
      refine hL _ _ _ (i + 1) h (by omega) ?_ (by simp)
      simp [e2]
  · have h' : ¬ (i : Int) < s.length := by omega
    have e : s.take i = s := List.take_of_length_le (by omega)
    rw [e]
    simp [h, h', retW_eq]
def tCall : Tm := .of 13 []
def tBig : Tm := .of 12 [.of 3 [.skip], tCall]
def fT : Nat → Tm
  | 0 => tCall
  | i + 1 => .of 12 [.skip, fT i]
def fR : Nat → List AV
  | 0 => rawK 13 .nils
  | i + 1 => rawK 12 (.slt ([.skip, fT i].map encT))
theorem fR_tells (i : Nat) : TellsT (fR i) (fT i) := by
  cases i with
  | zero => exact tells_rawN 13
  | succ i => exact tells_rawK 12 [.skip, fT i]
theorem nrxL_rawK (k : Int) (l : List Tm) : nrxL (rawK k (.slt (l.map encT))) = encT (.of k l) := by
  rw [encT_of]; simp [rawK, nrxL, nrx, nrxLL_map, nrxL_encT, Function.comp_def]
theorem nrxL_rawN (k : Int) : nrxL (rawK k .nils) = encT (.of k []) := by
  rw [encT_of]; simp [rawK, nrxL, nrx]
theorem fR_nrx (i : Nat) : nrxL (fR i) = encT (fT i) := by
  cases i with
  | zero => exact nrxL_rawN 13
  | succ i => exact nrxL_rawK 12 [.skip, fT i]
theorem fR_closed (i : Nat) : closedL (fR i) = true := by
  cases i with
  | zero => rfl
  | succ i => simp [fR, rawK, closedL, closed, closedLL]
def fueC (t : Tm) : Cor := ⟨[], 1, [t], 0⟩
def sk (j : Nat) : List Tm := List.replicate j .skip
theorem sk_size : ∀ j, Tm.sizes (sk j) = j
  | 0 => rfl
  | j + 1 => by
    have h := sk_size j
    have zs : Tm.skip.size = 1 := by decide +kernel
    have e : sk (j + 1) = .skip :: sk j := rfl
    rw [e, Tm.sizes]
    omega
theorem sk_st (j : Nat) : stSize [sk j] = j := by simp only [stSize, List.map_cons, List.map_nil, List.sum_cons, List.sum_nil, sk_size]; omega
theorem sk_snoc (j : Nat) : sk j ++ [.skip] = sk (j + 1) := by simp [sk, List.replicate_succ']
def fueF (big : Bool) (i : Nat) : Cfg := if big then (if i % 2 = 0 then ⟨tBig, [], [sk (i / 2)], i, 0⟩ else ⟨tCall, [], [sk (i / 2 + 1)], i, 0⟩) else ⟨tCall, [], [[]], i, 0⟩
theorem call_en : tCall.enabled = [(13, [], 0)] := by decide +kernel
theorem big_en : tBig.enabled = [(3, [0], 0)] := by decide +kernel
theorem call_norm : tCall.norm = tCall := (Tm.same_iff _ _).1 (by decide +kernel)
theorem big_norm : tBig.norm = tBig := (Tm.same_iff _ _).1 (by decide +kernel)
theorem push_norm : (putT tBig [0] .skip).norm = tCall := (Tm.same_iff _ _).1 (by decide +kernel)
theorem fT_norm : ∀ i < 5, (fT i).norm = tCall := fun i h => (Tm.same_iff _ _).1 ((by decide +kernel : ∀ i < 5, Tm.same (fT i).norm tCall = true) i h)
theorem do_call (t : Tm) (vars : List Int) (st : List (List Tm)) (s k : Int) (hs : s < 5000) (hz : t.norm.size + stSize st ≤ 2000) : doM [t] ⟨tCall, vars, st, s, k⟩ 0 = ⟨⟨t.norm, vars, st, s + 1, k⟩, .zero, false, 0⟩ := by
  rw [doM_eq call_norm]
  simp only [call_en]
  show (if 5000 ≤ s then _ else _) = _
  rw [if_neg (by omega)]
  show (if 2000 < t.norm.size + stSize st then _ else _) = _
  rw [if_neg (by omega)]
  rfl
theorem do_callFull (t : Tm) (vars : List Int) (st : List (List Tm)) (s k : Int) (hs : s < 5000) (hz : 2000 < t.norm.size + stSize st) : (doM [t] ⟨tCall, vars, st, s, k⟩ 0).e = 11 := by
  rw [doM_eq call_norm]
  simp only [call_en]
  show Did.e (if 5000 ≤ s then _ else _) = _
  rw [if_neg (by omega)]
  show Did.e (if 2000 < t.norm.size + stSize st then _ else _) = _
  rw [if_pos hz]
  rfl
theorem do_callFuel (t : Tm) (vars : List Int) (st : List (List Tm)) (s k : Int) (hs : 5000 ≤ s) : (doM [t] ⟨tCall, vars, st, s, k⟩ 0).e = 10 := by
  rw [doM_eq call_norm]
  simp only [call_en]
  show Did.e (if 5000 ≤ s then _ else _) = _
  rw [if_pos hs]
  rfl
theorem do_push (t : Tm) (j : Nat) (s k : Int) (hs : s < 5000) (hz : j + 1 ≤ 1999) : doM [t] ⟨tBig, [], [sk j], s, k⟩ 0 = ⟨⟨tCall, [], [sk (j + 1)], s + 1, k⟩, .zero, false, 0⟩ := by
  rw [doM_eq big_norm]
  simp only [big_en]
  show (if 5000 ≤ s then _ else _) = _
  rw [if_neg (by omega)]
  show (if 2000 < (putT tBig [0] .skip).norm.size + stSize [sk j ++ [.skip]] then _ else (⟨⟨(putT tBig [0] .skip).norm, [], [sk j ++ [.skip]], s + 1, k⟩, .zero, false, 0⟩ : Did)) = _
  rw [push_norm, sk_snoc, sk_st, show tCall.size = 1 from by decide +kernel, if_neg (by omega)]
theorem sp_sk (m : Nat) (h : m ≤ 5000) : Am.Spec Try.prog 13 [.sl (encSt [sk m])] (.int .i64 (m : Nat)) := by
  have := sp_sz6 [sk m] (by rw [sk_st]; omega) (by simp) (fun l hl => by rw [List.mem_singleton.1 hl]; unfold sk; rw [List.length_replicate]; omega)
  rwa [sk_st] at this
structure FueOk (t : Tm) (big : Bool) (n : Nat) (code : Int) : Prop where
  cor : CorOk (fueC t)
  beg : begM (fueC t) = fueF big 0
  step : ∀ i < n, doM [t] (fueF big i) 0 = ⟨fueF big (i + 1), .zero, false, 0⟩
  stop : (doM [t] (fueF big n) 0).e = code
  few : n < 6000
theorem FueOk.ok {t : Tm} {big : Bool} {n : Nat} {code : Int} (h : FueOk t big n code) : ∀ i ≤ n, OkC (fueC t) (fueF big i)
  | 0, _ => by rw [← h.beg]; exact beg_ok h.cor
  | i + 1, hi => by
    have := doM_ok h.cor.env (h.ok i (by omega)) 0 (by show (doM [t] (fueF big i) 0).e = 0; rw [h.step i (by omega)])
    have e : (doM (fueC t).procs (fueF big i) 0).f = fueF big (i + 1) := by show (doM [t] (fueF big i) 0).f = _; rw [h.step i (by omega)]
    rwa [e] at this
theorem fue_k26 (t : Tm) (big : Bool) (n : Nat) (code : Int) (h : FueOk t big n code) (hcode : code = if big then 11 else 10) (hn : n = if big then 3993 else 5000) (cs : List AV) (hnr : nrxL cs = encT t) (hcl : closedL cs = true) (hfl : cs.length = 9) (v5 v21 : Nat) (T : List (Nat × AV)) (VS : Nat → Nat)
    (h1 : Am.look T 1 = .bool big) (h5 : Am.look T 5 = .ref 5 v5 (.p 0)) :
    W4_k26 (retK Try.prog [.tmp 4] (.bool true)) ⟨Am.look T, hls [(21, .row v21 29 9 [cs]), (5, .box v5 33 [.nils, .int .i64 1, .ref 21 v21 .o, .int .i64 0])] VS, noG⟩ := by
  have hb := sp_begC h.cor
  have hok := h.ok
  have hd := fun (i : Nat) (hi : i ≤ n) => sp_doC h.cor (hok i hi) 0
  have eC : encC (fueC t) = [.sl [], .int .i64 1, .sl [encT t], .int .i64 0] := rfl
  have eP : (fueC t).procs = [t] := rfl
  rw [h.beg] at hb
  simp only [eC, eP, didR] at hb hd
  have hstep := h.step
  have hstop := h.stop
  have hfew := h.few
  simp [-W4_l24, h1, h5]
  refine scall_nrx hb (by simp [nrxL, nrx, nrxLL, nrxL_encT, hnr]) (by simp [closedL, closedLL, closed, hcl]) ?_
  simp [-W4_l24, h1, h5]
  refine sLoop_intro (fun i : Nat => i ≤ n) (fun i => n - i)
    (fun i => [(1, .bool big), (5, .ref 5 v5 (.p 0)), (7, .ref 7 (VS 7 + 1) (.p 0)), (8, .int .i64 (i : Nat))])
    (fun i => [(21, .froz v21 [cs]), (5, .box v5 33 [.nils, .int .i64 1, .ref 21 v21 .o, .int .i64 0]), (7, .box (VS 7 + 1) 36 (encF (fueF big i)))])
    0 (by simp) (by simp [h1, h5]) (by simp) ?_
  rintro L i vt hi hL
  have h6 : (i : Int) < 6000 := by omega
  have hdi := hd i hi
  clear hd
  by_cases h : i < n
  · rw [hstep i h] at hdi
    generalize hF : fueF big i = F at *
    generalize hG : fueF big (i + 1) = G at *
    simp [h6]
    refine scall_nrx hdi (by simp [nrxL, nrx, nrxLL, nrxL_encT, hnr]) (by simp [closedL, closedLL, closed, hcl]) ?_
    simp [encEv]
    rw [wrap64 (by omega) (by omega)]
    exact hL _ _ _ (i + 1) h (by omega) (by simp) (by simp [hG])
  · obtain rfl : i = n := by omega
    rw [hstop] at hdi
    cases big
    · have hst : (fueF false i).steps = 5000 := by simp only [Bool.false_eq_true, if_false] at hn; rw [hn]; rfl
      simp only [Bool.false_eq_true, if_false] at hcode
      subst hcode
      generalize hF : fueF false i = F at *
      generalize doM [t] F 0 = d at *
      simp [h6]
      refine scall_nrx hdi (by simp [nrxL, nrx, nrxLL, nrxL_encT, hnr]) (by simp [closedL, closedLL, closed, hcl]) ?_
      simp [encEv, hst, retW_eq]
    · simp only [if_true] at hn hcode
      subst hcode hn
      have e : fueF true 3993 = ⟨tCall, [], [sk 1997], 3993, 0⟩ := rfl
      have hk := hok 3993 (Nat.le_refl _)
      rw [e] at hdi hk
      have hz := sp_sk 1997 (by omega)
      have hz5 := sp_r5z tCall (by decide +kernel)
      have h2000 : IntKind.wrap .i64 1998 = 1998 := wrap64 (by omega) (by omega)
      rw [show tCall.size = 1 from by decide +kernel] at hz5
      generalize sk 1997 = S at *
      generalize tCall = tc at *
      clear hL
      rw [e]
      generalize doM [t] ⟨tc, [], [S], 3993, 0⟩ 0 = d at *
      simp [h6]
      refine scall_nrx hdi (by simp [nrxL, nrx, nrxLL, nrxL_encT, hnr]) (by simp [closedL, closedLL, closed, hcl]) ?_
      simp [encEv]
      refine scall0_pure hz (by simp) (by simp) ?_
      simp
      refine scall0_pure hz5 (by simp) (by simp) ?_
      simp [h2000]
      refine scall0_pure hz (by simp) (by simp) ?_
      simp [retW_eq]
theorem fue_go (d : Nat) (hd : d < 5) : FueOk (fT d) false 5000 10 where
  cor := (by
    have h : ∀ i < 5, chkM (fueC (fT i)) = true ∧ allE (fT i) = true := by decide +kernel
    exact ⟨(h d hd).1, by simpa [fueC] using (h d hd).2, by simp [fueC]⟩)
  beg := (sameF_iff _ _).1 ((by decide +kernel : ∀ i < 5, sameF (begM (fueC (fT i))) (fueF false 0) = true) d hd)
  step := fun i hi => by
    have := do_call (fT d) [] [[]] i 0 (by omega) (by rw [fT_norm d hd, show tCall.size = 1 from by decide +kernel, show stSize [[]] = 0 from rfl]; omega)
    rw [fT_norm d hd] at this
    exact this
  stop := do_callFuel (fT d) [] [[]] 5000 0 (by omega)
  few := by omega
theorem fue_big : FueOk tBig true 3993 11 where
  cor := ⟨by decide +kernel, by simp only [fueC, List.mem_singleton]; rintro t rfl; decide +kernel, by simp [fueC]⟩
  beg := (sameF_iff _ _).1 (by decide +kernel)
  step := fun i hi => by
    have hi2 : i % 2 = 0 ∨ i % 2 = 1 := by omega
    rcases hi2 with h | h
    · have h2 : ¬ (i + 1) % 2 = 0 := by omega
      have e1 : fueF true i = ⟨tBig, [], [sk (i / 2)], i, 0⟩ := by unfold fueF; rw [if_pos rfl, if_pos h]
      have e2 : fueF true (i + 1) = ⟨tCall, [], [sk (i / 2 + 1)], (i : Int) + 1, 0⟩ := by
        unfold fueF; rw [if_pos rfl, if_neg h2, show (i + 1) / 2 = i / 2 by omega]; rfl
      rw [e1, e2]
      exact do_push tBig (i / 2) i 0 (by omega) (by omega)
    · have h2 : ¬ i % 2 = 0 := by omega
      have h3 : (i + 1) % 2 = 0 := by omega
      have e1 : fueF true i = ⟨tCall, [], [sk (i / 2 + 1)], i, 0⟩ := by unfold fueF; rw [if_pos rfl, if_neg h2]
      have e2 : fueF true (i + 1) = ⟨tBig, [], [sk (i / 2 + 1)], (i : Int) + 1, 0⟩ := by
        unfold fueF; rw [if_pos rfl, if_pos h3, show (i + 1) / 2 = i / 2 + 1 by omega]; rfl
      rw [e1, e2]
      have := do_call tBig [] [sk (i / 2 + 1)] i 0 (by omega) (by rw [big_norm, sk_st, show tBig.size = 4 from by decide +kernel]; omega)
      rw [big_norm] at this
      exact this
  stop := by
    have e : fueF true 3993 = ⟨tCall, [], [sk 1997], 3993, 0⟩ := rfl
    rw [e]
    exact do_callFull tBig [] [sk 1997] 3993 0 (by omega) (by rw [big_norm, sk_st, show tBig.size = 4 from by decide +kernel]; omega)
  few := by omega
theorem sp_fue (n : Int) (big : Bool) : Am.Spec Try.prog 4 [.int .i64 n, .bool big] (.bool true) := by
  cases big
  · have hd1 := wit_ge n 5 (by omega)
    have hd2 := wit_lt n 5 (by omega)
    have hw := sp_wit8 n 5 (by omega) (by omega)
    obtain ⟨d, hd⟩ : ∃ d : Nat, within n 5 = d := ⟨(within n 5).toNat, by omega⟩
    rw [hd] at hw
    have hfin := fue_k26 (fT d) false 5000 10 (fue_go d (by omega)) rfl rfl (fR d) (fR_nrx d) (fR_closed d) (fR_tells d).len
    refine W4_S (by simp) ?_
    intro vs
    simp
    refine scall_pure sp_kno8 (by simp) (by simp) ?_
    simp [-W4_l29]
    have eskip : encT .skip = [.int .i64 0, .int .i64 0, .int .i64 0, .str ⟨#[]⟩, .int .i64 0, .int .i64 0, .str ⟨#[]⟩, .sl [], .sl []] := by rw [encT_eq]; rfl
    refine sLoop_intro (fun i : Nat => i ≤ d) (fun i => d - i)
      (fun i => [(0, .int .i64 n), (1, .bool false), (5, .ref 5 (vs 5 + 1) (.p 0)), (6, .int .i64 (i : Nat))])
      (fun i => [(21, .row (vs 21 + 1) 29 9 [fR i]), (5, .box (vs 5 + 1) 33 [.nils, .int .i64 1, .ref 21 (vs 21 + 1) .o, .int .i64 0])])
      0 (by simp) (by simp) (by simp [fR, rawK]) ?_
    rintro L i vt hi hL
    have hT := fR_tells i
    have hpu := hT.pur
    have hfz := hT.frz
    have hrd := readA_whole hT.len
    have hln := hT.len
    by_cases h : i < d
    · have h' : (i : Int) < d := by omega
      simp
      refine scall_pure hw (by simp) (by simp) ?_
      have htk : List.take 9 (fR i) = fR i := List.take_of_length_le (Nat.le_of_eq hln)
      have hoc : occL (fR i) = [] := by cases i <;> simp [fR, rawK, occL, occ]
      simp [h, h', hpu, hfz, hrd, hln, htk, hoc]
      rw [wrap64 (by omega) (by omega)]
      exact hL _ _ _ (i + 1) h (by omega) (by simp) (by simp [fR, rawK, eskip])
    · obtain rfl : i = d := by omega
      simp [-W4_k26]
      refine scall_pure hw (by simp) (by simp) ?_
      simp [-W4_k26]
      exact hfin _ _ _ _ (by simp) (by simp)
  · have hfin := fue_k26 tBig true 3993 11 fue_big rfl rfl (encT tBig) (nrxL_encT _) (by simp) (by simp)
    have eskip : encT .skip = [.int .i64 0, .int .i64 0, .int .i64 0, .str ⟨#[]⟩, .int .i64 0, .int .i64 0, .str ⟨#[]⟩, .sl [], .sl []] := by rw [encT_eq]; rfl
    simp only [List.map_cons, List.map_nil, tBig, tCall, encT_of, eskip] at hfin
    refine W4_S (by simp) ?_
    intro vs
    simp
    refine scall_pure sp_kno8 (by simp) (by simp) ?_
    simp [-W4_k26]
    refine hfin _ _ _ _ ?_ ?_
    · simp
    · simp
end Go.Proofs.Ytnngddgaobhkiaa
