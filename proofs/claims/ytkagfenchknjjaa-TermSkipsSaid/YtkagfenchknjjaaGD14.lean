import Derived.Test.YtkagfenchknjjaaGD13
import Derived.Test.YtkagfenchknjjaaGQ7
import Derived.Test.YtkagfenchknjjaaGW8
import Derived.Test.YtkagfenchknjjaaGW9
set_option linter.unusedVariables false
set_option linter.unusedSimpArgs false
namespace Go.Proofs.Ytkagfenchknjjaa
open Go Go.Am Go.RowKit

def eC (z : Bool) (e : Ex) : List AV := if z then [.int .i64 0, .int .i64 0, .str ⟨#[]⟩, .nils] else encE e
@[simp] theorem eC_len (z : Bool) (e : Ex) : (eC z e).length = 4 := by cases z <;> simp [eC]
@[simp] theorem eC_cell (z : Bool) (e : Ex) : (∀ c ∈ eC z e, c.cell = true) ↔ True := by cases z <;> simp [eC]; exact encE_cell e
@[simp] theorem eC_frz (z : Bool) (e : Ex) (H : Heap) : (eC z e).foldl frz0 H = H := by cases z <;> simp [eC]
theorem eC_pur (z : Bool) (e : Ex) (H : Heap) (h : z = true → e = .zero) : (eC z e).map (pur0 H) = encE e := by
  cases z
  · simp [eC]
  · rw [h rfl]; simp [eC, Ex.zero, encE_mk]
theorem eC_four (z : Bool) (e : Ex) : ∃ a b c d, eC z e = [a, b, c, d] := by
  cases z
  · exact ⟨_, _, _, _, encE_eq e⟩
  · exact ⟨_, _, _, _, rfl⟩
def tmc (t : Tm) (z : Bool) (lv : AV) : List AV := .int .i64 t.kind :: .int .i64 t.a :: .int .i64 t.b :: .str t.name :: (eC z t.e ++ [lv])
theorem encT_ap (t : Tm) : encT t = .int .i64 t.kind :: .int .i64 t.a :: .int .i64 t.b :: .str t.name :: (encE t.e ++ [.sl (t.l.map encT)]) := by cases t; simp [encT, encTs_map]
@[simp] theorem tmc_len (t : Tm) (z : Bool) (lv : AV) : (tmc t z lv).length = 9 := by simp [tmc]
@[simp] theorem rd_tmc8 (t : Tm) (z : Bool) (lv : AV) : readA (tmc t z lv) 8 1 false = some lv := by
  obtain ⟨a, b, c, d, h⟩ := eC_four z t.e
  rw [tmc, h]; rfl
@[simp] theorem set_tmc8 (t : Tm) (z : Bool) (lv x : AV) : setL (tmc t z lv) 8 [x] = tmc t z x := by
  obtain ⟨a, b, c, d, h⟩ := eC_four z t.e
  rw [tmc, tmc, h]; rfl
@[simp] theorem tmc_cell (t : Tm) (z : Bool) (lv : AV) : (∀ c ∈ tmc t z lv, c.cell = true) ↔ lv.cell = true := by
  have := (eC_cell z t.e).2 trivial
  obtain ⟨a, b, c, d, h⟩ := eC_four z t.e
  rw [h] at this
  rw [tmc, h]
  simp at this ⊢
  simp [this]
def isZ (k : Int) : Bool := !(decide (k = 2) || decide (k = 9))
def lprH (V S D : List ByteArray) (x : Pr) (v3 v4 v5 : Nat) (i w : Nat) : List (Nat × Blk) :=
  (3, .box v3 73 (encPr x)) :: (4, .box v4 34 [.int .i64 0, .int .i64 0, .int .i64 0, .str ⟨#[]⟩, .int .i64 0, .int .i64 0, .str ⟨#[]⟩, .nils, .nils]) ::
    if i = 0 then [(5, .box v5 34 (tmc (lowP0 V S D x.kind x.name x.to x.e []) (isZ x.kind) .nils))]
    else [(5, .box v5 34 (tmc (lowP0 V S D x.kind x.name x.to x.e []) (isZ x.kind) (.ref 114 w .o))), (114, .row w 34 9 ((x.l.take i).map fun y => encT (lowP V S D y)))]
theorem badPs_mem {V S D : List ByteArray} : ∀ {l : List Pr}, badPs V S D l = false → ∀ x ∈ l, badP V S D x = false
  | y :: l, h, x, hx => by
    simp only [badPs, Bool.or_eq_false_iff] at h
    rcases List.mem_cons.1 hx with rfl | hx
    · exact h.1
    · exact badPs_mem h.2 x hx
theorem lowP0_l (V S D : List ByteArray) (k : Int) (s t : ByteArray) (e : Ex) (l : List Tm) : encT (lowP0 V S D k s t e l) = .int .i64 (lowP0 V S D k s t e []).kind :: .int .i64 (lowP0 V S D k s t e []).a :: .int .i64 (lowP0 V S D k s t e []).b ::
    .str (lowP0 V S D k s t e []).name :: (encE (lowP0 V S D k s t e []).e ++ [.sl (l.map encT)]) := by
  rw [encT_ap]
  unfold lowP0
  repeat' split
  all_goals rfl
theorem lowP0_z (V S D : List ByteArray) (k : Int) (s t : ByteArray) (e : Ex) (h : isZ k = true) : (lowP0 V S D k s t e []).e = .zero := by
  simp [isZ] at h
  unfold lowP0
  repeat' split
  all_goals first | rfl | (exfalso; omega)
theorem sp_lpr_loop (x : Pr) (V S D : List ByteArray) (b : Bool) (hlen : x.l.length ≤ 137438953472) (ih : ∀ y ∈ x.l, Am.Spec Try.prog 92 [.elt (lwC V S D b) 0, .agg (encPr y)] (.agg (encT (lowP V S D y))))
    (v3 v4 v5 : Nat) (T : List (Nat × AV)) (HL : List (Nat × Blk)) (VS : Nat → Nat)
    (hT : Am.subT T [(0, .elt (lwC V S D b) 0), (3, .ref 3 v3 (.p 0)), (4, .ref 4 v4 (.p 0)), (5, .ref 5 v5 (.p 0)), (6, .int .i64 0)]) (hH : subA HL (lprH V S D x v3 v4 v5 0 0)) :
    @sLoop ⟨Am.look T, hls HL VS, noG⟩ ⟨fun L0 s => W92_l4 Try.prog (retK Try.prog [.cell 4 34] (.agg (encT (lowP V S D x)))) L0 s⟩ := by
  refine sLoop_intro (fun a : Nat × Nat => a.1 ≤ x.l.length) (fun a => x.l.length - a.1) (fun a => [(0, .elt (lwC V S D b) 0), (3, .ref 3 v3 (.p 0)), (4, .ref 4 v4 (.p 0)), (5, .ref 5 v5 (.p 0)), (6, .int .i64 (a.1 : Nat))])
    (fun a => lprH V S D x v3 v4 v5 a.1 a.2) (0, 0) (by simp) (by simpa using hT) (by simpa using hH) ?_
  rintro L ⟨i, w⟩ vs hi hL
  simp only at hi hL ⊢
  simp [W92, W92_rs, W92_k1, W92_k5, W92_k24, W92_c2, W92_c6, W92_c9, W92_c10, W92_c12, W92_c14, W92_c15, W92_c17, W92_c19, W92_b3, W92_b7, W92_b8, W92_b11, W92_b13, W92_b16, W92_b18, W92_b20, W92_b21, W92_b22, W92_b23, W92_b25, W92_b26, W92_b27, W92_b28, W92_l4, lprH]
  refine sIf_dec (fun h => ?_) (fun h => ?_)
  · have hx := ih x.l[i] (List.getElem_mem h)
    by_cases h0 : i = 0
    · subst h0
      simp [W92, W92_rs, W92_k1, W92_k5, W92_k24, W92_c2, W92_c6, W92_c9, W92_c10, W92_c12, W92_c14, W92_c15, W92_c17, W92_c19, W92_b3, W92_b7, W92_b8, W92_b11, W92_b13, W92_b16, W92_b18, W92_b20, W92_b21, W92_b22, W92_b23, W92_b25, W92_b26, W92_b27, W92_b28, W92_l4, h] at hx ⊢
      refine scall0_pure hx (by simp) (by simp) ?_
      simp [W92, W92_rs, W92_k1, W92_k5, W92_k24, W92_c2, W92_c6, W92_c9, W92_c10, W92_c12, W92_c14, W92_c15, W92_c17, W92_c19, W92_b3, W92_b7, W92_b8, W92_b11, W92_b13, W92_b16, W92_b18, W92_b20, W92_b21, W92_b22, W92_b23, W92_b25, W92_b26, W92_b27, W92_b28, W92_l4]
      rw [wrap64 (by omega) (by omega)]
      refine hL _ _ _ (1, vs 114 + 1) (by simp; omega) (by simp; omega) (by simp) ?_
      have ht : x.l.take 1 = [x.l[0]] := by simpa using List.take_succ_eq_append_getElem h
      simp [lprH, ht]
    · simp [W92, W92_rs, W92_k1, W92_k5, W92_k24, W92_c2, W92_c6, W92_c9, W92_c10, W92_c12, W92_c14, W92_c15, W92_c17, W92_c19, W92_b3, W92_b7, W92_b8, W92_b11, W92_b13, W92_b16, W92_b18, W92_b20, W92_b21, W92_b22, W92_b23, W92_b25, W92_b26, W92_b27, W92_b28, W92_l4, h, h0]
      refine scall0_pure hx (by simp) (by simp) ?_
      have hl : min i x.l.length = i := by omega
      simp [W92, W92_rs, W92_k1, W92_k5, W92_k24, W92_c2, W92_c6, W92_c9, W92_c10, W92_c12, W92_c14, W92_c15, W92_c17, W92_c19, W92_b3, W92_b7, W92_b8, W92_b11, W92_b13, W92_b16, W92_b18, W92_b20, W92_b21, W92_b22, W92_b23, W92_b25, W92_b26, W92_b27, W92_b28, W92_l4, hl]
      rw [decide_eq_true (by omega)]
      simp [W92, W92_rs, W92_k1, W92_k5, W92_k24, W92_c2, W92_c6, W92_c9, W92_c10, W92_c12, W92_c14, W92_c15, W92_c17, W92_c19, W92_b3, W92_b7, W92_b8, W92_b11, W92_b13, W92_b16, W92_b18, W92_b20, W92_b21, W92_b22, W92_b23, W92_b25, W92_b26, W92_b27, W92_b28, W92_l4]
      rw [wrap64 (by omega) (by omega)]
      refine hL _ _ _ (i + 1, w + 1) (by simp; omega) (by simp; omega) (by simp) ?_
      have ht := take_map_succ (fun y => encT (lowP V S D y)) x.l i h
      simp [lprH, ht]
  · have e : i = x.l.length := by omega
    subst e
    have hlw := lowP_eq V S D x
    have q3 := lowP0_l V S D x.kind x.name x.to x.e (x.l.map (lowP V S D))
    rw [← hlw] at q3
    have q4 := fun H => eC_pur (isZ x.kind) (lowP0 V S D x.kind x.name x.to x.e []).e H (lowP0_z V S D x.kind x.name x.to x.e)
    have ht : (x.l.map fun y => encT (lowP V S D y)).take x.l.length = x.l.map fun y => encT (lowP V S D y) := List.take_of_length_le (by simp)
    rw [q3]
    by_cases h0 : x.l = []
    · simp [W92, W92_rs, W92_k1, W92_k5, W92_k24, W92_c2, W92_c6, W92_c9, W92_c10, W92_c12, W92_c14, W92_c15, W92_c17, W92_c19, W92_b3, W92_b7, W92_b8, W92_b11, W92_b13, W92_b16, W92_b18, W92_b20, W92_b21, W92_b22, W92_b23, W92_b25, W92_b26, W92_b27, W92_b28, W92_l4, h0, retW_eq, tmc, q4]
    · simp [W92, W92_rs, W92_k1, W92_k5, W92_k24, W92_c2, W92_c6, W92_c9, W92_c10, W92_c12, W92_c14, W92_c15, W92_c17, W92_c19, W92_b3, W92_b7, W92_b8, W92_b11, W92_b13, W92_b16, W92_b18, W92_b20, W92_b21, W92_b22, W92_b23, W92_b25, W92_b26, W92_b27, W92_b28, W92_l4, h0, retW_eq, Function.comp_def, ht, tmc, q4]
theorem sp_lpr (x : Pr) (V S D : List ByteArray) (b : Bool) (hw : x.wt ≤ 137438953472) (hV : V.length ≤ 1000) (hS : S.length ≤ 1000) (hD : D.length ≤ 1000) (hb : badP V S D x = false) :
    Am.Spec Try.prog 92 [.elt (lwC V S D b) 0, .agg (encPr x)] (.agg (encT (lowP V S D x))) := by
  have hlen := Pr.wts_len x.l
  have hwt := x.wt_eq
  rw [badP_eq] at hb
  simp only [Bool.or_eq_false_iff] at hb
  obtain ⟨hb1, hb2⟩ := hb
  have fin := sp_lpr_loop x V S D b (by omega) (fun y hy => sp_lpr y V S D b (by have := Pr.wts_mem hy; omega) hV hS hD (badPs_mem hb2 y hy))
  have cs : x.kind = 1 ∨ x.kind = 2 ∨ (x.kind = 3 ∨ x.kind = 4 ∨ x.kind = 5) ∨ x.kind = 6 ∨ x.kind = 9 ∨ x.kind = 13 ∨ (x.kind ≠ 1 ∧ x.kind ≠ 2 ∧ ¬ (x.kind = 3 ∨ x.kind = 4 ∨ x.kind = 5) ∧ x.kind ≠ 6 ∧ x.kind ≠ 9 ∧ x.kind ≠ 13) := by omega
  refine Am.Spec.of_W (W := W92) Try.func92 (by kernel_rfl) (by kernel_rfl) (by kernel_rfl) Try.ntmps92 W92_eq (rs := [.cell 4 34]) (by kernel_rfl) (by simp) ?_
  intro vs
  simp [W92, W92_rs, W92_k1, W92_k5, W92_k24, W92_c2, W92_c6, W92_c9, W92_c10, W92_c12, W92_c14, W92_c15, W92_c17, W92_c19, W92_b3, W92_b7, W92_b8, W92_b11, W92_b13, W92_b16, W92_b18, W92_b20, W92_b21, W92_b22, W92_b23, W92_b25, W92_b26, W92_b27, W92_b28, W92_l4]
  rcases cs with k | k | k | k | k | k | ⟨k1, k2, k3, k6, k9, k13⟩
  · simp [W92, W92_rs, W92_k1, W92_k5, W92_k24, W92_c2, W92_c6, W92_c9, W92_c10, W92_c12, W92_c14, W92_c15, W92_c17, W92_c19, W92_b3, W92_b7, W92_b8, W92_b11, W92_b13, W92_b16, W92_b18, W92_b20, W92_b21, W92_b22, W92_b23, W92_b25, W92_b26, W92_b27, W92_b28, W92_l4, k]
    by_cases ht : x.to = ⟨#[]⟩
    · simp [W92, W92_rs, W92_k1, W92_k5, W92_k24, W92_c2, W92_c6, W92_c9, W92_c10, W92_c12, W92_c14, W92_c15, W92_c17, W92_c19, W92_b3, W92_b7, W92_b8, W92_b11, W92_b13, W92_b16, W92_b18, W92_b20, W92_b21, W92_b22, W92_b23, W92_b25, W92_b26, W92_b27, W92_b28, W92_l4, ht, -W92_l4]
      exact fin (vs 3 + 1) (vs 4 + 1) (vs 5 + 1) _ _ _ (by simp [lwC]) (by simp [lprH, k, lowP0, tmc, isZ, eC, ht])
    · simp [badP0, k, ht] at hb1
      simp [W92, W92_rs, W92_k1, W92_k5, W92_k24, W92_c2, W92_c6, W92_c9, W92_c10, W92_c12, W92_c14, W92_c15, W92_c17, W92_c19, W92_b3, W92_b7, W92_b8, W92_b11, W92_b13, W92_b16, W92_b18, W92_b20, W92_b21, W92_b22, W92_b23, W92_b25, W92_b26, W92_b27, W92_b28, W92_l4, ht, lwC]
      refine scall0_pure (sp_att V S D V b x.to (by omega) (by omega)) (by simp [lwC]) (by simp) ?_
      simp [W92, W92_rs, W92_k1, W92_k5, W92_k24, W92_c2, W92_c6, W92_c9, W92_c10, W92_c12, W92_c14, W92_c15, W92_c17, W92_c19, W92_b3, W92_b7, W92_b8, W92_b11, W92_b13, W92_b16, W92_b18, W92_b20, W92_b21, W92_b22, W92_b23, W92_b25, W92_b26, W92_b27, W92_b28, W92_l4, -W92_l4]
      exact fin (vs 3 + 1) (vs 4 + 1) (vs 5 + 1) _ _ _ (by simp [lwC]) (by simp [lprH, k, lowP0, tmc, isZ, eC, ht])
  · simp [badP0, k] at hb1
    simp [W92, W92_rs, W92_k1, W92_k5, W92_k24, W92_c2, W92_c6, W92_c9, W92_c10, W92_c12, W92_c14, W92_c15, W92_c17, W92_c19, W92_b3, W92_b7, W92_b8, W92_b11, W92_b13, W92_b16, W92_b18, W92_b20, W92_b21, W92_b22, W92_b23, W92_b25, W92_b26, W92_b27, W92_b28, W92_l4, k, lwC]
    refine scall0_pure (sp_att V S D V b x.to (by omega) (by omega)) (by simp [lwC]) (by simp) ?_
    simp [W92, W92_rs, W92_k1, W92_k5, W92_k24, W92_c2, W92_c6, W92_c9, W92_c10, W92_c12, W92_c14, W92_c15, W92_c17, W92_c19, W92_b3, W92_b7, W92_b8, W92_b11, W92_b13, W92_b16, W92_b18, W92_b20, W92_b21, W92_b22, W92_b23, W92_b25, W92_b26, W92_b27, W92_b28, W92_l4, -W92_l4]
    refine scall0_pure (sp_lex x.e V S D b (by omega) hV hb1.2) (by simp [lwC]) (by simp) ?_
    simp [W92, W92_rs, W92_k1, W92_k5, W92_k24, W92_c2, W92_c6, W92_c9, W92_c10, W92_c12, W92_c14, W92_c15, W92_c17, W92_c19, W92_b3, W92_b7, W92_b8, W92_b11, W92_b13, W92_b16, W92_b18, W92_b20, W92_b21, W92_b22, W92_b23, W92_b25, W92_b26, W92_b27, W92_b28, W92_l4, -W92_l4]
    exact fin (vs 3 + 1) (vs 4 + 1) (vs 5 + 1) _ _ _ (by simp [lwC]) (by simp [lprH, k, lowP0, tmc, isZ, eC, k])
  · rcases k with k | k | k
    · simp [badP0, k] at hb1
      simp [W92, W92_rs, W92_k1, W92_k5, W92_k24, W92_c2, W92_c6, W92_c9, W92_c10, W92_c12, W92_c14, W92_c15, W92_c17, W92_c19, W92_b3, W92_b7, W92_b8, W92_b11, W92_b13, W92_b16, W92_b18, W92_b20, W92_b21, W92_b22, W92_b23, W92_b25, W92_b26, W92_b27, W92_b28, W92_l4, k, lwC]
      refine scall0_pure (sp_att V S D S b x.name (by omega) (by omega)) (by simp [lwC]) (by simp) ?_
      simp [W92, W92_rs, W92_k1, W92_k5, W92_k24, W92_c2, W92_c6, W92_c9, W92_c10, W92_c12, W92_c14, W92_c15, W92_c17, W92_c19, W92_b3, W92_b7, W92_b8, W92_b11, W92_b13, W92_b16, W92_b18, W92_b20, W92_b21, W92_b22, W92_b23, W92_b25, W92_b26, W92_b27, W92_b28, W92_l4, -W92_l4]
      exact fin (vs 3 + 1) (vs 4 + 1) (vs 5 + 1) _ _ _ (by simp [lwC]) (by simp [lprH, k, lowP0, tmc, isZ, eC, k])
    · simp [badP0, k] at hb1
      simp [W92, W92_rs, W92_k1, W92_k5, W92_k24, W92_c2, W92_c6, W92_c9, W92_c10, W92_c12, W92_c14, W92_c15, W92_c17, W92_c19, W92_b3, W92_b7, W92_b8, W92_b11, W92_b13, W92_b16, W92_b18, W92_b20, W92_b21, W92_b22, W92_b23, W92_b25, W92_b26, W92_b27, W92_b28, W92_l4, k, lwC]
      refine scall0_pure (sp_att V S D S b x.name (by omega) (by omega)) (by simp [lwC]) (by simp) ?_
      simp [W92, W92_rs, W92_k1, W92_k5, W92_k24, W92_c2, W92_c6, W92_c9, W92_c10, W92_c12, W92_c14, W92_c15, W92_c17, W92_c19, W92_b3, W92_b7, W92_b8, W92_b11, W92_b13, W92_b16, W92_b18, W92_b20, W92_b21, W92_b22, W92_b23, W92_b25, W92_b26, W92_b27, W92_b28, W92_l4, -W92_l4]
      exact fin (vs 3 + 1) (vs 4 + 1) (vs 5 + 1) _ _ _ (by simp [lwC]) (by simp [lprH, k, lowP0, tmc, isZ, eC, k])
    · simp [badP0, k] at hb1
      simp [W92, W92_rs, W92_k1, W92_k5, W92_k24, W92_c2, W92_c6, W92_c9, W92_c10, W92_c12, W92_c14, W92_c15, W92_c17, W92_c19, W92_b3, W92_b7, W92_b8, W92_b11, W92_b13, W92_b16, W92_b18, W92_b20, W92_b21, W92_b22, W92_b23, W92_b25, W92_b26, W92_b27, W92_b28, W92_l4, k, lwC]
      refine scall0_pure (sp_att V S D S b x.name (by omega) (by omega)) (by simp [lwC]) (by simp) ?_
      simp [W92, W92_rs, W92_k1, W92_k5, W92_k24, W92_c2, W92_c6, W92_c9, W92_c10, W92_c12, W92_c14, W92_c15, W92_c17, W92_c19, W92_b3, W92_b7, W92_b8, W92_b11, W92_b13, W92_b16, W92_b18, W92_b20, W92_b21, W92_b22, W92_b23, W92_b25, W92_b26, W92_b27, W92_b28, W92_l4, -W92_l4]
      exact fin (vs 3 + 1) (vs 4 + 1) (vs 5 + 1) _ _ _ (by simp [lwC]) (by simp [lprH, k, lowP0, tmc, isZ, eC, k])
  · simp [badP0, k] at hb1
    simp [W92, W92_rs, W92_k1, W92_k5, W92_k24, W92_c2, W92_c6, W92_c9, W92_c10, W92_c12, W92_c14, W92_c15, W92_c17, W92_c19, W92_b3, W92_b7, W92_b8, W92_b11, W92_b13, W92_b16, W92_b18, W92_b20, W92_b21, W92_b22, W92_b23, W92_b25, W92_b26, W92_b27, W92_b28, W92_l4, k, lwC]
    refine scall0_pure (sp_att V S D S b x.name (by omega) (by omega)) (by simp [lwC]) (by simp) ?_
    simp [W92, W92_rs, W92_k1, W92_k5, W92_k24, W92_c2, W92_c6, W92_c9, W92_c10, W92_c12, W92_c14, W92_c15, W92_c17, W92_c19, W92_b3, W92_b7, W92_b8, W92_b11, W92_b13, W92_b16, W92_b18, W92_b20, W92_b21, W92_b22, W92_b23, W92_b25, W92_b26, W92_b27, W92_b28, W92_l4, -W92_l4]
    refine scall0_pure (sp_att V S D S b x.to (by omega) (by omega)) (by simp [lwC]) (by simp) ?_
    simp [W92, W92_rs, W92_k1, W92_k5, W92_k24, W92_c2, W92_c6, W92_c9, W92_c10, W92_c12, W92_c14, W92_c15, W92_c17, W92_c19, W92_b3, W92_b7, W92_b8, W92_b11, W92_b13, W92_b16, W92_b18, W92_b20, W92_b21, W92_b22, W92_b23, W92_b25, W92_b26, W92_b27, W92_b28, W92_l4, -W92_l4]
    exact fin (vs 3 + 1) (vs 4 + 1) (vs 5 + 1) _ _ _ (by simp [lwC]) (by simp [lprH, k, lowP0, tmc, isZ, eC, k])
  · simp [badP0, k] at hb1
    simp [W92, W92_rs, W92_k1, W92_k5, W92_k24, W92_c2, W92_c6, W92_c9, W92_c10, W92_c12, W92_c14, W92_c15, W92_c17, W92_c19, W92_b3, W92_b7, W92_b8, W92_b11, W92_b13, W92_b16, W92_b18, W92_b20, W92_b21, W92_b22, W92_b23, W92_b25, W92_b26, W92_b27, W92_b28, W92_l4, k]
    refine scall_pure (sp_lex x.e V S D b (by omega) hV hb1) (by simp) (by simp) ?_
    simp [W92, W92_rs, W92_k1, W92_k5, W92_k24, W92_c2, W92_c6, W92_c9, W92_c10, W92_c12, W92_c14, W92_c15, W92_c17, W92_c19, W92_b3, W92_b7, W92_b8, W92_b11, W92_b13, W92_b16, W92_b18, W92_b20, W92_b21, W92_b22, W92_b23, W92_b25, W92_b26, W92_b27, W92_b28, W92_l4, -W92_l4]
    exact fin (vs 3 + 1) (vs 4 + 1) (vs 5 + 1) _ _ _ (by simp [lwC]) (by simp [lprH, k, lowP0, tmc, isZ, eC, k])
  · simp [badP0, k] at hb1
    simp [W92, W92_rs, W92_k1, W92_k5, W92_k24, W92_c2, W92_c6, W92_c9, W92_c10, W92_c12, W92_c14, W92_c15, W92_c17, W92_c19, W92_b3, W92_b7, W92_b8, W92_b11, W92_b13, W92_b16, W92_b18, W92_b20, W92_b21, W92_b22, W92_b23, W92_b25, W92_b26, W92_b27, W92_b28, W92_l4, k, lwC]
    refine scall0_pure (sp_att V S D D b x.name (by omega) (by omega)) (by simp [lwC]) (by simp) ?_
    simp [W92, W92_rs, W92_k1, W92_k5, W92_k24, W92_c2, W92_c6, W92_c9, W92_c10, W92_c12, W92_c14, W92_c15, W92_c17, W92_c19, W92_b3, W92_b7, W92_b8, W92_b11, W92_b13, W92_b16, W92_b18, W92_b20, W92_b21, W92_b22, W92_b23, W92_b25, W92_b26, W92_b27, W92_b28, W92_l4, -W92_l4]
    exact fin (vs 3 + 1) (vs 4 + 1) (vs 5 + 1) _ _ _ (by simp [lwC]) (by simp [lprH, k, lowP0, tmc, isZ, eC, k])
  · simp [W92, W92_rs, W92_k1, W92_k5, W92_k24, W92_c2, W92_c6, W92_c9, W92_c10, W92_c12, W92_c14, W92_c15, W92_c17, W92_c19, W92_b3, W92_b7, W92_b8, W92_b11, W92_b13, W92_b16, W92_b18, W92_b20, W92_b21, W92_b22, W92_b23, W92_b25, W92_b26, W92_b27, W92_b28, W92_l4, k1, k2, k6, k9, k13, show ¬ x.kind = 3 by omega, show ¬ x.kind = 4 by omega, show ¬ x.kind = 5 by omega, -W92_l4]
    exact fin (vs 3 + 1) (vs 4 + 1) (vs 5 + 1) _ _ _ (by simp) (by simp [lprH, k1, k2, k3, k6, k9, k13, lowP0, tmc, isZ, eC])
termination_by SizeOf.sizeOf x
decreasing_by exact Pr.lt_of_mem hy
end Go.Proofs.Ytkagfenchknjjaa
set_option linter.unusedVariables false
set_option linter.unusedSimpArgs false
namespace Go.Proofs.Ytkagfenchknjjaa
open Go Go.Am Go.RowKit

theorem sp_rnd (p : Prog) (hv : p.vars.length ≤ 1000) (hn : p.procs.length = 5) (hok : ∀ d ∈ p.procs, d.body.okS = true ∧ d.body.wt ≤ 137438953472) : Am.Spec Try.prog 93 [.agg (encProg p)] (.bool p.round) := by
  have hfl : p.fronts.length = 5 := by simp [Prog.fronts, hn]
  have hM : okM p.fronts := by
    refine ⟨hfl, fun q hq => ?_⟩
    rw [List.getD_eq_getElem?_getD, List.getElem?_eq_getElem (by omega)]
    simp [Prog.fronts, Pr.front_len, hn]
  refine Am.Spec.of_W (W := W93) Try.func93 (by kernel_rfl) (by kernel_rfl) (by kernel_rfl) Try.ntmps93 W93_eq (rs := [.tmp 2]) (by kernel_rfl) (by simp) ?_
  intro vs
  simp [W93, W93_rs, W93_k1, W93_k6, W93_k7, W93_k8, W93_b2, W93_b3, W93_b4, W93_b25, W93_b27, W93_b29, W93_l5, W93_l26, W93_l28, W93_l30, W93_c9, W93_c10, W93_c11, W93_c12, W93_c13, W93_c14, W93_c15, W93_c16, W93_c17, W93_c18, W93_c19, W93_c20, W93_c21, W93_c22, W93_c23, W93_c24, W93_c31]
  refine scall_heap [] [(36, 36), (1000, 1000), (1001, 1001), (1002, 1002), (1003, 1003), (1004, 1004)] (hs_fro p hv hn hok) (by simp) (by simp) (by simp) ?_
  rintro r l' VS' ⟨w, l, hf, hr, hl'⟩
  obtain ⟨⟨a, ra⟩, ⟨b, rb'⟩, ⟨c, rc⟩, ⟨d, rd⟩, ⟨e, re⟩, rfl⟩ : ∃ x0 x1 x2 x3 x4, l = [x0, x1, x2, x3, x4] := by
    have := congrArg List.length hf
    rw [hfl] at this
    rcases l with _ | ⟨x0, _ | ⟨x1, _ | ⟨x2, _ | ⟨x3, _ | ⟨x4, _ | ⟨x5, l⟩⟩⟩⟩⟩⟩ <;> simp at this
    exact ⟨_, _, _, _, _, rfl⟩
  rw [hr, hl']
  refine ⟨by simp [grid, gb, gr], ?_⟩
  have hpr : p.round = diagF (rdK 5 5 p.fronts) 5 := by unfold Prog.round; rw [hn]
  rw [hpr]
  simp at hf
  simp [W93, W93_rs, W93_k1, W93_k6, W93_k7, W93_k8, W93_b2, W93_b3, W93_b4, W93_b25, W93_b27, W93_b29, W93_l5, W93_l26, W93_l28, W93_c9, W93_c10, W93_c11, W93_c12, W93_c13, W93_c14, W93_c15, W93_c16, W93_c17, W93_c18, W93_c19, W93_c20, W93_c21, W93_c22, W93_c23, W93_c24, W93_c31, grid, gb, gr]
  refine sLoop_intro (fun k => k ≤ 5) (fun k => 5 - k) (fun k => [(3, .ref 36 w .o), (4, .int .i64 5), (5, .int .i64 (k : Nat))]) (fun k => rndH (vs 1 + 1) w p ⟨a, b, c, d, e⟩ (rdK 5 k p.fronts)) 0 (by simp) (by simp) (by simp [rndH, rdK, ← hf]) ?_
  intro L k vt hk hL
  by_cases h : k < 5
  · have h' : (k : Int) < 5 := by omega
    have hm := okM_rdK hM 5 (by omega) k
    have hL3 := fun T H vs => hL T H vs (k + 1) h (by omega)
    rw [show rdK 5 (k + 1) p.fronts = rdI 5 k 5 (rdK 5 k p.fronts) from rfl] at hL3
    generalize rdK 5 k p.fronts = M' at *
    simp [W93, W93_rs, W93_k1, W93_k6, W93_k7, W93_k8, W93_b2, W93_b3, W93_b4, W93_b25, W93_b27, W93_b29, W93_l5, W93_l26, W93_l30, W93_c9, W93_c10, W93_c11, W93_c12, W93_c13, W93_c14, W93_c15, W93_c16, W93_c17, W93_c18, W93_c19, W93_c20, W93_c21, W93_c22, W93_c23, W93_c24, W93_c31, h']
    exact rnd_i (vs 1 + 1) w p ⟨a, b, c, d, e⟩ M' hm k h _ L hL3 _ _ _ (by simp) (by simp [rndH])
  · have e : k = 5 := by omega
    subst e
    have hm := okM_rdK hM 5 (by omega) 5
    generalize rdK 5 5 p.fronts = M' at *
    simp [W93, W93_rs, W93_k1, W93_k6, W93_k7, W93_k8, W93_b2, W93_b3, W93_b4, W93_b25, W93_b27, W93_b29, W93_l26, W93_l28, W93_l30, W93_c9, W93_c10, W93_c11, W93_c12, W93_c13, W93_c14, W93_c15, W93_c16, W93_c17, W93_c18, W93_c19, W93_c20, W93_c21, W93_c22, W93_c23, W93_c24, W93_c31]
    exact rnd_end (vs 1 + 1) w p ⟨a, b, c, d, e⟩ M' hm _ _ _ (by simp) (by simp [rndH])
end Go.Proofs.Ytkagfenchknjjaa
set_option linter.unusedVariables false
set_option linter.unusedSimpArgs false
namespace Go.Proofs.Ytkagfenchknjjaa
open Go Go.Am Go.RowKit

def pvs (p : Prog) : List Int := p.vars.map (·.2)
def lowTs (v1 v2 v6 v7 : Nat) : List (Nat × AV) := [(1, .ref 1 v1 (.p 0)), (2, .ref 2 v2 (.p 0)), (6, .ref 49 v6 (.p 0)), (7, .ref 7 v7 (.p 0))]
@[simp] theorem encI_nil : encI [] = [] := rfl
theorem encI_ne {l : List Int} (h : l ≠ []) : encI l ≠ [] := by simpa [encI] using h
def lowHv (p : Prog) (v1 v2 v6 v7 : Nat) (V : List Int) (w : Nat) : List (Nat × Blk) :=
  [(1, .box v1 69 (encProg p)), (2, .box v2 106 [.nils, .int .i64 0, .nils, .int .i64 0]), (49, .box v6 133 (lwC p.V p.stacks p.D false)),
    (7, .box v7 106 [rv 72 w (encI V), .int .i64 (p.stacks.length : Nat), .nils, .int .i64 0])] ++ rb 72 w 3 1 (encI V)
def ppr (p : Prog) : List Tm := p.procs.map fun d => lowP p.V p.stacks p.D d.body
def lowHp (p : Prog) (v1 v2 v6 v7 w w2 j : Nat) : List (Nat × Blk) :=
  [(1, .box v1 69 (encProg p)), (2, .box v2 106 [.nils, .int .i64 0, .nils, .int .i64 0]), (49, if j = 0 then .box v6 133 (lwC p.V p.stacks p.D false) else .fbox v6 (lwC p.V p.stacks p.D false)),
    (7, .box v7 106 [.ref 72 w .o, .int .i64 (p.stacks.length : Nat), rv 92 w2 (((ppr p).take j).map encT), .int .i64 0]), (72, .row w 3 1 (encI (pvs p)))] ++ rb 92 w2 34 9 (((ppr p).take j).map encT)
theorem low_procs (p : Prog) (hv : p.vars.length ≤ 20) (hn : p.procs.length = 5) (hok : ∀ d ∈ p.procs, d.body.okS = true ∧ d.body.wt ≤ 137438953472) (hs : p.stacks.length ≤ 10)
    (hb : ∀ d ∈ p.procs, badP p.V p.stacks p.D d.body = false) (hm : idxB p.D ⟨#[109, 97, 105, 110]⟩ = 0) (v1 v2 v6 v7 w : Nat) (T : List (Nat × AV)) (HL : List (Nat × Blk)) (VS : Nat → Nat)
    (hT : Am.subT T (lowTs v1 v2 v6 v7 ++ [(9, .int .i64 0)])) (hH : subA HL (lowHp p v1 v2 v6 v7 w 0 0)) :
    @sLoop ⟨Am.look T, hls HL VS, noG⟩ ⟨fun L0 s => W70_l13 Try.prog (retK Try.prog [.cell 2 106, .tmp 3] (.tup [.agg (encC (if p.round then .zero else p.core)), .int .i64 (if p.round then 7 else 0)])) L0 s⟩ := by
  have lV : p.V.length = p.vars.length := by simp [Prog.V]
  have lD : p.D.length = 5 := by simp [Prog.D, hn]
  have lp : (ppr p).length = 5 := by simp [ppr, hn]
  refine sLoop_intro (fun a : Nat × Nat => a.1 ≤ p.procs.length) (fun a => p.procs.length - a.1) (fun a => lowTs v1 v2 v6 v7 ++ [(9, .int .i64 (a.1 : Nat))])
    (fun a => lowHp p v1 v2 v6 v7 w a.2 a.1) (0, 0) (by simp) (by simpa using hT) (by simpa using hH) ?_
  clear hT hH
  rintro L ⟨i, w2⟩ vt hi hL
  simp only at hi hL ⊢
  by_cases h : i < p.procs.length
  · have h' : (i : Int) < p.procs.length := by omega
    have ht : (ppr p).take (i + 1) = (ppr p).take i ++ [lowP p.V p.stacks p.D p.procs[i].body] := take_map_succ (fun d : Dfn => lowP p.V p.stacks p.D d.body) p.procs i h
    have hspec := sp_lpr p.procs[i].body p.V p.stacks p.D false (hok _ (List.getElem_mem h)).2 (by omega) (by omega) (by omega) (hb _ (List.getElem_mem h))
    by_cases h0 : i = 0
    · subst h0
      simp [W70, W70_rs, W70_b1, W70_b2, W70_b3, W70_b4, W70_b5, W70_b6, W70_b8, W70_b9, W70_b12, W70_b15, W70_b18, W70_b26, W70_c7, W70_c11, W70_c17, W70_c19, W70_c20, W70_c21, W70_c22, W70_c23, W70_c24, W70_c25, W70_c27, W70_c28, W70_c29, W70_c30, W70_c31, W70_c32, W70_c33, W70_c34, W70_k10, W70_k14, W70_l13, W70_l16, lowTs, lowHp, h, h', encProg, lwC]
      refine scall0_pureB hspec (by simp [lwC]) (by simp) ?_
      simp [W70, W70_rs, W70_b1, W70_b2, W70_b3, W70_b4, W70_b5, W70_b6, W70_b8, W70_b9, W70_b12, W70_b15, W70_b18, W70_b26, W70_c7, W70_c11, W70_c17, W70_c19, W70_c20, W70_c21, W70_c22, W70_c23, W70_c24, W70_c25, W70_c27, W70_c28, W70_c29, W70_c30, W70_c31, W70_c32, W70_c33, W70_c34, W70_k10, W70_k14, W70_l13, W70_l16, encProg, lwC]
      rw [wrap64 (by omega) (by omega)]
      refine hL _ _ _ (1, vt 92 + 1) (by simp; omega) (by simp; omega) ?_ ?_
      · simp [lowTs]
      · show subA _ (lowHp p _ _ _ _ _ _ (0 + 1)); unfold lowHp; rw [ht]; simp [encProg, lwC, rb, rv, encI]
    · have hne : ((ppr p).take i).map encT ≠ [] := by
        intro e
        have := congrArg List.length e
        rw [List.length_map, List.length_take, List.length_nil, lp] at this
        omega
      rw [List.map_take] at hne
      have hmin : min i (ppr p).length = i := by omega
      simp [W70, W70_rs, W70_b1, W70_b2, W70_b3, W70_b4, W70_b5, W70_b6, W70_b8, W70_b9, W70_b12, W70_b15, W70_b18, W70_b26, W70_c7, W70_c11, W70_c17, W70_c19, W70_c20, W70_c21, W70_c22, W70_c23, W70_c24, W70_c25, W70_c27, W70_c28, W70_c29, W70_c30, W70_c31, W70_c32, W70_c33, W70_c34, W70_k10, W70_k14, W70_l13, W70_l16, lowTs, lowHp, h, h', h0, encProg, lwC, rv_ne hne, rb_ne hne]
      refine scall0_pureB hspec (by simp [lwC]) (by simp) ?_
      simp [W70, W70_rs, W70_b1, W70_b2, W70_b3, W70_b4, W70_b5, W70_b6, W70_b8, W70_b9, W70_b12, W70_b15, W70_b18, W70_b26, W70_c7, W70_c11, W70_c17, W70_c19, W70_c20, W70_c21, W70_c22, W70_c23, W70_c24, W70_c25, W70_c27, W70_c28, W70_c29, W70_c30, W70_c31, W70_c32, W70_c33, W70_c34, W70_k10, W70_k14, W70_l13, W70_l16, encProg, lwC]
      rw [hmin, decide_eq_true (by omega)]
      simp [W70, W70_rs, W70_b1, W70_b2, W70_b3, W70_b4, W70_b5, W70_b6, W70_b8, W70_b9, W70_b12, W70_b15, W70_b18, W70_b26, W70_c7, W70_c11, W70_c17, W70_c19, W70_c20, W70_c21, W70_c22, W70_c23, W70_c24, W70_c25, W70_c27, W70_c28, W70_c29, W70_c30, W70_c31, W70_c32, W70_c33, W70_c34, W70_k10, W70_k14, W70_l13, W70_l16]
      rw [wrap64 (by omega) (by omega)]
      refine hL _ _ _ (i + 1, w2 + 1) (by simp; omega) (by simp; omega) ?_ ?_
      · simp [lowTs]
      · show subA _ (lowHp p _ _ _ _ _ _ (i + 1)); unfold lowHp; rw [ht]; simp [encProg, lwC, rb, rv, encI]
  · have h' : ¬ (i : Int) < p.procs.length := by omega
    have e : (ppr p).take i = (ppr p) := List.take_of_length_le (by omega)
    have h0 : i ≠ 0 := by omega
    have hne : (ppr p).map encT ≠ [] := by
      intro e
      have := congrArg List.length e
      rw [List.length_map, List.length_nil, lp] at this
      omega
    simp [W70, W70_rs, W70_b1, W70_b2, W70_b3, W70_b4, W70_b5, W70_b6, W70_b8, W70_b9, W70_b12, W70_b15, W70_b18, W70_b26, W70_c7, W70_c11, W70_c17, W70_c19, W70_c20, W70_c21, W70_c22, W70_c23, W70_c24, W70_c25, W70_c27, W70_c28, W70_c29, W70_c30, W70_c31, W70_c32, W70_c33, W70_c34, W70_k10, W70_k14, W70_l13, W70_l16, h, h', h0, lowTs, lowHp, encProg, lwC, e, rv_ne hne, rb_ne hne]
    refine scall_pure (sp_rnd p (by omega) hn hok) (by simp [encProg]) (by simp [encProg]) ?_
    cases hr : p.round
    · simp [W70, W70_rs, W70_b1, W70_b2, W70_b3, W70_b4, W70_b5, W70_b6, W70_b8, W70_b9, W70_b12, W70_b15, W70_b18, W70_b26, W70_c7, W70_c11, W70_c17, W70_c19, W70_c20, W70_c21, W70_c22, W70_c23, W70_c24, W70_c25, W70_c27, W70_c28, W70_c29, W70_c30, W70_c31, W70_c32, W70_c33, W70_c34, W70_k10, W70_k14, W70_l13, W70_l16, retW_eq, encC, Prog.core, ppr, pvs, hm]
    · simp [W70, W70_rs, W70_b1, W70_b2, W70_b3, W70_b4, W70_b5, W70_b6, W70_b8, W70_b9, W70_b12, W70_b15, W70_b18, W70_b26, W70_c7, W70_c11, W70_c17, W70_c19, W70_c20, W70_c21, W70_c22, W70_c23, W70_c24, W70_c25, W70_c27, W70_c28, W70_c29, W70_c30, W70_c31, W70_c32, W70_c33, W70_c34, W70_k10, W70_k14, W70_l13, W70_l16, retW_eq, encC, Cor.zero]
theorem sp_low (p : Prog) (hv : p.vars.length ≤ 20) (hv0 : p.vars ≠ []) (hs : p.stacks.length ≤ 10) (hn : p.procs.length = 5) (hok : ∀ d ∈ p.procs, d.body.okS = true ∧ d.body.wt ≤ 137438953472)
    (t1 : twB p.V = false) (t2 : twB p.stacks = false) (t3 : twB p.D = false) (hb : ∀ d ∈ p.procs, badP p.V p.stacks p.D d.body = false) (hm : idxB p.D ⟨#[109, 97, 105, 110]⟩ = 0) :
    Am.Spec Try.prog 70 [.agg (encProg p)] (.tup [.agg (encC (if p.round then .zero else p.core)), .int .i64 (if p.round then 7 else 0)]) := by
  have lV : p.V.length = p.vars.length := by simp [Prog.V]
  have lv : (pvs p).length = p.vars.length := by simp [pvs]
  have lD : p.D.length = 5 := by simp [Prog.D, hn]
  have e1 : ¬ (20 : Int) < p.vars.length := by omega
  have e2 : ¬ (10 : Int) < p.stacks.length := by omega
  have e3 : ¬ (20 : Int) < p.procs.length := by omega
  refine Am.Spec.of_W (W := W70) Try.func70 (by kernel_rfl) (by kernel_rfl) (by kernel_rfl) Try.ntmps70 W70_eq (rs := [.cell 2 106, .tmp 3]) (by kernel_rfl) (by simp) ?_
  intro vs
  simp [W70, W70_rs, W70_b1, W70_b2, W70_b3, W70_b4, W70_b5, W70_b6, W70_b8, W70_b9, W70_b12, W70_b15, W70_b18, W70_b26, W70_c7, W70_c11, W70_c17, W70_c19, W70_c20, W70_c21, W70_c22, W70_c23, W70_c24, W70_c25, W70_c27, W70_c28, W70_c29, W70_c30, W70_c31, W70_c32, W70_c33, W70_c34, W70_k10, W70_k14, W70_l13, W70_l16, encProg, e1, e2, e3]
  refine scall_pure (sp_nms p (by omega) (by omega)) (by simp [encProg]) (by simp [encProg]) ?_
  simp [W70, W70_rs, W70_b1, W70_b2, W70_b3, W70_b4, W70_b5, W70_b6, W70_b8, W70_b9, W70_b12, W70_b15, W70_b18, W70_b26, W70_c7, W70_c11, W70_c17, W70_c19, W70_c20, W70_c21, W70_c22, W70_c23, W70_c24, W70_c25, W70_c27, W70_c28, W70_c29, W70_c30, W70_c31, W70_c32, W70_c33, W70_c34, W70_k10, W70_k14, W70_l13, W70_l16, encProg, e1, e2, e3]
  refine scall_pure (sp_twc p.V (by omega)) (by simp) (by simp) ?_
  simp [W70, W70_rs, W70_b1, W70_b2, W70_b3, W70_b4, W70_b5, W70_b6, W70_b8, W70_b9, W70_b12, W70_b15, W70_b18, W70_b26, W70_c7, W70_c11, W70_c17, W70_c19, W70_c20, W70_c21, W70_c22, W70_c23, W70_c24, W70_c25, W70_c27, W70_c28, W70_c29, W70_c30, W70_c31, W70_c32, W70_c33, W70_c34, W70_k10, W70_k14, W70_l13, W70_l16, encProg, t1]
  refine scall_pure (sp_twc p.stacks (by omega)) (by simp) (by simp) ?_
  simp [W70, W70_rs, W70_b1, W70_b2, W70_b3, W70_b4, W70_b5, W70_b6, W70_b8, W70_b9, W70_b12, W70_b15, W70_b18, W70_b26, W70_c7, W70_c11, W70_c17, W70_c19, W70_c20, W70_c21, W70_c22, W70_c23, W70_c24, W70_c25, W70_c27, W70_c28, W70_c29, W70_c30, W70_c31, W70_c32, W70_c33, W70_c34, W70_k10, W70_k14, W70_l13, W70_l16, encProg, t2]
  refine scall_pure (sp_twc p.D (by omega)) (by simp) (by simp) ?_
  simp [W70, W70_rs, W70_b1, W70_b2, W70_b3, W70_b4, W70_b5, W70_b6, W70_b8, W70_b9, W70_b12, W70_b15, W70_b18, W70_b26, W70_c7, W70_c11, W70_c17, W70_c19, W70_c20, W70_c21, W70_c22, W70_c23, W70_c24, W70_c25, W70_c27, W70_c28, W70_c29, W70_c30, W70_c31, W70_c32, W70_c33, W70_c34, W70_k10, W70_k14, W70_l13, W70_l16, encProg, t3]
  refine scall0_pure (sp_fnd p.D ⟨#[109, 97, 105, 110]⟩ (by omega)) (by simp) (by simp) ?_
  simp [W70, W70_rs, W70_b1, W70_b2, W70_b3, W70_b4, W70_b5, W70_b6, W70_b8, W70_b9, W70_b12, W70_b15, W70_b18, W70_b26, W70_c7, W70_c11, W70_c17, W70_c19, W70_c20, W70_c21, W70_c22, W70_c23, W70_c24, W70_c25, W70_c27, W70_c28, W70_c29, W70_c30, W70_c31, W70_c32, W70_c33, W70_c34, W70_k10, W70_k14, W70_l13, W70_l16, encProg, hm]
  refine sLoop_intro (fun a : Nat × Nat => a.1 ≤ p.vars.length) (fun a => p.vars.length - a.1) (fun a => lowTs (vs 1 + 1) (vs 2 + 1) (vs 49 + 1) (vs 7 + 1) ++ [(8, .int .i64 (a.1 : Nat))])
    (fun a => lowHv p (vs 1 + 1) (vs 2 + 1) (vs 49 + 1) (vs 7 + 1) ((pvs p).take a.1) a.2) (0, 0) (by simp) (by simp [lowTs]) (by simp [lowHv, encProg, lwC]) ?_
  rintro L ⟨i, w⟩ vt hi hL
  simp only at hi hL ⊢
  by_cases h : i < p.vars.length
  · have h' : (i : Int) < p.vars.length := by omega
    have ht : (pvs p).take (i + 1) = (pvs p).take i ++ [p.vars[i].2] := take_map_succ (fun x : ByteArray × Int => x.2) p.vars i h
    by_cases h0 : i = 0
    · subst h0
      simp [W70, W70_rs, W70_b1, W70_b2, W70_b3, W70_b4, W70_b5, W70_b6, W70_b8, W70_b9, W70_b12, W70_b15, W70_b18, W70_b26, W70_c7, W70_c11, W70_c17, W70_c19, W70_c20, W70_c21, W70_c22, W70_c23, W70_c24, W70_c25, W70_c27, W70_c28, W70_c29, W70_c30, W70_c31, W70_c32, W70_c33, W70_c34, W70_k10, W70_k14, W70_l13, W70_l16, lowTs, lowHv, h, h', encProg, lwC]
      rw [wrap64 (by omega) (by omega)]
      refine hL _ _ _ (1, vt 72 + 1) (by simp; omega) (by simp; omega) ?_ ?_
      · simp [lowTs]
      · show subA _ (lowHv p _ _ _ _ ((pvs p).take (0 + 1)) _); rw [ht]; simp [lowHv, encProg, lwC, rb, rv, encI]
    · have hne : (pvs p).take i ≠ [] := by
        intro e
        have := congrArg List.length e
        rw [List.length_take, List.length_nil, lv] at this
        omega
      have hmin : min i (pvs p).length = i := by omega
      simp [W70, W70_rs, W70_b1, W70_b2, W70_b3, W70_b4, W70_b5, W70_b6, W70_b8, W70_b9, W70_b12, W70_b15, W70_b18, W70_b26, W70_c7, W70_c11, W70_c17, W70_c19, W70_c20, W70_c21, W70_c22, W70_c23, W70_c24, W70_c25, W70_c27, W70_c28, W70_c29, W70_c30, W70_c31, W70_c32, W70_c33, W70_c34, W70_k10, W70_k14, W70_l13, W70_l16, lowTs, lowHv, h, h', encProg, lwC, rv_ne (encI_ne hne), rb_ne (encI_ne hne)]
      rw [hmin, decide_eq_true (by omega)]
      simp [W70, W70_rs, W70_b1, W70_b2, W70_b3, W70_b4, W70_b5, W70_b6, W70_b8, W70_b9, W70_b12, W70_b15, W70_b18, W70_b26, W70_c7, W70_c11, W70_c17, W70_c19, W70_c20, W70_c21, W70_c22, W70_c23, W70_c24, W70_c25, W70_c27, W70_c28, W70_c29, W70_c30, W70_c31, W70_c32, W70_c33, W70_c34, W70_k10, W70_k14, W70_l13, W70_l16]
      rw [wrap64 (by omega) (by omega)]
      refine hL _ _ _ (i + 1, w + 1) (by simp; omega) (by simp; omega) ?_ ?_
      · simp [lowTs]
      · show subA _ (lowHv p _ _ _ _ ((pvs p).take (i + 1)) _); rw [ht]; simp [lowHv, encProg, lwC, rb, rv, encI]
  · have h' : ¬ (i : Int) < p.vars.length := by omega
    have e : (pvs p).take i = (pvs p) := List.take_of_length_le (by omega)
    rw [e]
    have hne : pvs p ≠ [] := fun e => by have := congrArg List.length e; rw [lv] at this; exact hv0 (List.eq_nil_of_length_eq_zero (by simpa using this))
    simp [W70, W70_rs, W70_b1, W70_b2, W70_b3, W70_b4, W70_b5, W70_b6, W70_b8, W70_b9, W70_b12, W70_b15, W70_b18, W70_b26, W70_c7, W70_c11, W70_c17, W70_c19, W70_c20, W70_c21, W70_c22, W70_c23, W70_c24, W70_c25, W70_c27, W70_c28, W70_c29, W70_c30, W70_c31, W70_c32, W70_c33, W70_c34, W70_k10, W70_k14, W70_l13, W70_l16, h, h', lowTs, lowHv, encProg, lwC, rv_ne (encI_ne hne), rb_ne (encI_ne hne), -W70_l13]
    exact low_procs p hv hn hok hs hb hm (vs 1 + 1) (vs 2 + 1) (vs 49 + 1) (vs 7 + 1) w _ _ _ (by simp [lowTs]) (by simp [lowHp, encProg, lwC])
end Go.Proofs.Ytkagfenchknjjaa
set_option linter.unusedVariables false
set_option linter.unusedSimpArgs false
namespace Go.Proofs.Ytkagfenchknjjaa
open Go Go.Am Go.RowKit

theorem sp_wi2 (a n : Int) (hn : 0 < n) (h2 : n < 1000) : Am.Spec Try.prog 110 [.int .i64 a, .int .i64 n] (.int .i64 (within a n)) := by
  refine Am.Spec.of_W (W := W110) Try.func110 (by kernel_rfl) (by kernel_rfl) (by kernel_rfl) Try.ntmps110 W110_eq (rs := [.tmp 4]) (by kernel_rfl) (by simp) ?_
  intro vs
  simp [W110, W110_rs, W110_k1, W110_b2]
  rw [if_neg (by omega)]
  simp [W110, W110_rs, W110_k1, W110_b2]
  have h1 := Int.tmod_lt_of_pos a hn
  have h3 : -n < a.tmod n := by have := Int.lt_tmod_of_pos a hn; omega
  refine sIf_dec (fun h => ?_) (fun h => ?_)
  · simp [W110, W110_rs, W110_k1, W110_b2]
    rw [wrap64 (by omega) (by omega)]
    simp [W110, W110_rs, W110_k1, W110_b2, retW_eq, within, h]
  · simp [W110, W110_rs, W110_k1, W110_b2, retW_eq, within, h]
theorem sp_wi3 (a n : Int) (hn : 0 < n) (h2 : n < 1000) : Am.Spec Try.prog 67 [.int .i64 a, .int .i64 n] (.int .i64 (within a n)) := by
  refine Am.Spec.of_W (W := W67) Try.func67 (by kernel_rfl) (by kernel_rfl) (by kernel_rfl) Try.ntmps67 W67_eq (rs := [.tmp 4]) (by kernel_rfl) (by simp) ?_
  intro vs
  simp [W67, W67_rs, W67_k1, W67_b2]
  rw [if_neg (by omega)]
  simp [W67, W67_rs, W67_k1, W67_b2]
  have h1 := Int.tmod_lt_of_pos a hn
  have h3 : -n < a.tmod n := by have := Int.lt_tmod_of_pos a hn; omega
  refine sIf_dec (fun h => ?_) (fun h => ?_)
  · simp [W67, W67_rs, W67_k1, W67_b2]
    rw [wrap64 (by omega) (by omega)]
    simp [W67, W67_rs, W67_k1, W67_b2, retW_eq, within, h]
  · simp [W67, W67_rs, W67_k1, W67_b2, retW_eq, within, h]
theorem sp_wi5 (a n : Int) (hn : 0 < n) (h2 : n < 1000) : Am.Spec Try.prog 43 [.int .i64 a, .int .i64 n] (.int .i64 (within a n)) := by
  refine Am.Spec.of_W (W := W43) Try.func43 (by kernel_rfl) (by kernel_rfl) (by kernel_rfl) Try.ntmps43 W43_eq (rs := [.tmp 4]) (by kernel_rfl) (by simp) ?_
  intro vs
  simp [W43, W43_rs, W43_k1, W43_b2]
  rw [if_neg (by omega)]
  simp [W43, W43_rs, W43_k1, W43_b2]
  have h1 := Int.tmod_lt_of_pos a hn
  have h3 : -n < a.tmod n := by have := Int.lt_tmod_of_pos a hn; omega
  refine sIf_dec (fun h => ?_) (fun h => ?_)
  · simp [W43, W43_rs, W43_k1, W43_b2]
    rw [wrap64 (by omega) (by omega)]
    simp [W43, W43_rs, W43_k1, W43_b2, retW_eq, within, h]
  · simp [W43, W43_rs, W43_k1, W43_b2, retW_eq, within, h]
theorem within_ge (a n : Int) (hn : 0 < n) : 0 ≤ within a n := by
  have h1 := Int.tmod_lt_of_pos a hn
  have h3 := Int.lt_tmod_of_pos a hn
  unfold within
  split <;> omega
theorem within_lt (a n : Int) (hn : 0 < n) : within a n < n := by
  have h1 := Int.tmod_lt_of_pos a hn
  unfold within
  split <;> omega
theorem sp_sz2 (l : List Rw2) (d : Nat) (hd : d ≤ 9) : Am.Spec Try.prog 86 [.sl (l.map encR2), .int .i64 d] (.int .i64 (sz2 l d)) := by
  refine Am.Spec.of_W (W := W86) Try.func86 (by kernel_rfl) (by kernel_rfl) (by kernel_rfl) Try.ntmps86 W86_eq (rs := [.tmp 4]) (by kernel_rfl) (by simp) ?_
  intro vs
  simp [W86, W86_rs, W86_b1, W86_b4, W86_b8, W86_k2, W86_c3, W86_c5, W86_c6, W86_l7]
  refine sIf_dec (fun h => ?_) (fun h => ?_)
  · have h : 8 < d := by omega
    simp [W86, W86_rs, W86_b1, W86_b4, W86_b8, W86_k2, W86_c3, W86_c5, W86_c6, W86_l7, retW_eq, Am.sz2, h]
  · have h' : ¬ 8 < d := by omega
    simp [W86, W86_rs, W86_b1, W86_b4, W86_b8, W86_k2, W86_c3, W86_c5, W86_c6, W86_l7]
    refine sLoop_intro (fun x : Nat × Int => x.1 ≤ l.length ∧ x.1 ≤ x.2 ∧ x.2 ≤ 1300 ∧ Am.sz2 l d = Rw2.szs (l.drop x.1) d x.2) (fun x => l.length - x.1)
      (fun x => [(0, .sl (l.map encR2)), (1, .int .i64 d), (5, .int .i64 x.2), (6, .int .i64 (x.1 : Nat))]) (fun _ => []) (0, 0) (by simp [Am.sz2, h']) (by simp) (by simp) ?_
    rintro L ⟨i, n⟩ vs ⟨hi, hn0, hn1, hs⟩ hL
    simp only at hi hn0 hn1 hs hL
    simp [W86, W86_rs, W86_b1, W86_b4, W86_b8, W86_k2, W86_c3, W86_c5, W86_c6, W86_l7]
    refine sGrd_dec (fun h1 => ?_) (fun h1 => ?_)
    · simp [W86, W86_rs, W86_b1, W86_b4, W86_b8, W86_k2, W86_c3, W86_c5, W86_c6, W86_l7]
      rw [decide_eq_true h1]
      simp [W86, W86_rs, W86_b1, W86_b4, W86_b8, W86_k2, W86_c3, W86_c5, W86_c6, W86_l7]
      refine sIf_dec (fun h2 => ?_) (fun h2 => ?_)
      · have hsz := sz2_le l[i].l (d + 1)
        simp [W86, W86_rs, W86_b1, W86_b4, W86_b8, W86_k2, W86_c3, W86_c5, W86_c6, W86_l7, h1]
        rw [wrap64 (x := (d : Int) + 1) (by omega) (by omega)]
        refine scall_flat (sp_sz2 l[i].l (d + 1) (by omega)) (by simp) (by simp) rfl ?_
        simp [W86, W86_rs, W86_b1, W86_b4, W86_b8, W86_k2, W86_c3, W86_c5, W86_c6, W86_l7]
        rw [wrap64 (x := n + 1) (by omega) (by omega), wrap64 (by omega) (by omega), wrap64 (by omega) (by omega)]
        exact hL _ _ _ (i + 1, n + 1 + Am.sz2 l[i].l (d + 1)) ⟨h1, by simp; omega, by simp; omega, hs.trans (Rw2.szs_drop l i d n h1 h2)⟩ (by simp; omega) (by simp) (by simp)
      · simp [W86, W86_rs, W86_b1, W86_b4, W86_b8, W86_k2, W86_c3, W86_c5, W86_c6, W86_l7, retW_eq]
        rw [hs, Rw2.szs_stop _ _ _ h2]
    · simp [W86, W86_rs, W86_b1, W86_b4, W86_b8, W86_k2, W86_c3, W86_c5, W86_c6, W86_l7]
      rw [decide_eq_false h1]
      simp [W86, W86_rs, W86_b1, W86_b4, W86_b8, W86_k2, W86_c3, W86_c5, W86_c6, W86_l7, retW_eq]
      rw [hs, List.drop_of_length_le (by omega)]
      rfl
termination_by SizeOf.sizeOf l
decreasing_by
  have h3 := List.sizeOf_lt_of_mem (List.getElem_mem h1)
  have h4 : ∀ y : Rw2, SizeOf.sizeOf y.l < SizeOf.sizeOf y := fun y => by cases y; simp; omega
  have := h4 l[i]
  omega
theorem sp_fw2 (l : List Rw2) : Am.Spec Try.prog 64 [.sl (l.map encR2)] (.bool (decide (sz2 l 0 ≤ 20))) := by
  refine Am.Spec.of_W (W := W64) Try.func64 (by kernel_rfl) (by kernel_rfl) (by kernel_rfl) Try.ntmps64 W64_eq (rs := [.tmp 2]) (by kernel_rfl) (by simp) ?_
  intro vs
  simp [W64, W64_rs, W64_c1]
  refine scall_flat (sp_sz2 l 0 (by omega)) (by simp) (by simp) rfl ?_
  simp [W64, W64_rs, W64_c1, retW_eq]
theorem sp_pt2 (ns : List ByteArray) (x : Rw2) (i : Nat) (hi : i < 2) (ih : ∀ y ∈ x.l, Am.Spec Try.prog 101 [.agg (encR2 y), .sl (encB ns)] (.agg (encE (y.ex ns)))) :
    Am.Spec Try.prog 111 [.agg (encR2 x), .int .i64 i, .sl (encB ns)] (.agg (encE (x.part ns i))) := by
  refine Am.Spec.of_W (W := W111) Try.func111 (by kernel_rfl) (by kernel_rfl) (by kernel_rfl) Try.ntmps111 W111_eq (rs := [.cell 6 31]) (by kernel_rfl) (by simp) ?_
  intro vs
  simp [W111, W111_rs, W111_c1, W111_c3, W111_b2, W111_b4]
  refine sIf_dec (fun h => ?_) (fun h => ?_)
  · have h' : i < x.l.length := by omega
    simp [W111, W111_rs, W111_c1, W111_c3, W111_b2, W111_b4, h']
    refine scall_pure (ih _ (List.getElem_mem h')) (by simp) (by simp) ?_
    simp [W111, W111_rs, W111_c1, W111_c3, W111_b2, W111_b4, retW_eq, Rw2.part, h']
  · have h' : x.l.length ≤ i := by omega
    simp [W111, W111_rs, W111_c1, W111_c3, W111_b2, W111_b4]
    refine scall_flat (sp_wi2 (IntKind.wrap .i64 (x.n + i)) 5 (by omega) (by omega)) (by simp) (by simp) rfl ?_
    simp [W111, W111_rs, W111_c1, W111_c3, W111_b2, W111_b4, retW_eq, Rw2.part, List.getElem?_eq_none h', leafE, encE_mk]
theorem sp_mk2 (ns : List ByteArray) (x : Rw2) (hns : ns.length < 1000) : Am.Spec Try.prog 101 [.agg (encR2 x), .sl (encB ns)] (.agg (encE (x.ex ns))) := by
  have ih : ∀ y ∈ x.l, Am.Spec Try.prog 101 [.agg (encR2 y), .sl (encB ns)] (.agg (encE (y.ex ns))) := fun y hy => sp_mk2 ns y hns
  have h0 := within_ge x.k 24 (by omega)
  have h1 := within_lt x.k 24 (by omega)
  refine Am.Spec.of_W (W := W101) Try.func101 (by kernel_rfl) (by kernel_rfl) (by kernel_rfl) Try.ntmps101 W101_eq (rs := [.cell 4 31]) (by kernel_rfl) (by simp) ?_
  intro vs
  simp [W101, W101_rs, W101_c1, W101_c3, W101_c5, W101_c7, W101_c9, W101_c11, W101_c12, W101_c17, W101_c18, W101_c19, W101_c21, W101_b2, W101_b4, W101_b6, W101_b8, W101_b10, W101_b13, W101_b14, W101_b15, W101_b16, W101_b20]
  refine scall_flat (sp_wi2 x.k 24 (by omega) (by omega)) (by simp) (by simp) rfl ?_
  rw [x.ex_eq]
  generalize within x.k 24 = w at *
  simp [W101, W101_rs, W101_c1, W101_c3, W101_c5, W101_c7, W101_c9, W101_c11, W101_c12, W101_c17, W101_c18, W101_c19, W101_c21, W101_b2, W101_b4, W101_b6, W101_b8, W101_b10, W101_b13, W101_b14, W101_b15, W101_b16, W101_b20]
  refine sIf_dec (fun h4 => ?_) (fun h4 => ?_)
  · simp [W101, W101_rs, W101_c1, W101_c3, W101_c5, W101_c7, W101_c9, W101_c11, W101_c12, W101_c17, W101_c18, W101_c19, W101_c21, W101_b2, W101_b4, W101_b6, W101_b8, W101_b10, W101_b13, W101_b14, W101_b15, W101_b16, W101_b20]
    refine scall_flat (sp_wi2 x.n 8 (by omega) (by omega)) (by simp) (by simp) rfl ?_
    have h2 := within_ge x.n 8 (by omega)
    have h3 := within_lt x.n 8 (by omega)
    generalize within x.n 8 = m at *
    obtain ⟨m, rfl⟩ : ∃ j : Nat, m = j := ⟨m.toNat, by omega⟩
    simp [W101, W101_rs, W101_c1, W101_c3, W101_c5, W101_c7, W101_c9, W101_c11, W101_c12, W101_c17, W101_c18, W101_c19, W101_c21, W101_b2, W101_b4, W101_b6, W101_b8, W101_b10, W101_b13, W101_b14, W101_b15, W101_b16, W101_b20]
    have hn : ∀ m : Nat, m < 8 → ([[AV.int .i64 0], [AV.int .i64 1], [AV.int .i64 2], [AV.int .i64 7], [AV.int .i64 99], [AV.int .i64 999999999999999999], [AV.int .i64 5], [AV.int .i64 3]] : List (List AV))[m]? = some [.int .i64 (numsE.getD m 0)] := by
      intro m hm
      rcases m with _ | _ | _ | _ | _ | _ | _ | _ | m
      all_goals first | rfl | omega
    rw [hn m (by omega)]
    simp [W101, W101_rs, W101_c1, W101_c3, W101_c5, W101_c7, W101_c9, W101_c11, W101_c12, W101_c17, W101_c18, W101_c19, W101_c21, W101_b2, W101_b4, W101_b6, W101_b8, W101_b10, W101_b13, W101_b14, W101_b15, W101_b16, W101_b20, retW_eq, h4, encE_mk]
  · simp [W101, W101_rs, W101_c1, W101_c3, W101_c5, W101_c7, W101_c9, W101_c11, W101_c12, W101_c17, W101_c18, W101_c19, W101_c21, W101_b2, W101_b4, W101_b6, W101_b8, W101_b10, W101_b13, W101_b14, W101_b15, W101_b16, W101_b20]
    refine sGrd_dec (fun h9 => ?_) (fun h9 => ?_)
    · simp [W101, W101_rs, W101_c1, W101_c3, W101_c5, W101_c7, W101_c9, W101_c11, W101_c12, W101_c17, W101_c18, W101_c19, W101_c21, W101_b2, W101_b4, W101_b6, W101_b8, W101_b10, W101_b13, W101_b14, W101_b15, W101_b16, W101_b20, h9]
      by_cases hz : ns.length = 0
      · have : ns = [] := List.eq_nil_of_length_eq_zero hz
        subst this
        simp [W101, W101_rs, W101_c1, W101_c3, W101_c5, W101_c7, W101_c9, W101_c11, W101_c12, W101_c17, W101_c18, W101_c19, W101_c21, W101_b2, W101_b4, W101_b6, W101_b8, W101_b10, W101_b13, W101_b14, W101_b15, W101_b16, W101_b20, h9]
        refine scall_flat (sp_wi2 x.n 3 (by omega) (by omega)) (by simp) (by simp) rfl ?_
        simp [W101, W101_rs, W101_c1, W101_c3, W101_c5, W101_c7, W101_c9, W101_c11, W101_c12, W101_c17, W101_c18, W101_c19, W101_c21, W101_b2, W101_b4, W101_b6, W101_b8, W101_b10, W101_b13, W101_b14, W101_b15, W101_b16, W101_b20, retW_eq, h4, h9, encE_mk]
      · have hz' : 0 < ns.length := by omega
        simp [W101, W101_rs, W101_c1, W101_c3, W101_c5, W101_c7, W101_c9, W101_c11, W101_c12, W101_c17, W101_c18, W101_c19, W101_c21, W101_b2, W101_b4, W101_b6, W101_b8, W101_b10, W101_b13, W101_b14, W101_b15, W101_b16, W101_b20, h9, hz']
        refine scall_flat (sp_wi2 x.n ns.length (by omega) (by omega)) (by simp) (by simp) rfl ?_
        simp [W101, W101_rs, W101_c1, W101_c3, W101_c5, W101_c7, W101_c9, W101_c11, W101_c12, W101_c17, W101_c18, W101_c19, W101_c21, W101_b2, W101_b4, W101_b6, W101_b8, W101_b10, W101_b13, W101_b14, W101_b15, W101_b16, W101_b20]
        rw [ixB_row1 ns _ (within_ge _ _ (by omega)) (within_lt _ _ (by omega))]
        simp [W101, W101_rs, W101_c1, W101_c3, W101_c5, W101_c7, W101_c9, W101_c11, W101_c12, W101_c17, W101_c18, W101_c19, W101_c21, W101_b2, W101_b4, W101_b6, W101_b8, W101_b10, W101_b13, W101_b14, W101_b15, W101_b16, W101_b20, retW_eq, h4, h9, encE_mk, hz']
    · simp [W101, W101_rs, W101_c1, W101_c3, W101_c5, W101_c7, W101_c9, W101_c11, W101_c12, W101_c17, W101_c18, W101_c19, W101_c21, W101_b2, W101_b4, W101_b6, W101_b8, W101_b10, W101_b13, W101_b14, W101_b15, W101_b16, W101_b20, h9]
      have g9 : ¬ w < 9 := h9
      refine sIf_dec (fun h => ?_) (fun h => ?_)
      · simp [W101, W101_rs, W101_c1, W101_c3, W101_c5, W101_c7, W101_c9, W101_c11, W101_c12, W101_c17, W101_c18, W101_c19, W101_c21, W101_b2, W101_b4, W101_b6, W101_b8, W101_b10, W101_b13, W101_b14, W101_b15, W101_b16, W101_b20]
        refine scall_pure (sp_pt2 ns x 0 (by omega) ih) (by simp) (by simp) ?_
        simp [W101, W101_rs, W101_c1, W101_c3, W101_c5, W101_c7, W101_c9, W101_c11, W101_c12, W101_c17, W101_c18, W101_c19, W101_c21, W101_b2, W101_b4, W101_b6, W101_b8, W101_b10, W101_b13, W101_b14, W101_b15, W101_b16, W101_b20, retW_eq, h4, h9, h, encE_mk]
      · simp [W101, W101_rs, W101_c1, W101_c3, W101_c5, W101_c7, W101_c9, W101_c11, W101_c12, W101_c17, W101_c18, W101_c19, W101_c21, W101_b2, W101_b4, W101_b6, W101_b8, W101_b10, W101_b13, W101_b14, W101_b15, W101_b16, W101_b20]
        refine sIf_dec (fun h' => ?_) (fun h' => ?_)
        · simp [W101, W101_rs, W101_c1, W101_c3, W101_c5, W101_c7, W101_c9, W101_c11, W101_c12, W101_c17, W101_c18, W101_c19, W101_c21, W101_b2, W101_b4, W101_b6, W101_b8, W101_b10, W101_b13, W101_b14, W101_b15, W101_b16, W101_b20]
          refine scall_pure (sp_pt2 ns x 0 (by omega) ih) (by simp) (by simp) ?_
          simp [W101, W101_rs, W101_c1, W101_c3, W101_c5, W101_c7, W101_c9, W101_c11, W101_c12, W101_c17, W101_c18, W101_c19, W101_c21, W101_b2, W101_b4, W101_b6, W101_b8, W101_b10, W101_b13, W101_b14, W101_b15, W101_b16, W101_b20, retW_eq, h4, h9, h, h', encE_mk]
        · simp [W101, W101_rs, W101_c1, W101_c3, W101_c5, W101_c7, W101_c9, W101_c11, W101_c12, W101_c17, W101_c18, W101_c19, W101_c21, W101_b2, W101_b4, W101_b6, W101_b8, W101_b10, W101_b13, W101_b14, W101_b15, W101_b16, W101_b20]
          rw [wrap64 (x := 5 + w) (by omega) (by omega), wrap64 (by omega) (by omega)]
          refine scall0_pure (sp_pt2 ns x 0 (by omega) ih) (by simp) (by simp) ?_
          simp [W101, W101_rs, W101_c1, W101_c3, W101_c5, W101_c7, W101_c9, W101_c11, W101_c12, W101_c17, W101_c18, W101_c19, W101_c21, W101_b2, W101_b4, W101_b6, W101_b8, W101_b10, W101_b13, W101_b14, W101_b15, W101_b16, W101_b20]
          refine scall0_pure (sp_pt2 ns x 1 (by omega) ih) (by simp) (by simp) ?_
          simp [W101, W101_rs, W101_c1, W101_c3, W101_c5, W101_c7, W101_c9, W101_c11, W101_c12, W101_c17, W101_c18, W101_c19, W101_c21, W101_b2, W101_b4, W101_b6, W101_b8, W101_b10, W101_b13, W101_b14, W101_b15, W101_b16, W101_b20, retW_eq, h4, h, h', encE_mk, h9]
          omega
termination_by SizeOf.sizeOf x
decreasing_by exact Rw2.lt_of_mem hy
theorem sp_one (ns : List ByteArray) (l : List Rw2) (hns : ns.length < 1000) : Am.Spec Try.prog 88 [.sl (l.map encR2), .sl (encB ns)] (.agg (encE (oneE ns l))) := by
  refine Am.Spec.of_W (W := W88) Try.func88 (by kernel_rfl) (by kernel_rfl) (by kernel_rfl) Try.ntmps88 W88_eq (rs := [.cell 4 31]) (by kernel_rfl) (by simp) ?_
  intro vs
  simp [W88, W88_rs, W88_b1, W88_b3, W88_c2]
  cases l with
  | nil => simp [W88, W88_rs, W88_b1, W88_b3, W88_c2, retW_eq, oneE, encE_mk]
  | cons x l =>
    simp [W88, W88_rs, W88_b1, W88_b3, W88_c2]
    refine scall_pure (sp_mk2 ns x hns) (by simp) (by simp) ?_
    simp [W88, W88_rs, W88_b1, W88_b3, W88_c2, retW_eq, oneE]
theorem sp_vrs : Am.Spec Try.prog 66 [] (.sl (encB vsL)) := by
  refine Am.Spec.of_W (W := W66) Try.func66 (by kernel_rfl) (by kernel_rfl) (by kernel_rfl) Try.ntmps66 W66_eq (rs := [.tmp 0]) (by kernel_rfl) (by simp) ?_
  intro vs
  simp [W66, W66_rs, retW_eq, encB, vsL]
theorem sp_stk3 : Am.Spec Try.prog 65 [] (.sl (encB ssL)) := by
  refine Am.Spec.of_W (W := W65) Try.func65 (by kernel_rfl) (by kernel_rfl) (by kernel_rfl) Try.ntmps65 W65_eq (rs := [.tmp 0]) (by kernel_rfl) (by simp) ?_
  intro vs
  simp [W65, W65_rs, retW_eq, encB, ssL]
theorem sp_dfs : Am.Spec Try.prog 68 [] (.sl (encB dsL)) := by
  refine Am.Spec.of_W (W := W68) Try.func68 (by kernel_rfl) (by kernel_rfl) (by kernel_rfl) Try.ntmps68 W68_eq (rs := [.tmp 0]) (by kernel_rfl) (by simp) ?_
  intro vs
  simp [W68, W68_rs, retW_eq, encB, dsL]
theorem sp_sz3 (x : Rw3) (d : Nat) (hd : d ≤ 9) : Am.Spec Try.prog 44 [.agg (encR3 x), .int .i64 d] (.int .i64 (x.sz d)) := by
  refine Am.Spec.of_W (W := W44) Try.func44 (by kernel_rfl) (by kernel_rfl) (by kernel_rfl) Try.ntmps44 W44_eq (rs := [.tmp 4]) (by kernel_rfl) (by simp) ?_
  intro vs
  simp [W44, W44_rs, W44_b1, W44_b4, W44_b8, W44_k2, W44_c3, W44_c5, W44_c6, W44_c9, W44_c10, W44_c11, W44_c12, W44_l7]
  have hz := x.sz_eq d
  have fin : ∀ (v2 : Nat) (T : List (Nat × AV)) (VS : Nat → Nat), x.sz d = Rw3.szs x.l d 1 → d ≤ 8 → Am.subT T [(1, .int .i64 d), (2, .ref 2 v2 (.p 0)), (5, .int .i64 1), (6, .int .i64 0)] → (@sLoop ⟨Am.look T, hls [(2, .box v2 25 (encR3 x))] VS, noG⟩ ⟨fun L0 s => W44_l7 Try.prog (retK Try.prog [.tmp 4] (.int .i64 (x.sz d))) L0 s⟩) := by
    intro v2 T VS hzz hd8 hT
    refine sLoop_intro (fun y : Nat × Int => y.1 ≤ x.l.length ∧ y.1 ≤ y.2 ∧ y.2 ≤ 1500 ∧ Rw3.szs x.l d 1 = Rw3.szs (x.l.drop y.1) d y.2) (fun y => x.l.length - y.1)
      (fun y => [(1, .int .i64 d), (2, .ref 2 v2 (.p 0)), (5, .int .i64 y.2), (6, .int .i64 (y.1 : Nat))]) (fun _ => [(2, .box v2 25 (encR3 x))]) (0, 1) (by simp) (by simpa using hT) (by simp) ?_
    rintro L ⟨i, n⟩ vs ⟨hi, hn0, hn1, hs⟩ hL
    simp only at hi hn0 hn1 hs hL
    simp [W44, W44_rs, W44_b1, W44_b4, W44_b8, W44_k2, W44_c3, W44_c5, W44_c6, W44_c9, W44_c10, W44_c11, W44_c12, W44_l7]
    refine sGrd_dec (fun h1 => ?_) (fun h1 => ?_)
    · simp [W44, W44_rs, W44_b1, W44_b4, W44_b8, W44_k2, W44_c3, W44_c5, W44_c6, W44_c9, W44_c10, W44_c11, W44_c12, W44_l7]
      rw [decide_eq_true h1]
      simp [W44, W44_rs, W44_b1, W44_b4, W44_b8, W44_k2, W44_c3, W44_c5, W44_c6, W44_c9, W44_c10, W44_c11, W44_c12, W44_l7]
      refine sIf_dec (fun h2 => ?_) (fun h2 => ?_)
      · have hsz := Rw3.sz_le x.l[i] (d + 1)
        simp [W44, W44_rs, W44_b1, W44_b4, W44_b8, W44_k2, W44_c3, W44_c5, W44_c6, W44_c9, W44_c10, W44_c11, W44_c12, W44_l7, h1]
        rw [wrap64 (x := (d : Int) + 1) (by omega) (by omega)]
        refine scall_flat (sp_sz3 x.l[i] (d + 1) (by omega)) (by simp) (by simp) rfl ?_
        simp [W44, W44_rs, W44_b1, W44_b4, W44_b8, W44_k2, W44_c3, W44_c5, W44_c6, W44_c9, W44_c10, W44_c11, W44_c12, W44_l7]
        rw [wrap64 (by omega) (by omega), wrap64 (by omega) (by omega)]
        exact hL _ _ _ (i + 1, n + x.l[i].sz (d + 1)) ⟨h1, by simp; omega, by simp; omega, hs.trans (Rw3.szs_drop x.l i d n h1 h2)⟩ (by simp; omega) (by simp) (by simp)
      · simp [W44, W44_rs, W44_b1, W44_b4, W44_b8, W44_k2, W44_c3, W44_c5, W44_c6, W44_c9, W44_c10, W44_c11, W44_c12, W44_l7, retW_eq]
        rw [hzz, hs, Rw3.szs_stop _ _ _ h2]
    · simp [W44, W44_rs, W44_b1, W44_b4, W44_b8, W44_k2, W44_c3, W44_c5, W44_c6, W44_c9, W44_c10, W44_c11, W44_c12, W44_l7]
      rw [decide_eq_false h1]
      simp [W44, W44_rs, W44_b1, W44_b4, W44_b8, W44_k2, W44_c3, W44_c5, W44_c6, W44_c9, W44_c10, W44_c11, W44_c12, W44_l7, retW_eq]
      rw [hzz, hs, List.drop_of_length_le (by omega)]
      rfl
  by_cases h : 8 < (d : Int)
  · have h' : 8 < d := by omega
    rw [if_pos (.inl h')] at hz
    simp [W44, W44_rs, W44_b1, W44_b4, W44_b8, W44_k2, W44_c3, W44_c5, W44_c6, W44_c9, W44_c10, W44_c11, W44_c12, W44_l7, h, h', retW_eq, hz]
  · have h' : ¬ 8 < d := by omega
    simp [W44, W44_rs, W44_b1, W44_b4, W44_b8, W44_k2, W44_c3, W44_c5, W44_c6, W44_c9, W44_c10, W44_c11, W44_c12, W44_l7, h]
    refine scall_flat (sp_fw2 x.e) (by simp) (by simp) rfl ?_
    simp [W44, W44_rs, W44_b1, W44_b4, W44_b8, W44_k2, W44_c3, W44_c5, W44_c6, W44_c9, W44_c10, W44_c11, W44_c12, W44_l7]
    by_cases he : sz2 x.e 0 ≤ 20
    · simp [W44, W44_rs, W44_b1, W44_b4, W44_b8, W44_k2, W44_c3, W44_c5, W44_c6, W44_c9, W44_c10, W44_c11, W44_c12, W44_l7, he, h', -W44_l7]
      exact fin (vs 2 + 1) _ vs (by rw [hz, if_neg (by simp [h', he])]) (by omega) (by simp)
    · rw [if_pos (.inr he)] at hz
      simp [W44, W44_rs, W44_b1, W44_b4, W44_b8, W44_k2, W44_c3, W44_c5, W44_c6, W44_c9, W44_c10, W44_c11, W44_c12, W44_l7, he, h', retW_eq, hz]
termination_by SizeOf.sizeOf x
decreasing_by exact Rw3.lt_of_mem (List.getElem_mem h1)
def wsum (l : List Rw3) : Int := l.foldl (fun n x => IntKind.wrap .i64 (n + x.sz 0)) 0
theorem wsum_few (l : List Rw3) : (decide (l.length ≤ 5) && decide (wsum l ≤ 40)) = few3 l := by
  unfold few3
  by_cases h : l.length ≤ 5
  · rw [decide_eq_true h]
    have : wsum l = (l.map fun x => x.sz 0).sum := by
      unfold wsum
      have hz : ∀ x : Rw3, 1 ≤ x.sz 0 ∧ x.sz 0 ≤ 1360 := fun x => by have := x.sz_le 0; omega
      have go : ∀ (l : List Rw3) (n : Int), 0 ≤ n → n + 1360 * l.length ≤ 100000 → l.foldl (fun n x => IntKind.wrap .i64 (n + x.sz 0)) n = n + (l.map fun x => x.sz 0).sum := by
        intro l
        induction l with
        | nil => intro n _ _; simp
        | cons x l ih =>
          intro n h0 h1
          have := hz x
          simp only [List.length_cons] at h1
          simp only [List.foldl_cons, List.map_cons, List.sum_cons]
          rw [wrap64 (by omega) (by omega), ih _ (by omega) (by omega)]
          omega
      rw [go l 0 (by omega) (by omega)]
      omega
    rw [this]
  · rw [decide_eq_false h]
    rfl
theorem wsum_take (l : List Rw3) (i : Nat) (h : i < l.length) : wsum (l.take (i + 1)) = IntKind.wrap .i64 (wsum (l.take i) + l[i].sz 0) := by
  unfold wsum
  rw [List.take_succ_eq_append_getElem h, List.foldl_append]
  rfl
theorem sp_fw3 (a b : AV) (l : List Rw3) (hl : l.length ≤ maxLen) (ha : a.cell = true ∧ closed a = true) (hb : b.cell = true ∧ closed b = true) : Am.Spec Try.prog 21 [.agg [a, b, .sl (l.map encR3)]] (.bool (few3 l)) := by
  have hm : maxLen = 9223372036854775807 := rfl
  refine Am.Spec.of_W (W := W21) Try.func21 (by kernel_rfl) (by kernel_rfl) (by kernel_rfl) Try.ntmps21 W21_eq (rs := [.tmp 2]) (by kernel_rfl) (by simp) ?_
  intro vs
  simp [W21, W21_rs, W21_c1, W21_c2, W21_c4, W21_k3, W21_b5, W21_l6, ha.1, hb.1]
  refine sLoop_intro (fun i => i ≤ l.length) (fun i => l.length - i)
    (fun i => [(1, .ref 1 (vs 1 + 1) (.p 0)), (3, .int .i64 (wsum (l.take i))), (4, .int .i64 (i : Nat))]) (fun _ => [(1, .box (vs 1 + 1) 28 [a, b, .sl (l.map encR3)])]) 0 (by simp) (by simp [wsum]) (by simp) ?_
  intro L i vt hi hL
  simp [W21, W21_rs, W21_c1, W21_c2, W21_c4, W21_k3, W21_b5, W21_l6]
  refine sIf_dec (fun h => ?_) (fun h => ?_)
  · simp [W21, W21_rs, W21_c1, W21_c2, W21_c4, W21_k3, W21_b5, W21_l6, h]
    refine scall_flat (sp_sz3 l[i] 0 (by omega)) (by simp) (by simp) rfl ?_
    simp [W21, W21_rs, W21_c1, W21_c2, W21_c4, W21_k3, W21_b5, W21_l6]
    rw [wrap64 (x := (i : Int) + 1) (by omega) (by omega)]
    exact hL _ _ _ (i + 1) h (by omega) (by simp [wsum_take _ _ h]) (by simp)
  · rw [List.take_of_length_le (by omega)] at *
    simp [W21, W21_rs, W21_c1, W21_c2, W21_c4, W21_k3, W21_b5, W21_l6]
    rw [← wsum_few]
    by_cases h5 : l.length ≤ 5
    · have h5' : (l.length : Int) ≤ 5 := by omega
      simp [W21, W21_rs, W21_c1, W21_c2, W21_c4, W21_k3, W21_b5, W21_l6, retW_eq, h5, h5']
    · have h5' : ¬ (l.length : Int) ≤ 5 := by omega
      simp [W21, W21_rs, W21_c1, W21_c2, W21_c4, W21_k3, W21_b5, W21_l6, retW_eq, h5, h5']
end Go.Proofs.Ytkagfenchknjjaa
