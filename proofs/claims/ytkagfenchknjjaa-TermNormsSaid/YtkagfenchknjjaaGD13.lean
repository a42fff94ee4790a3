import Derived.Test.YtkagfenchknjjaaGQ7
import Derived.Test.YtkagfenchknjjaaGW8
import Derived.Test.YtkagfenchknjjaaGW9
set_option linter.unusedVariables false
set_option linter.unusedSimpArgs false
namespace Go.Proofs.Ytkagfenchknjjaa
open Go Go.Am Go.RowKit
attribute [local simp] W91 W91_rs W91_k1 W91_b2 W91_b3 W91_b4 W91_l5 W102 W102_rs W102_k1 W102_b2 W102_c3 W103 W103_rs W103_k1 W103_k5 W103_c2 W103_c6 W103_b3 W103_b7 W103_l4

theorem sp_fnd (l : List ByteArray) (s : ByteArray) (hl : l.length ≤ 9223372036854775806) : Am.Spec Try.prog 91 [.sl (encB l), .str s] (.int .i64 (idxB l s)) := by
  refine Am.Spec.of_W (W := W91) Try.func91 (by kernel_rfl) (by kernel_rfl) (by kernel_rfl) Try.ntmps91 W91_eq (rs := [.tmp 4]) (by kernel_rfl) (by simp) ?_
  intro vs
  simp
  refine sLoop_intro (fun i => i ≤ l.length ∧ idxB l s = if idxB (l.drop i) s = -1 then -1 else i + idxB (l.drop i) s) (fun i => l.length - i)
    (fun i => [(0, .sl (encB l)), (1, .str s), (5, .int .i64 (i : Nat))]) (fun _ => []) 0 (by simp) (by simp) (by simp) ?_
  intro L i vs ⟨hi, hx⟩ hL
  simp
  refine sIf_dec (fun h => ?_) (fun h => ?_)
  · simp [encB_get l i (by omega)]
    refine sIf_dec (fun e => ?_) (fun e => ?_)
    · simp [retW_eq]
      rw [hx, idxB_at l s i (by omega) (by simpa [List.getD_eq_getElem?_getD, List.getElem?_eq_getElem (show i < l.length by omega)] using e)]
      simp
    · simp
      rw [wrap64 (by omega) (by omega)]
      exact hL _ _ _ (i + 1) ⟨by omega, by rw [hx, idxB_step l s i (by omega) (by simpa [List.getD_eq_getElem?_getD, List.getElem?_eq_getElem (show i < l.length by omega)] using e)]⟩ (by omega) (by simp) (by simp)
  · simp [retW_eq]
    have : l.drop i = [] := List.drop_of_length_le (by omega)
    rw [this] at hx
    simpa [idxB] using hx.symm
def lwC (V S D : List ByteArray) (b : Bool) : List AV := [.sl (encB V), .sl (encB S), .sl (encB D), .bool b]
@[simp] theorem lwC_closed (V S D : List ByteArray) (b : Bool) : closedL (lwC V S D b) = true := by simp [lwC]
theorem sp_att (V S D l : List ByteArray) (b : Bool) (s : ByteArray) (hl : l.length ≤ 9223372036854775806) (hk : 0 ≤ idxB l s) :
    Am.Spec Try.prog 102 [.elt (lwC V S D b) 0, .sl (encB l), .str s] (.int .i64 (idxB l s)) := by
  refine Am.Spec.of_W (W := W102) Try.func102 (by kernel_rfl) (by kernel_rfl) (by kernel_rfl) Try.ntmps102 W102_eq (rs := [.tmp 6]) (by kernel_rfl) (by simp) ?_
  intro vs
  simp [lwC]
  refine scall_flat (sp_fnd l s hl) (by simp) (by simp) rfl ?_
  have h : ¬ idxB l s < 0 := by omega
  simp [h, retW_eq]
@[simp] theorem map_lowE_closed (V : List ByteArray) (l : List Ex) : closedLL (l.map fun y => encE (lowE V y)) = true := closedLL_sl_map (fun y => encE (lowE V y)) (fun y => by simp) l
@[simp] theorem map_lowP_closed (V S D : List ByteArray) (l : List Pr) : closedLL (l.map fun y => encT (lowP V S D y)) = true := closedLL_sl_map (fun y => encT (lowP V S D y)) (fun y => by simp) l
def lexH (V : List ByteArray) (x : Ex) (v3 v4 v5 : Nat) (n : Int) (i w : Nat) : List (Nat × Blk) :=
  (3, .box v3 31 (encE x)) :: (4, .box v4 31 [.int .i64 0, .int .i64 0, .str ⟨#[]⟩, .nils]) ::
    if i = 0 then [(5, .box v5 31 [.int .i64 x.kind, .int .i64 n, .str ⟨#[]⟩, .nils])]
    else [(5, .box v5 31 [.int .i64 x.kind, .int .i64 n, .str ⟨#[]⟩, .ref 41 w .o]), (41, .row w 31 4 ((x.l.take i).map fun y => encE (lowE V y)))]
theorem badEs_mem {V : List ByteArray} : ∀ {l : List Ex}, badEs V l = false → ∀ x ∈ l, badE V x = false
  | y :: l, h, x, hx => by
    simp only [badEs, Bool.or_eq_false_iff] at h
    rcases List.mem_cons.1 hx with rfl | hx
    · exact h.1
    · exact badEs_mem h.2 x hx
theorem sp_lex (x : Ex) (V S D : List ByteArray) (b : Bool) (hw : x.wt ≤ 137438953472) (hV : V.length ≤ 1000) (hb : badE V x = false) :
    Am.Spec Try.prog 103 [.elt (lwC V S D b) 0, .agg (encE x)] (.agg (encE (lowE V x))) := by
  have hlen := Ex.wts_len x.l
  have hwt := x.wt_eq
  rw [badE_eq] at hb
  simp only [Bool.or_eq_false_iff] at hb
  obtain ⟨hb1, hb2⟩ := hb
  have fin : ∀ (v3 v4 v5 : Nat) (n : Int) (T : List (Nat × AV)) (HL : List (Nat × Blk)) (VS : Nat → Nat), n = (if x.kind = 2 then idxB V x.name else x.n) →
      Am.subT T [(0, .elt (lwC V S D b) 0), (3, .ref 3 v3 (.p 0)), (4, .ref 4 v4 (.p 0)), (5, .ref 5 v5 (.p 0)), (6, .int .i64 0)] → subA HL (lexH V x v3 v4 v5 n 0 0) →
      (@sLoop ⟨Am.look T, hls HL VS, noG⟩ ⟨fun L0 s => W103_l4 Try.prog (retK Try.prog [.cell 4 31] (.agg (encE (lowE V x)))) L0 s⟩) := by
    intro v3 v4 v5 n T HL VS hn hT hH
    refine sLoop_intro (fun a : Nat × Nat => a.1 ≤ x.l.length) (fun a => x.l.length - a.1) (fun a => [(0, .elt (lwC V S D b) 0), (3, .ref 3 v3 (.p 0)), (4, .ref 4 v4 (.p 0)), (5, .ref 5 v5 (.p 0)), (6, .int .i64 (a.1 : Nat))])
      (fun a => lexH V x v3 v4 v5 n a.1 a.2) (0, 0) (by simp) (by simpa using hT) (by simpa using hH) ?_
    rintro L ⟨i, w⟩ vs hi hL
    simp only at hi hL ⊢
    simp [lexH]
    refine sIf_dec (fun h => ?_) (fun h => ?_)
    · have hx := sp_lex x.l[i] V S D b (by have := Ex.wts_mem (List.getElem_mem h); omega) hV (badEs_mem hb2 _ (List.getElem_mem h))
      by_cases h0 : i = 0
      · subst h0
        simp [h] at hx ⊢
        refine scall0_pure hx (by simp) (by simp) ?_
        simp
        rw [wrap64 (by omega) (by omega)]
        refine hL _ _ _ (1, vs 41 + 1) (by simp; omega) (by simp; omega) (by simp) ?_
        have ht : x.l.take 1 = [x.l[0]] := by simpa using List.take_succ_eq_append_getElem h
        simp [lexH, ht]
      · simp [h, h0]
        refine scall0_pure hx (by simp) (by simp) ?_
        have hl : min i x.l.length = i := by omega
        simp [hl]
        rw [decide_eq_true (by omega)]
        simp
        rw [wrap64 (by omega) (by omega)]
        refine hL _ _ _ (i + 1, w + 1) (by simp; omega) (by simp; omega) (by simp) ?_
        have ht := take_map_succ (fun y => encE (lowE V y)) x.l i h
        simp [lexH, ht]
    · have e : i = x.l.length := by omega
      subst e
      have hlw := lowE_eq V x
      have ht : (x.l.map fun y => encE (lowE V y)).take x.l.length = x.l.map fun y => encE (lowE V y) := List.take_of_length_le (by simp)
      by_cases h0 : x.l = []
      · simp [h0, retW_eq, hlw, encE_mk, hn]
      · simp [h0, retW_eq, hlw, encE_mk, hn, Function.comp_def, ht]
  refine Am.Spec.of_W (W := W103) Try.func103 (by kernel_rfl) (by kernel_rfl) (by kernel_rfl) Try.ntmps103 W103_eq (rs := [.cell 4 31]) (by kernel_rfl) (by simp) ?_
  intro vs
  simp
  by_cases hk : x.kind = 2
  · simp [hk, lwC]
    refine scall0_pure (sp_att V S D V b x.name (by omega) (by simp [hk] at hb1; omega)) (by simp [lwC]) (by simp) ?_
    simp [-W103_l4]
    exact fin (vs 3 + 1) (vs 4 + 1) (vs 5 + 1) _ _ _ _ rfl (by simp [lwC]) (by simp [lexH, hk])
  · simp [hk, -W103_l4]
    exact fin (vs 3 + 1) (vs 4 + 1) (vs 5 + 1) _ _ _ _ rfl (by simp) (by simp [lexH, hk])
termination_by SizeOf.sizeOf x
decreasing_by exact Ex.lt_of_mem (List.getElem_mem h)
end Go.Proofs.Ytkagfenchknjjaa
set_option linter.unusedVariables false
set_option linter.unusedSimpArgs false
namespace Go.Proofs.Ytkagfenchknjjaa
open Go Go.Am Go.RowKit
attribute [local simp] W115 W115_rs W115_b1 W115_b2 W115_b3 W115_b6 W115_b11 W115_b16 W115_b25 W115_b41 W115_b42 W115_b43 W115_b44 W115_b45 W115_b47 W115_b48 W115_b49 W115_b50 W115_b51 W115_b54 W115_c4 W115_c5 W115_c7 W115_c8 W115_c9 W115_c10 W115_c12 W115_c13 W115_c14 W115_c15 W115_c17 W115_c18 W115_c19 W115_c20 W115_c21 W115_c22 W115_c23 W115_c24 W115_c26 W115_c27 W115_c28 W115_c29 W115_c30 W115_c31 W115_c32 W115_c33 W115_c34 W115_c35 W115_c36 W115_c37 W115_c38 W115_c39 W115_c40 W115_c53 W115_c55 W115_c56 W115_k46 W115_k52 W115_l57

def mayL (v0 v1 v2 : Nat) (D : List ByteArray) (E X : List Bool) : List (Nat × Blk) :=
  [(0, .box v0 156 [.sl (encB D), .ref 1 v1 .o, .ref 2 v2 .o]), (1, .row v1 4 1 (encBo E)), (2, .row v2 4 1 (encBo X))]
def bt (D : List ByteArray) (E X : List Bool) (p : Pr) (i j : Nat) : BB := if j < i then p.bothAt D E X j else (false, false)
set_option maxHeartbeats 4000000 in
theorem bth_end (p : Pr) (v0 v1 v2 v3 v6 v7 : Nat) (D : List ByteArray) (E X : List Bool) (hD : D.length ≤ 1000) (hE : E.length = D.length) (hX : X.length = D.length) (a1 a2 b1 b2 : Bool) (T : List (Nat × AV)) (vt : Nat → Nat)
    (h0 : Am.look T 0 = .ref 0 v0 (.p 0)) (h3 : Am.look T 3 = .ref 3 v3 (.p 0)) (h6 : Am.look T 6 = .ref 6 v6 (.p 0)) (h7 : Am.look T 7 = .ref 7 v7 (.p 0)) :
    W115_k52 Try.prog (retHK Try.prog [.tmp 4, .tmp 5] fun r l' => r = .tup [.bool (bothK D E X p.kind p.name (a1, a2) (b1, b2)).1, .bool (bothK D E X p.kind p.name (a1, a2) (b1, b2)).2] ∧ l' = mayL v0 v1 v2 D E X)
      ⟨Am.look T, hls [(0, .box v0 156 [.sl (encB D), .ref 1 v1 .o, .ref 2 v2 .o]), (1, .row v1 4 1 (encBo E)), (2, .row v2 4 1 (encBo X)), (3, .box v3 73 (encPr p)), (6, .box v6 160 [.bool a1, .bool b1]), (7, .box v7 160 [.bool a2, .bool b2])] vt, noG⟩ := by
  simp [look_ins, h0, h3, h6, h7]
  have cs : p.kind = 1 ∨ p.kind = 8 ∨ p.kind = 4 ∨ p.kind = 7 ∨ p.kind = 9 ∨ p.kind = 10 ∨ p.kind = 11 ∨ p.kind = 12 ∨ p.kind = 13 ∨ (p.kind ≠ 1 ∧ p.kind ≠ 8 ∧ p.kind ≠ 4 ∧ p.kind ≠ 7 ∧ p.kind ≠ 9 ∧ p.kind ≠ 10 ∧ p.kind ≠ 11 ∧ p.kind ≠ 12 ∧ p.kind ≠ 13) := by omega
  rcases cs with k | k | k | k | k | k | k | k | k | ⟨k1, k2, k3, k4, k5, k6, k7, k8, k9⟩
  · simp [look_ins, h0, h3, h6, h7, k]
    (refine retHW_to (mayL v0 v1 v2 D E X) ?_; simp [look_ins, h0, h3, h6, h7, mayL, bothK, k])
  · simp [look_ins, h0, h3, h6, h7, k]
    (refine retHW_to (mayL v0 v1 v2 D E X) ?_; simp [look_ins, h0, h3, h6, h7, mayL, bothK, k])
  · simp [look_ins, h0, h3, h6, h7, k]
    (refine retHW_to (mayL v0 v1 v2 D E X) ?_; simp [look_ins, h0, h3, h6, h7, mayL, bothK, k])
  · cases a1
    · simp [look_ins, h0, h3, h6, h7, k]
      (refine retHW_to (mayL v0 v1 v2 D E X) ?_; simp [look_ins, h0, h3, h6, h7, mayL, bothK, k])
    · simp [look_ins, h0, h3, h6, h7, k]
      (refine retHW_to (mayL v0 v1 v2 D E X) ?_; simp [look_ins, h0, h3, h6, h7, mayL, bothK, k])
  · cases a1 <;> cases a2
    all_goals simp [look_ins, h0, h3, h6, h7, k]
    all_goals (refine retHW_to (mayL v0 v1 v2 D E X) ?_; simp [look_ins, h0, h3, h6, h7, mayL, bothK, k])
  · cases a1 <;> cases a2
    all_goals simp [look_ins, h0, h3, h6, h7, k]
    all_goals (refine retHW_to (mayL v0 v1 v2 D E X) ?_; simp [look_ins, h0, h3, h6, h7, mayL, bothK, k])
  · cases a1 <;> cases a2
    all_goals simp [look_ins, h0, h3, h6, h7, k]
    all_goals (refine retHW_to (mayL v0 v1 v2 D E X) ?_; simp [look_ins, h0, h3, h6, h7, mayL, bothK, k])
  · cases a1 <;> cases a2
    all_goals simp [look_ins, h0, h3, h6, h7, k]
    all_goals (refine retHW_to (mayL v0 v1 v2 D E X) ?_; simp [look_ins, h0, h3, h6, h7, mayL, bothK, k])
  · simp [look_ins, h0, h3, h6, h7, k]
    refine scall0_pure (sp_fnd D p.name (by omega)) (by simp) (by simp) ?_
    have i1 := idxB_ge D p.name
    have i2 := idxB_lt D p.name
    by_cases hi0 : 0 ≤ idxB D p.name
    · obtain ⟨q, hq⟩ : ∃ q : Nat, idxB D p.name = q := ⟨(idxB D p.name).toNat, by omega⟩
      have hqE : q < E.length := by omega
      have hqX : q < X.length := by omega
      rw [hq]
      simp [look_ins, h0, h3, h6, h7, encBo_get, List.getElem?_eq_getElem hqE, List.getElem?_eq_getElem hqX, hqE, hqX]
      refine retHW_to (mayL v0 v1 v2 D E X) ?_
      simp [look_ins, h0, h3, h6, h7, mayL, bothK, hq, k, List.getElem?_eq_getElem hqE, List.getElem?_eq_getElem hqX]
    · simp [look_ins, h0, h3, h6, h7, hi0]
      refine retHW_to (mayL v0 v1 v2 D E X) ?_
      simp [look_ins, h0, h3, h6, h7, mayL, bothK, hi0, k]
  · simp [look_ins, h0, h3, h6, h7, k1, k2, k3, k4, k5, k6, k7, k8, k9]
    refine retHW_to (mayL v0 v1 v2 D E X) ?_
    simp [look_ins, h0, h3, h6, h7, mayL, bothK, k1, k2, k3, k4, k5, k6, k7, k8, k9]
set_option maxHeartbeats 4000000 in
theorem hs_bth (p : Pr) (v0 v1 v2 : Nat) (D : List ByteArray) (E X : List Bool) (hD : D.length ≤ 1000) (hE : E.length = D.length) (hX : X.length = D.length) :
    Am.HSpecL Try.prog 115 [.ref 0 v0 (.p 0), .agg (encPr p)] (mayL v0 v1 v2 D E X) fun r l' => r = .tup [.bool (p.both D E X).1, .bool (p.both D E X).2] ∧ l' = mayL v0 v1 v2 D E X := by
  have ih : ∀ y ∈ p.l, Am.HSpecL Try.prog 115 [.ref 0 v0 (.p 0), .agg (encPr y)] (mayL v0 v1 v2 D E X) fun r l' => r = .tup [.bool (y.both D E X).1, .bool (y.both D E X).2] ∧ l' = mayL v0 v1 v2 D E X :=
    fun y hy => hs_bth y v0 v1 v2 D E X hD hE hX
  have h1000 : (D.length : Int) ≤ 1000 := by omega
  refine Am.HSpecL.of_W (W := W115) Try.func115 (by kernel_rfl) (by kernel_rfl) (by kernel_rfl) Try.ntmps115 W115_eq (rs := [.tmp 4, .tmp 5]) (by kernel_rfl) (by simp) ?_
  intro vs
  simp [mayL]
  refine sLoop_intro (fun i => i ≤ 2 ∧ i ≤ p.l.length) (fun i => 2 - i) (fun i => [(0, .ref 0 v0 (.p 0)), (3, .ref 3 (vs 3 + 1) (.p 0)), (6, .ref 6 (vs 6 + 1) (.p 0)), (7, .ref 7 (vs 7 + 1) (.p 0)), (8, .int .i64 (i : Nat))])
    (fun i => mayL v0 v1 v2 D E X ++ [(3, .box (vs 3 + 1) 73 (encPr p)), (6, .box (vs 6 + 1) 160 [.bool (bt D E X p i 0).1, .bool (bt D E X p i 1).1]), (7, .box (vs 7 + 1) 160 [.bool (bt D E X p i 0).2, .bool (bt D E X p i 1).2])])
    0 (by simp) (by simp) (by simp [mayL, bt]) ?_
  rintro L i vt ⟨hi, hi2⟩ hL
  by_cases hc : i < p.l.length ∧ i < 2
  · obtain ⟨hc1, hc2⟩ := hc
    have hb : p.bothAt D E X i = p.l[i].both D E X := by simp [Pr.bothAt, hc1]
    have hih := ih _ (List.getElem_mem hc1)
    have hi01 : i = 0 ∨ i = 1 := by omega
    rcases hi01 with rfl | rfl
    · simp [mayL, hc1]
      refine scall_heap [(0, 0), (1, 1), (2, 2)] [] hih (by simp) (by simp [mayL]) (by simp) ?_
      intro r l' VS' hrl
      rw [hrl.1, hrl.2]
      refine ⟨by simp [mayL], ?_⟩
      simp [mayL]
      rw [wrap64 (by omega) (by omega)]
      exact hL _ _ _ 1 ⟨by omega, by omega⟩ (by omega) (by simp) (by simp [mayL, bt, hb])
    · have hc1' : (1 : Int) < p.l.length := by omega
      simp [mayL, hc1, hc1']
      refine scall_heap [(0, 0), (1, 1), (2, 2)] [] hih (by simp) (by simp [mayL]) (by simp) ?_
      intro r l' VS' hrl
      rw [hrl.1, hrl.2]
      refine ⟨by simp [mayL], ?_⟩
      simp [mayL]
      rw [wrap64 (by omega) (by omega)]
      exact hL _ _ _ 2 ⟨by omega, by omega⟩ (by omega) (by simp) (by simp [mayL, bt, hb])
  · have e0 : bt D E X p i 0 = p.bothAt D E X 0 := by
      unfold bt
      split
      · rfl
      · unfold Pr.bothAt; rw [List.getElem?_eq_none (by omega)]; rfl
    have e1 : bt D E X p i 1 = p.bothAt D E X 1 := by
      unfold bt
      split
      · rfl
      · unfold Pr.bothAt; rw [List.getElem?_eq_none (by omega)]; rfl
    have hbe := p.both_eq D E X
    rw [e0, e1, hbe]
    clear hL ih hbe e0 e1
    generalize p.bothAt D E X 0 = a12
    generalize p.bothAt D E X 1 = b12
    obtain ⟨a1, a2⟩ := a12
    obtain ⟨b1, b2⟩ := b12
    by_cases hl : p.l.length ≤ i
    · have hl' : ¬ i < p.l.length := by omega
      simp [-W115_k52, mayL, hl']
      refine bth_end p v0 v1 v2 _ _ _ D E X hD hE hX a1 a2 b1 b2 _ _ ?_ ?_ ?_ ?_ <;> simp
    · have hl' : i < p.l.length := by omega
      have hl2 : ¬ (i : Int) < 2 := by omega
      simp [-W115_k52, mayL, hl', hl2]
      refine bth_end p v0 v1 v2 _ _ _ D E X hD hE hX a1 a2 b1 b2 _ _ ?_ ?_ ?_ ?_ <;> simp
termination_by SizeOf.sizeOf p
decreasing_by exact Pr.lt_of_mem hy
end Go.Proofs.Ytkagfenchknjjaa
set_option linter.unusedVariables false
set_option linter.unusedSimpArgs false
namespace Go.Proofs.Ytkagfenchknjjaa
open Go Go.Am Go.RowKit
attribute [local simp] W113 W113_rs W113_b1 W113_b3 W113_b5 W113_b8 W113_b10 W113_b12 W113_b13 W113_c2 W113_c4 W113_c6 W113_c7 W113_c9 W113_l11

def frnL (v0 v1 v2 v3 : Nat) (D : List ByteArray) (E X is : List Bool) : List (Nat × Blk) := mayL v0 v1 v2 D E X ++ [(3, .row v3 4 1 (encBo is))]
set_option maxHeartbeats 4000000 in
theorem hs_frn (p : Pr) (v0 v1 v2 v3 : Nat) (D : List ByteArray) (E X is : List Bool) (hD : D.length ≤ 1000) (hE : E.length = D.length) (hX : X.length = D.length) (hi : is.length = D.length) (hok : p.okS = true) (hpl : p.wt ≤ 137438953472) :
    Am.HSpecL Try.prog 113 [.ref 0 v0 (.p 0), .agg (encPr p), .ref 3 v3 .o] (frnL v0 v1 v2 v3 D E X is) fun r l' => r = .tup [] ∧ l' = frnL v0 v1 v2 v3 D E X (p.front D E X is) := by
  have hwt := p.wt_eq
  have hlw := Pr.wts_len p.l
  have ih : ∀ y ∈ p.l, ∀ is : List Bool, is.length = D.length → Am.HSpecL Try.prog 113 [.ref 0 v0 (.p 0), .agg (encPr y), .ref 3 v3 .o] (frnL v0 v1 v2 v3 D E X is) fun r l' => r = .tup [] ∧ l' = frnL v0 v1 v2 v3 D E X (y.front D E X is) :=
    fun y hy is hi => hs_frn y v0 v1 v2 v3 D E X is hD hE hX hi (Pr.okS_mem hok y hy) (by have := Pr.wts_mem hy; omega)
  have hfr := p.front_eq D E X is
  by_cases k13 : p.kind = 13
  · rw [if_pos k13] at hfr
    refine Am.HSpecL.of_W (W := W113) Try.func113 (by kernel_rfl) (by kernel_rfl) (by kernel_rfl) Try.ntmps113 W113_eq (rs := []) (by kernel_rfl) (by simp) ?_
    intro vs
    simp [frnL, mayL, k13]
    refine scall0_pure (sp_fnd D p.name (by omega)) (by simp) (by simp) ?_
    have i1 := idxB_ge D p.name
    have i2 := idxB_lt D p.name
    by_cases hi0 : 0 ≤ idxB D p.name
    · obtain ⟨q, hq⟩ : ∃ q : Nat, idxB D p.name = q := ⟨(idxB D p.name).toNat, by omega⟩
      have hqi : q < is.length := by omega
      rw [hq] at hfr ⊢
      simp [hqi]
      refine retHW_to (frnL v0 v1 v2 v3 D E X (p.front D E X is)) ?_
      simp [frnL, mayL, hfr]
    · simp [hi0]
      rw [if_neg hi0] at hfr
      refine retHW_to (frnL v0 v1 v2 v3 D E X (p.front D E X is)) ?_
      simp [frnL, mayL, hfr]
  · by_cases k12 : p.kind = 12
    · have hl2 := Pr.okS_two hok k12
      obtain ⟨x, y, hl⟩ : ∃ x y, p.l = [x, y] := by
        rcases hl : p.l with _ | ⟨x, _ | ⟨y, _ | ⟨z, r⟩⟩⟩ <;> simp [hl] at hl2
        exact ⟨x, y, rfl⟩
      rw [if_neg k13, if_pos k12, hl, Pr.frontS] at hfr
      have ix := ih x (by simp [hl]) is hi
      have iy := ih y (by simp [hl]) (x.front D E X is) (by rw [Pr.front_len]; exact hi)
      have hb := hs_bth x v0 v1 v2 D E X hD hE hX
      generalize x.front D E X is = is1 at *
      generalize x.both D E X = bb at *
      obtain ⟨b1, b2⟩ := bb
      refine Am.HSpecL.of_W (W := W113) Try.func113 (by kernel_rfl) (by kernel_rfl) (by kernel_rfl) Try.ntmps113 W113_eq (rs := []) (by kernel_rfl) (by simp) ?_
      intro vs
      simp [frnL, mayL, k12, hl]
      refine scall_heap [(0, 0), (1, 1), (2, 2), (3, 3)] [] ix (by simp) (by simp [frnL, mayL]) (by simp) ?_
      intro r l' VS' hrl
      rw [hrl.1, hrl.2]
      refine ⟨by simp [frnL, mayL], ?_⟩
      simp [frnL, mayL, hl]
      refine scall_heap [(0, 0), (1, 1), (2, 2)] [] hb (by simp) (by simp [frnL, mayL]) (by simp) ?_
      intro r l' VS' hrl
      rw [hrl.1, hrl.2]
      refine ⟨by simp [frnL, mayL], ?_⟩
      cases b1
      · simp [frnL, mayL, hl]
        refine retHW_to (frnL v0 v1 v2 v3 D E X (p.front D E X is)) ?_
        simp [frnL, mayL, hfr]
      · simp [frnL, mayL, hl]
        refine scall_heap [(0, 0), (1, 1), (2, 2), (3, 3)] [] iy (by simp) (by simp [frnL, mayL]) (by simp) ?_
        intro r l' VS' hrl
        rw [hrl.1, hrl.2]
        refine ⟨by simp [frnL, mayL], ?_⟩
        simp [frnL, mayL, hl]
        refine retHW_to (frnL v0 v1 v2 v3 D E X (p.front D E X is)) ?_
        simp [frnL, mayL, hfr]
    · rw [if_neg k13, if_neg k12] at hfr
      refine Am.HSpecL.of_W (W := W113) Try.func113 (by kernel_rfl) (by kernel_rfl) (by kernel_rfl) Try.ntmps113 W113_eq (rs := []) (by kernel_rfl) (by simp) ?_
      intro vs
      simp [frnL, mayL, k13, k12]
      refine sLoop_intro (fun i => i ≤ p.l.length) (fun i => p.l.length - i) (fun i => [(0, .ref 0 v0 (.p 0)), (2, .ref 3 v3 .o), (4, .ref 4 (vs 4 + 1) (.p 0)), (9, .int .i64 (i : Nat))])
        (fun i => frnL v0 v1 v2 v3 D E X (Pr.frontL D E X (p.l.take i) is) ++ [(4, .box (vs 4 + 1) 73 (encPr p))]) 0 (by simp) (by simp) (by simp [frnL, mayL, Pr.frontL]) ?_
      intro L i vt hil hL
      by_cases h : i < p.l.length
      · have hx := ih p.l[i] (List.getElem_mem h) (Pr.frontL D E X (p.l.take i) is) (by rw [Pr.frontL_len]; exact hi)
        have ht := Pr.frontL_take D E X p.l is i h
        have h' : (i : Int) < p.l.length := by omega
        simp [frnL, mayL, h]
        refine scall_heap [(0, 0), (1, 1), (2, 2), (3, 3)] [] hx (by simp) (by simp [frnL, mayL]) (by simp) ?_
        intro r l' VS' hrl
        rw [hrl.1, hrl.2]
        refine ⟨by simp [frnL, mayL], ?_⟩
        simp [frnL, mayL]
        rw [wrap64 (by omega) (by omega)]
        exact hL _ _ _ (i + 1) h (by omega) (by simp) (by simp [frnL, mayL, ht])
      · have e : p.l.take i = p.l := List.take_of_length_le (by omega)
        rw [e]
        simp [frnL, mayL, h]
        refine retHW_to (frnL v0 v1 v2 v3 D E X (p.front D E X is)) ?_
        simp [frnL, mayL, hfr]
termination_by SizeOf.sizeOf p
decreasing_by exact Pr.lt_of_mem hy
end Go.Proofs.Ytkagfenchknjjaa
set_option linter.unusedVariables false
set_option linter.unusedSimpArgs false
namespace Go.Proofs.Ytkagfenchknjjaa
open Go Go.Am Go.RowKit
attribute [local simp] W89 W89_rs W89_k1 W89_k4 W89_b2 W89_b5 W89_l3 W89_l6 W90 W90_rs W90_k1 W90_b2 W90_b3 W90_b5 W90_c4 W90_l6

/-- A row that is nil while it is empty. -/
def rv (k w : Nat) (l : List (List AV)) : AV := if l = [] then .nils else .ref k w .o
def rb (k w t sz : Nat) (l : List (List AV)) : List (Nat × Blk) := if l = [] then [] else [(k, .row w t sz l)]
@[simp] theorem rv_nil (k w : Nat) : rv k w [] = .nils := rfl
@[simp] theorem rb_nil (k w t sz : Nat) : rb k w t sz [] = [] := rfl
theorem rv_ne {k w : Nat} {l : List (List AV)} (h : l ≠ []) : rv k w l = .ref k w .o := if_neg h
theorem rb_ne {k w t sz : Nat} {l : List (List AV)} (h : l ≠ []) : rb k w t sz l = [(k, .row w t sz l)] := if_neg h
theorem encB_ne {l : List ByteArray} (h : l ≠ []) : encB l ≠ [] := by simpa [encB] using h
def nmsH (p : Prog) (v1 : Nat) (V D : List ByteArray) (w1 w2 : Nat) : List (Nat × Blk) := (1, .box v1 69 (encProg p)) :: (rb 23 w1 9 1 (encB V) ++ rb 39 w2 9 1 (encB D))
theorem sp_nms (p : Prog) (h1 : p.vars.length ≤ 1000) (h2 : p.procs.length ≤ 1000) : Am.Spec Try.prog 89 [.agg (encProg p)] (.tup [.sl (encB p.V), .sl (encB p.D)]) := by
  have hV : ∀ i, p.V.take i = (p.vars.take i).map (·.1) := fun i => by simp [Prog.V]
  have hD : ∀ i, p.D.take i = (p.procs.take i).map (·.name) := fun i => by simp [Prog.D]
  refine Am.Spec.of_W (W := W89) Try.func89 (by kernel_rfl) (by kernel_rfl) (by kernel_rfl) Try.ntmps89 W89_eq (rs := [.tmp 2, .tmp 3]) (by kernel_rfl) (by simp) ?_
  intro vs
  simp [encProg]
  refine sLoop_intro (fun a : Nat × Nat => a.1 ≤ p.vars.length) (fun a => p.vars.length - a.1) (fun a => [(1, .ref 1 (vs 1 + 1) (.p 0)), (4, rv 23 a.2 (encB (p.V.take a.1))), (5, .nils), (6, .int .i64 (a.1 : Nat))])
    (fun a => nmsH p (vs 1 + 1) (p.V.take a.1) [] a.2 0) (0, 0) (by simp) (by simp) (by simp [nmsH, encProg]) ?_
  rintro L ⟨i, w⟩ vt hi hL
  simp only at hi hL ⊢
  by_cases h : i < p.vars.length
  · have h' : (i : Int) < p.vars.length := by omega
    have ht : p.V.take (i + 1) = p.V.take i ++ [p.vars[i].1] := take_map_succ (fun x : ByteArray × Int => x.1) p.vars i h
    by_cases h0 : i = 0
    · subst h0
      simp [nmsH, h, encProg]
      rw [wrap64 (by omega) (by omega)]
      refine hL _ _ _ (1, vt 23 + 1) (by simp; omega) (by simp; omega) ?_ ?_
      · rw [ht]; simp [encB, rv]
      · rw [ht]; simp [nmsH, encB, rb, encProg]
    · have hne : p.V.take i ≠ [] := by rw [hV]; simp; constructor; omega; intro e; rw [e] at h; simp at h
      have hlen : (p.V.take i).length = i := by rw [hV]; simp; omega
      simp [nmsH, h, encProg, rv_ne (encB_ne hne), rb_ne (encB_ne hne)]
      have hmin : min i p.V.length = i := by have : p.V.length = p.vars.length := by simp [Prog.V]
                                             omega
      rw [hmin, decide_eq_true (by omega)]
      simp
      rw [wrap64 (by omega) (by omega)]
      refine hL _ _ _ (i + 1, w + 1) (by simp; omega) (by simp; omega) ?_ ?_
      · rw [ht]; simp [encB, rv]
      · rw [ht]; simp [nmsH, encB, rb, encProg]
  · have e : p.V.take i = p.V := List.take_of_length_le (by simp [Prog.V]; omega)
    rw [e]
    simp [nmsH, h, encProg]
    have sub0 : subA ((1, .box (vs 1 + 1) 69 [.sl (p.vars.map encVr), .sl (encB p.stacks), .sl (p.procs.map encDf)]) :: rb 23 w 9 1 (encB p.V)) (nmsH p (vs 1 + 1) p.V [] w 0) := by
      by_cases hv : p.V = []
      · simp [nmsH, hv, encProg]
      · simp [nmsH, rb_ne (encB_ne hv), encProg]
    refine sLoop_intro (fun a : Nat × Nat => a.1 ≤ p.procs.length) (fun a => p.procs.length - a.1) (fun a => [(1, .ref 1 (vs 1 + 1) (.p 0)), (4, rv 23 w (encB p.V)), (5, rv 39 a.2 (encB (p.D.take a.1))), (7, .int .i64 (a.1 : Nat))])
      (fun a => nmsH p (vs 1 + 1) p.V (p.D.take a.1) w a.2) (0, 0) (by simp) (by simp) (by simpa using sub0) ?_
    clear hL
    rintro L ⟨i, w2⟩ vt hi hL
    simp only at hi hL ⊢
    by_cases h : i < p.procs.length
    · have h' : (i : Int) < p.procs.length := by omega
      have ht : p.D.take (i + 1) = p.D.take i ++ [p.procs[i].name] := take_map_succ (fun x : Dfn => x.name) p.procs i h
      have hlen : p.D.length = p.procs.length := by simp [Prog.D]
      by_cases h0 : i = 0
      · subst h0
        by_cases hv : p.V = []
        · simp [nmsH, h, encProg, hv]
          rw [wrap64 (by omega) (by omega)]
          refine hL _ _ _ (1, vt 39 + 1) (by simp; omega) (by simp; omega) ?_ ?_
          · rw [ht]; simp [encB, rv, hv]
          · rw [ht]; simp [nmsH, encB, rb, encProg, hv]
        · simp [nmsH, h, encProg, rb_ne (encB_ne hv)]
          rw [wrap64 (by omega) (by omega)]
          refine hL _ _ _ (1, vt 39 + 1) (by simp; omega) (by simp; omega) ?_ ?_
          · rw [ht]; simp [encB, rv]
          · rw [ht]; simp [nmsH, encB, rb, encProg, hv]
      · have hne : p.D.take i ≠ [] := by
          intro e
          have := congrArg List.length e
          rw [List.length_take, List.length_nil] at this
          omega
        have hmin : min i p.D.length = i := by omega
        by_cases hv : p.V = []
        · simp [nmsH, h, encProg, rv_ne (encB_ne hne), rb_ne (encB_ne hne), hv]
          rw [hmin, decide_eq_true (by omega)]
          simp
          rw [wrap64 (by omega) (by omega)]
          refine hL _ _ _ (i + 1, w2 + 1) (by simp; omega) (by simp; omega) ?_ ?_
          · rw [ht]; simp [encB, rv, hv]
          · rw [ht]; simp [nmsH, encB, rb, encProg, hv]
        · simp [nmsH, h, encProg, rv_ne (encB_ne hne), rb_ne (encB_ne hne), rb_ne (encB_ne hv)]
          rw [hmin, decide_eq_true (by omega)]
          simp
          rw [wrap64 (by omega) (by omega)]
          refine hL _ _ _ (i + 1, w2 + 1) (by simp; omega) (by simp; omega) ?_ ?_
          · rw [ht]; simp [encB, rv]
          · rw [ht]; simp [nmsH, encB, rb, encProg, hv]
    · have e : p.D.take i = p.D := List.take_of_length_le (by simp [Prog.D]; omega)
      rw [e]
      by_cases hv : p.V = [] <;> by_cases hd : p.D = []
      · simp [nmsH, h, encProg, hv, hd, retW_eq]
      · simp [nmsH, h, encProg, hv, retW_eq, rv_ne (encB_ne hd), rb_ne (encB_ne hd)]
      · simp [nmsH, h, encProg, hd, retW_eq, rv_ne (encB_ne hv), rb_ne (encB_ne hv)]
      · simp [nmsH, h, encProg, retW_eq, rv_ne (encB_ne hv), rb_ne (encB_ne hv), rv_ne (encB_ne hd), rb_ne (encB_ne hd)]
theorem sp_twc (l : List ByteArray) (hl : l.length ≤ 1000) : Am.Spec Try.prog 90 [.sl (encB l)] (.bool (twB l)) := by
  refine Am.Spec.of_W (W := W90) Try.func90 (by kernel_rfl) (by kernel_rfl) (by kernel_rfl) Try.ntmps90 W90_eq (rs := [.tmp 2]) (by kernel_rfl) (by simp) ?_
  intro vs
  simp
  refine sLoop_intro (fun i => i ≤ l.length ∧ ∀ j, j < i → idxB l (l.getD j ⟨#[]⟩) = j) (fun i => l.length - i) (fun i => [(0, .sl (encB l)), (3, .int .i64 (i : Nat))]) (fun _ => []) 0 (by simp) (by simp) (by simp) ?_
  rintro L i vt ⟨hi, hj⟩ hL
  by_cases h : i < l.length
  · have h' : (i : Int) < l.length := by omega
    have eg : l.getD i ⟨#[]⟩ = l[i] := by rw [List.getD_eq_getElem?_getD, List.getElem?_eq_getElem h]; rfl
    simp [h', h]
    refine scall_pure (sp_fnd l l[i] (by omega)) (by simp) (by simp) ?_
    by_cases e : idxB l l[i] = i
    · rw [e]
      simp
      rw [wrap64 (by omega) (by omega)]
      refine hL _ _ _ (i + 1) ⟨h, fun j hj2 => ?_⟩ (by omega) (by simp) (by simp)
      by_cases ej : j = i
      · rw [ej, eg]; exact e
      · exact hj j (by omega)
    · simp [e, retW_eq, twB]
      exact ⟨i, h, by rw [List.getElem?_eq_getElem h]; exact e⟩
  · simp [h, retW_eq, twB]
    intro j hj2
    simpa using hj j (by omega)
end Go.Proofs.Ytkagfenchknjjaa
set_option linter.unusedVariables false
set_option linter.unusedSimpArgs false
namespace Go.Proofs.Ytkagfenchknjjaa
open Go Go.Am Go.RowKit
attribute [local simp] W112 W112_rs W112_k1 W112_k2 W112_c3 W112_c4 W112_c6 W112_c7 W112_c8 W112_c9 W112_c10 W112_c11 W112_c12 W112_c13 W112_c14 W112_c15 W112_c16 W112_c17 W112_c18 W112_c19 W112_c20 W112_c21 W112_c22 W112_c23 W112_c24 W112_c25 W112_c30 W112_b5 W112_b26 W112_b28 W112_l27 W112_l29

def mayK (k0 k1 k2 v0 v1 v2 : Nat) (D : List ByteArray) (E X : List Bool) : List (Nat × Blk) :=
  [(k0, .box v0 156 [.sl (encB D), .ref k1 v1 .o, .ref k2 v2 .o]), (k1, .row v1 4 1 (encBo E)), (k2, .row v2 4 1 (encBo X))]
/-- The inner loop: one pass. -/
theorem stl_pass (p : Prog) (hn : p.procs.length ≤ 1000) (v1 v23 v18 v21 : Nat) (E X : List Bool) (hE : E.length = p.procs.length) (hX : X.length = p.procs.length) (Ψ : Exit → St → Prop) (L0 : St → Prop)
    (hk : ∀ T H vs st, st = stlF p.D (p.procs.map (·.body)) 0 (E, X, false) → Am.subT T [(1, .ref 1 v1 (.p 0)), (4, .sl (encB p.D)), (5, .ref 23 v23 (.p 0)), (6, .bool st.2.2)] →
      subA H ((1, .box v1 69 (encProg p)) :: mayK 23 18 21 v23 v18 v21 p.D st.1 st.2.1) → L0 ⟨Am.look T, hls H vs, noG⟩)
    (T : List (Nat × AV)) (H : List (Nat × Blk)) (vs : Nat → Nat) (hT : Am.subT T [(1, .ref 1 v1 (.p 0)), (4, .sl (encB p.D)), (5, .ref 23 v23 (.p 0)), (6, .bool false), (7, .int .i64 0)])
    (hH : subA H ((1, .box v1 69 (encProg p)) :: mayK 23 18 21 v23 v18 v21 p.D E X)) :
    @sLoop ⟨Am.look T, hls H vs, noG⟩ ⟨fun L1 s => W112_l27 Try.prog Ψ L0 L1 s⟩ := by
  have hD : p.D.length = p.procs.length := by simp [Prog.D]
  refine sLoop_intro (fun a : Nat × EXB => a.1 ≤ p.procs.length ∧ a.2 = stlF p.D ((p.procs.map (·.body)).take a.1) 0 (E, X, false)) (fun a => p.procs.length - a.1)
    (fun a => [(1, .ref 1 v1 (.p 0)), (4, .sl (encB p.D)), (5, .ref 23 v23 (.p 0)), (6, .bool a.2.2.2), (7, .int .i64 (a.1 : Nat))])
    (fun a => (1, .box v1 69 (encProg p)) :: mayK 23 18 21 v23 v18 v21 p.D a.2.1 a.2.2.1) (0, (E, X, false)) (by simp [stlF]) (by simpa using hT) (by simpa using hH) ?_
  rintro L ⟨i, E', X', ag⟩ vt ⟨hi, hst⟩ hL
  simp only at hi hst hL ⊢
  by_cases h : i < p.procs.length
  · have hcf := stlF_cf p.D ((p.procs.map (·.body)).take i) 0 (E, X, false) (by simp; omega) (by simp; omega)
    rw [← hst] at hcf
    simp only at hcf
    have hE' : E'.length = p.procs.length := by omega
    have hX' : X'.length = p.procs.length := by omega
    have hb := hs_bth p.procs[i].body v23 v18 v21 p.D E' X' (by omega) (by omega) (by omega)
    have hnext := stlF_take p.D (p.procs.map (·.body)) (E, X, false) i 0 (by simpa using h)
    rw [← hst] at hnext
    simp only [List.getElem_map, stlI, Nat.zero_add] at hnext
    generalize p.procs[i].body.both p.D E' X' = bb at *
    obtain ⟨b1, b2⟩ := bb
    have hiE : i < E'.length := by omega
    have hiX : i < X'.length := by omega
    obtain ⟨e1, he1⟩ : ∃ b, E'[i] = b := ⟨_, rfl⟩
    obtain ⟨x1, hx1⟩ : ∃ b, X'[i] = b := ⟨_, rfl⟩
    have hdE : E'.getD i false = e1 := by rw [List.getD_eq_getElem?_getD, List.getElem?_eq_getElem hiE, he1]; rfl
    have hdX : X'.getD i false = x1 := by rw [List.getD_eq_getElem?_getD, List.getElem?_eq_getElem hiX, hx1]; rfl
    rw [hdE, hdX] at hnext
    have hi' : (i : Int) < p.procs.length := by omega
    simp [mayK, hD, h, encProg]
    refine scall_heap [(23, 0), (18, 1), (21, 2)] [] hb (by simp) (by simp [mayL]) (by simp) ?_
    intro r l' VS' hrl
    rw [hrl.1, hrl.2]
    refine ⟨by simp [mayL], ?_⟩
    have go : ∀ T H vs st, st = stlF p.D ((p.procs.map (·.body)).take (i + 1)) 0 (E, X, false) → Am.subT T [(1, .ref 1 v1 (.p 0)), (4, .sl (encB p.D)), (5, .ref 23 v23 (.p 0)), (6, .bool st.2.2), (7, .int .i64 (i + 1 : Nat))] →
      subA H ((1, .box v1 69 (encProg p)) :: mayK 23 18 21 v23 v18 v21 p.D st.1 st.2.1) → L ⟨Am.look T, hls H vs, noG⟩ := fun T H vs st e h1 h2 => hL T H vs (i + 1, st) ⟨h, e⟩ (by simp; omega) h1 h2
    clear hL hb
    cases b1 <;> cases b2 <;> cases e1 <;> cases x1
    all_goals
      simp at hnext
      simp [mayL, hiE, hiX, he1, hx1]
      rw [wrap64 (by omega) (by omega)]
      refine go _ _ _ _ hnext.symm ?_ ?_
      · simp
      · simp [mayK, encProg]
  · have e : (p.procs.map (·.body)).take i = p.procs.map (·.body) := List.take_of_length_le (by simp; omega)
    rw [e] at hst
    simp [mayK, hD, h]
    refine hk _ _ _ (E', X', ag) hst ?_ ?_
    · simp
    · simp [mayK]
theorem hs_stl (p : Prog) (hv : p.vars.length ≤ 1000) (hn : p.procs.length ≤ 1000) :
    Am.HSpecL Try.prog 112 [.agg (encProg p)] [] fun r l' => ∃ v0 v1 v2, r = .ref 23 v0 (.p 0) ∧ l' = mayK 23 18 21 v0 v1 v2 p.D p.stl.1 p.stl.2 := by
  have hD : p.D.length = p.procs.length := by simp [Prog.D]
  have hr0 : ∀ n : Nat, List.replicate n [AV.bool false] = encBo (List.replicate n false) := fun n => encBo_rep n false
  refine Am.HSpecL.of_W (W := W112) Try.func112 (by kernel_rfl) (by kernel_rfl) (by kernel_rfl) Try.ntmps112 W112_eq (rs := [.tmp 2]) (by kernel_rfl) (by simp) ?_
  intro vs
  simp
  refine scall_pure (sp_nms p hv hn) (by simp [encProg]) (by simp [encProg]) ?_
  simp [hD, hr0]
  rw [decide_eq_true (by omega), decide_eq_true (by simp only [maxLen]; omega)]
  simp [-W112_l29, hD, hr0]
  rw [decide_eq_true (by omega), decide_eq_true (by simp only [maxLen]; omega)]
  simp [-W112_l29, hD, hr0]
  refine sLoop_intro (fun a : EXB => a.1.length = p.procs.length ∧ a.2.1.length = p.procs.length ∧ p.stl = if a.2.2 then stl p.D (p.procs.map (·.body)) a.1 a.2.1 else (a.1, a.2.1)) (fun a => if a.2.2 then cf a.1 + cf a.2.1 + 1 else 0)
    (fun a => [(1, .ref 1 (vs 1 + 1) (.p 0)), (4, .sl (encB p.D)), (5, .ref 23 (vs 23 + 1) (.p 0)), (6, .bool a.2.2)])
    (fun a => (1, .box (vs 1 + 1) 69 (encProg p)) :: mayK 23 18 21 (vs 23 + 1) (vs 18 + 1) (vs 21 + 1) p.D a.1 a.2.1) (List.replicate p.procs.length false, List.replicate p.procs.length false, true) (by simp [Prog.stl]) (by simp) (by simp [mayK, encProg]) ?_
  rintro L ⟨E, X, ag⟩ vt ⟨hE, hX, hst⟩ hL
  simp only at hE hX hst hL ⊢
  cases ag
  · simp at hst
    simp [mayK]
    refine retHW_to (mayK 23 18 21 (vs 23 + 1) (vs 18 + 1) (vs 21 + 1) p.D p.stl.1 p.stl.2) ?_
    simp [mayK, hst]
  · simp at hst
    have hc := stlF_cf p.D (p.procs.map (·.body)) 0 (E, X, false) (by simp; omega) (by simp; omega)
    simp [-W112_l27, mayK]
    refine stl_pass p hn (vs 1 + 1) (vs 23 + 1) (vs 18 + 1) (vs 21 + 1) E X hE hX _ _ ?_ _ _ _ (by simp) (by simp [mayK])
    rintro T H vs2 ⟨E', X', ag'⟩ hs hT hH
    rw [← hs] at hc
    simp only at hc hT hH
    refine hL T H vs2 (E', X', ag') ⟨by simp only; omega, by simp only; omega, ?_⟩ ?_ (by simpa using hT) (by simpa using hH)
    · rw [hst]
      cases ag'
      · rw [stl_end (by rw [← hs]), ← hs]
        rfl
      · rw [stl_again (by simp; omega) (by simp; omega) (by rw [← hs]), ← hs]
        rfl
    · cases ag'
      · simp
      · have := hc.2.2.2 rfl
        simp at this ⊢
        omega
end Go.Proofs.Ytkagfenchknjjaa
set_option linter.unusedVariables false
set_option linter.unusedSimpArgs false
namespace Go.Proofs.Ytkagfenchknjjaa
open Go Go.Am Go.RowKit
attribute [local simp] W104 W104_rs W104_k1 W104_c2 W104_c5 W104_b3 W104_l4

def gb : Nat → List (Nat × List Bool) → List (Nat × Blk)
  | _, [] => []
  | k, (v, r) :: l => (k, .row v 4 1 (encBo r)) :: gb (k + 1) l
def gr : Nat → List (Nat × List Bool) → List (List AV)
  | _, [] => []
  | k, (v, _) :: l => [.ref k v .o] :: gr (k + 1) l
def grid (k w : Nat) (l : List (Nat × List Bool)) : List (Nat × Blk) := (if l = [] then [] else [(k, .row w 149 1 (gr 1000 l))]) ++ gb 1000 l
def gv (k w : Nat) (l : List (Nat × List Bool)) : AV := if l = [] then .nils else .ref k w .o
set_option maxHeartbeats 4000000 in
theorem fro_body (p : Prog) (v1 v0 va vb : Nat) (E X : List Bool) (hn : p.procs.length = 5) (hE : E.length = 5) (hX : X.length = 5) (hok : ∀ d ∈ p.procs, d.body.okS = true ∧ d.body.wt ≤ 137438953472) (hst : p.stl = (E, X))
    (Φ : Exit → St → Prop) (L : St → Prop) (w : Nat) (l : List (Nat × List Bool)) (hl : l.length < 5) (hf : l.map (·.2) = p.fronts.take l.length)
    (hL : ∀ T H vs w' l', l'.length = l.length + 1 → l'.map (·.2) = p.fronts.take (l.length + 1) → Am.subT T [(1, .ref 1 v1 (.p 0)), (3, .ref 2000 v0 (.p 0)), (4, gv 36 w' l'), (5, .int .i64 (l.length + 1 : Nat))] →
      subA H ((1, .box v1 69 (encProg p)) :: (mayK 2000 2001 2002 v0 va vb p.D E X ++ grid 36 w' l')) → L ⟨Am.look T, hls H vs, noG⟩) (vt : Nat → Nat) :
    W104_l4 Try.prog Φ L ⟨Am.look [(1, .ref 1 v1 (.p 0)), (3, .ref 2000 v0 (.p 0)), (4, gv 36 w l), (5, .int .i64 (l.length : Nat))], hls ((1, .box v1 69 (encProg p)) :: (mayK 2000 2001 2002 v0 va vb p.D E X ++ grid 36 w l)) vt, noG⟩ := by
  have hD : p.D.length = 5 := by simp [Prog.D, hn]
  have hi : l.length < p.procs.length := by omega
  have hft : p.fronts.take (l.length + 1) = p.fronts.take l.length ++ [p.procs[l.length].body.front p.D E X (List.replicate 5 false)] := by
    have := take_map_succ (fun d : Dfn => d.body.front p.D p.stl.1 p.stl.2 (List.replicate p.procs.length false)) p.procs l.length hi
    rw [hst, hn] at this
    unfold Prog.fronts
    rw [hst, hn]
    exact this
  have hfr := fun (j : Nat) (hj : j < p.procs.length) v3 => hs_frn p.procs[j].body v0 va vb v3 p.D E X (List.replicate 5 false) (by omega) (by omega) (by omega) (by simp [hD]) (hok _ (List.getElem_mem hj)).1 (hok _ (List.getElem_mem hj)).2
  rw [← hf] at hft
  rcases l with _ | ⟨⟨a, ra⟩, _ | ⟨⟨b, rb'⟩, _ | ⟨⟨c, rc⟩, _ | ⟨⟨e, re⟩, _ | ⟨⟨f, rf'⟩, l⟩⟩⟩⟩⟩
  · have h0 : 0 < p.procs.length := by omega
    simp at hft hf
    have hr := hfr 0 h0 (vt 1000 + 1)
    simp [mayK, grid, gb, gr, gv, hD]
    refine sMks_key _ 1000 ?_
    simp [maxLen, hn]
    refine scall_heap [(2000, 0), (2001, 1), (2002, 2), (1000, 3)] [] hr (by simp) (by simp [frnL, mayL, encBo]) (by simp) ?_
    intro r l' VS' hrl
    rw [hrl.1, hrl.2]
    refine ⟨by simp [frnL, mayL], ?_⟩
    simp [frnL, mayL]
    refine sLit_r _ _ ?_
    simp
    rw [wrap64 (by omega) (by omega)]
    refine hL _ _ _ (VS' 36 + 1) [(vt 1000 + 1, p.procs[0].body.front p.D E X (List.replicate 5 false))] (by simp) (by simpa using hft.symm) ?_ ?_
    · simp [gv]
    · simp [mayK, grid, gb, gr]
  · have h1 : 1 < p.procs.length := by omega
    simp at hft hf
    have hr := hfr 1 h1 (vt 1001 + 1)
    simp [mayK, grid, gb, gr, gv, hD]
    refine sMks_key _ 1001 ?_
    simp [maxLen, hn]
    refine scall_heap [(2000, 0), (2001, 1), (2002, 2), (1001, 3)] [] hr (by simp) (by simp [frnL, mayL, encBo]) (by simp) ?_
    intro r l' VS' hrl
    rw [hrl.1, hrl.2]
    refine ⟨by simp [frnL, mayL], ?_⟩
    simp [frnL, mayL]
    refine sLit_r _ _ ?_
    simp
    rw [wrap64 (by omega) (by omega)]
    refine hL _ _ _ (w + 1) [(a, ra), (vt 1001 + 1, p.procs[1].body.front p.D E X (List.replicate 5 false))] (by simp) (by simpa using hft.symm) ?_ ?_
    · simp [gv]
    · simp [mayK, grid, gb, gr]
  · have h2 : 2 < p.procs.length := by omega
    simp at hft hf
    have hr := hfr 2 h2 (vt 1002 + 1)
    simp [mayK, grid, gb, gr, gv, hD]
    refine sMks_key _ 1002 ?_
    simp [maxLen, hn]
    refine scall_heap [(2000, 0), (2001, 1), (2002, 2), (1002, 3)] [] hr (by simp) (by simp [frnL, mayL, encBo]) (by simp) ?_
    intro r l' VS' hrl
    rw [hrl.1, hrl.2]
    refine ⟨by simp [frnL, mayL], ?_⟩
    simp [frnL, mayL]
    refine sLit_r _ _ ?_
    simp
    rw [wrap64 (by omega) (by omega)]
    refine hL _ _ _ (w + 1) [(a, ra), (b, rb'), (vt 1002 + 1, p.procs[2].body.front p.D E X (List.replicate 5 false))] (by simp) (by simpa using hft.symm) ?_ ?_
    · simp [gv]
    · simp [mayK, grid, gb, gr]
  · have h3 : 3 < p.procs.length := by omega
    simp at hft hf
    have hr := hfr 3 h3 (vt 1003 + 1)
    simp [mayK, grid, gb, gr, gv, hD]
    refine sMks_key _ 1003 ?_
    simp [maxLen, hn]
    refine scall_heap [(2000, 0), (2001, 1), (2002, 2), (1003, 3)] [] hr (by simp) (by simp [frnL, mayL, encBo]) (by simp) ?_
    intro r l' VS' hrl
    rw [hrl.1, hrl.2]
    refine ⟨by simp [frnL, mayL], ?_⟩
    simp [frnL, mayL]
    refine sLit_r _ _ ?_
    simp
    rw [wrap64 (by omega) (by omega)]
    refine hL _ _ _ (w + 1) [(a, ra), (b, rb'), (c, rc), (vt 1003 + 1, p.procs[3].body.front p.D E X (List.replicate 5 false))] (by simp) (by simpa using hft.symm) ?_ ?_
    · simp [gv]
    · simp [mayK, grid, gb, gr]
  · have h4 : 4 < p.procs.length := by omega
    simp at hft hf
    have hr := hfr 4 h4 (vt 1004 + 1)
    simp [mayK, grid, gb, gr, gv, hD]
    refine sMks_key _ 1004 ?_
    simp [maxLen, hn]
    refine scall_heap [(2000, 0), (2001, 1), (2002, 2), (1004, 3)] [] hr (by simp) (by simp [frnL, mayL, encBo]) (by simp) ?_
    intro r l' VS' hrl
    rw [hrl.1, hrl.2]
    refine ⟨by simp [frnL, mayL], ?_⟩
    simp [frnL, mayL]
    refine sLit_r _ _ ?_
    simp
    rw [wrap64 (by omega) (by omega)]
    refine hL _ _ _ (w + 1) [(a, ra), (b, rb'), (c, rc), (e, re), (vt 1004 + 1, p.procs[4].body.front p.D E X (List.replicate 5 false))] (by simp) (by simpa using hft.symm) ?_ ?_
    · simp [gv]
    · simp [mayK, grid, gb, gr]
  · simp at hl
    omega
theorem hs_fro (p : Prog) (hv : p.vars.length ≤ 1000) (hn : p.procs.length = 5) (hok : ∀ d ∈ p.procs, d.body.okS = true ∧ d.body.wt ≤ 137438953472) :
    Am.HSpecL Try.prog 104 [.agg (encProg p)] [] fun r l' => ∃ w l, l.map (·.2) = p.fronts ∧ r = .ref 36 w .o ∧ l' = grid 36 w l := by
  have hD : p.D.length = 5 := by simp [Prog.D, hn]
  have hfl : p.fronts.length = 5 := by simp [Prog.fronts, hn]
  have hlen : p.stl.1.length = 5 ∧ p.stl.2.length = 5 := by
    have := stl_len p.D (p.procs.map (·.body)) (List.replicate p.procs.length false) (List.replicate p.procs.length false) (by simp) (by simp)
    rw [List.length_replicate, hn] at this
    unfold Prog.stl
    rw [hn]
    exact this
  refine Am.HSpecL.of_W (W := W104) Try.func104 (by kernel_rfl) (by kernel_rfl) (by kernel_rfl) Try.ntmps104 W104_eq (rs := [.tmp 2]) (by kernel_rfl) (by simp) ?_
  intro vs
  simp
  refine scall_heap [] [(2000, 23), (2001, 18), (2002, 21)] (hs_stl p hv (by omega)) (by simp) (by simp) (by simp) ?_
  rintro r l' VS' ⟨v0, va, vb, hr, hl'⟩
  rw [hr, hl']
  refine ⟨by simp [mayK], ?_⟩
  simp [-W104_l4, mayK]
  refine sLoop_intro (fun a : Nat × List (Nat × List Bool) => a.2.length ≤ 5 ∧ a.2.map (·.2) = p.fronts.take a.2.length) (fun a => 5 - a.2.length)
    (fun a => [(1, .ref 1 (vs 1 + 1) (.p 0)), (3, .ref 2000 v0 (.p 0)), (4, gv 36 a.1 a.2), (5, .int .i64 (a.2.length : Nat))])
    (fun a => (1, .box (vs 1 + 1) 69 (encProg p)) :: (mayK 2000 2001 2002 v0 va vb p.D p.stl.1 p.stl.2 ++ grid 36 a.1 a.2)) (0, []) (by simp) (by simp [gv]) (by simp [mayK, grid, gb]) ?_
  rintro L ⟨w, l⟩ vt ⟨hl, hf⟩ hL
  simp only at hl hf hL ⊢
  by_cases h : l.length < 5
  · refine fro_body p (vs 1 + 1) v0 va vb p.stl.1 p.stl.2 hn hlen.1 hlen.2 hok rfl _ L w l h hf (fun T H vs w' l' h1 h2 h3 h4 => ?_) vt
    exact hL T H vs (w', l') ⟨by simp only; omega, by simp only; rw [h1]; exact h2⟩ (by simp only; omega) (by rw [← h1] at h3; exact h3) h4
  · have e : l.length = 5 := by omega
    rw [e, List.take_of_length_le (by omega)] at hf
    obtain ⟨x0, x1, x2, x3, x4, rfl⟩ : ∃ x0 x1 x2 x3 x4, l = [x0, x1, x2, x3, x4] := by
      rcases l with _ | ⟨x0, _ | ⟨x1, _ | ⟨x2, _ | ⟨x3, _ | ⟨x4, _ | ⟨x5, l⟩⟩⟩⟩⟩⟩ <;> simp at e
      exact ⟨_, _, _, _, _, rfl⟩
    simp [mayK, grid, gb, gr, gv, hD]
    refine retHW_to (grid 36 w [x0, x1, x2, x3, x4]) ?_
    simp [grid, gb, gr, hf]
    exact ⟨w, [x0, x1, x2, x3, x4], hf, rfl, by simp [gb, gr]⟩
end Go.Proofs.Ytkagfenchknjjaa
set_option linter.unusedVariables false
set_option linter.unusedSimpArgs false
namespace Go.Proofs.Ytkagfenchknjjaa
open Go Go.Am Go.RowKit
attribute [local simp] W93 W93_rs W93_k1 W93_k6 W93_k7 W93_k8 W93_b2 W93_b3 W93_b4 W93_b25 W93_b27 W93_b29 W93_l5 W93_l26 W93_l28 W93_l30 W93_c9 W93_c10 W93_c11 W93_c12 W93_c13 W93_c14 W93_c15 W93_c16 W93_c17 W93_c18 W93_c19 W93_c20 W93_c21 W93_c22 W93_c23 W93_c24 W93_c31

structure V5 where
  a : Nat
  b : Nat
  c : Nat
  d : Nat
  e : Nat
def rndH (v1 w : Nat) (p : Prog) (v : V5) (M : Mx) : List (Nat × Blk) :=
  [(1, .box v1 69 (encProg p)), (36, .row w 149 1 [[.ref 1000 v.a .o], [.ref 1001 v.b .o], [.ref 1002 v.c .o], [.ref 1003 v.d .o], [.ref 1004 v.e .o]]),
    (1000, .row v.a 4 1 (encBo (M.getD 0 []))), (1001, .row v.b 4 1 (encBo (M.getD 1 []))), (1002, .row v.c 4 1 (encBo (M.getD 2 []))), (1003, .row v.d 4 1 (encBo (M.getD 3 []))), (1004, .row v.e 4 1 (encBo (M.getD 4 [])))]
def okM (M : Mx) : Prop := M.length = 5 ∧ ∀ q, q < 5 → (M.getD q []).length = 5
theorem mset_getD (M : Mx) (i j q : Nat) (b : Bool) (hi : i < M.length) : (mset M i j b).getD q [] = if i = q then (M.getD q []).set j b else M.getD q [] := by
  unfold mset
  simp only [List.getD_eq_getElem?_getD, List.getElem?_set]
  by_cases e : i = q
  · subst e
    simp [hi]
  · simp [e]
theorem okM_set {M : Mx} (h : okM M) (i j : Nat) (b : Bool) (hi : i < 5) : okM (mset M i j b) := by
  refine ⟨by simp [mset, h.1], fun q hq => ?_⟩
  rw [mset_getD _ _ _ _ _ (by rw [h.1]; exact hi)]
  split
  · simp only [List.length_set]; exact h.2 q hq
  · exact h.2 q hq
set_option maxHeartbeats 4000000 in
theorem rnd_step (v1 w : Nat) (p : Prog) (v : V5) (M : Mx) (hM : okM M) (k i j : Nat) (hk : k < 5) (hi : i < 5) (hj : j < 5) (Φ : Exit → St → Prop) (L0 L1 L : St → Prop) (vt : Nat → Nat)
    (hL : ∀ T H vs M', M' = mset M i j (mget M i j || (mget M i k && mget M k j)) → Am.subT T [(3, .ref 36 w .o), (4, .int .i64 5), (5, .int .i64 (k : Nat)), (6, .int .i64 (i : Nat)), (7, .int .i64 (j + 1 : Nat))] → subA H (rndH v1 w p v M') → L ⟨Am.look T, hls H vs, noG⟩) :
    W93_l26 Try.prog Φ L0 L1 L ⟨Am.look [(3, .ref 36 w .o), (4, .int .i64 5), (5, .int .i64 (k : Nat)), (6, .int .i64 (i : Nat)), (7, .int .i64 (j : Nat))], hls (rndH v1 w p v M) vt, noG⟩ := by
  have hj' : (j : Int) < 5 := by omega
  have hget : ∀ q r : Nat, q < 5 → r < 5 → (M.getD q [])[r]? = some (mget M q r) := fun q r h1 h2 => by
    unfold mget
    rw [List.getD_eq_getElem?_getD (l := M.getD q []), List.getElem?_eq_getElem (by rw [hM.2 q h1]; exact h2)]; rfl
  have e1 := hget i j hi hj
  have e2 := hget i k hi hk
  have e3 := hget k j hk hj
  have hl0 := hM.2 0 (by omega)
  have hl1 := hM.2 1 (by omega)
  have hl2 := hM.2 2 (by omega)
  have hl3 := hM.2 3 (by omega)
  have hl4 := hM.2 4 (by omega)
  generalize mget M i j = b1 at *
  generalize mget M i k = b2 at *
  generalize mget M k j = b3 at *
  obtain ⟨r0, r1, r2, r3, r4, rfl⟩ : ∃ r0 r1 r2 r3 r4, M = [r0, r1, r2, r3, r4] := by
    have := hM.1
    rcases M with _ | ⟨x0, _ | ⟨x1, _ | ⟨x2, _ | ⟨x3, _ | ⟨x4, _ | ⟨x5, l⟩⟩⟩⟩⟩⟩ <;> simp at this
    exact ⟨_, _, _, _, _, rfl⟩
  clear hget hM
  simp only [List.getD_eq_getElem?_getD, List.getElem?_cons_zero, List.getElem?_cons_succ, Option.getD_some] at hl0 hl1 hl2 hl3 hl4
  have ci : i = 0 ∨ i = 1 ∨ i = 2 ∨ i = 3 ∨ i = 4 := by omega
  have ck : k = 0 ∨ k = 1 ∨ k = 2 ∨ k = 3 ∨ k = 4 := by omega
  have fin : ∀ T H vs (b : Bool), b = (b1 || (b2 && b3)) → Am.subT T [(3, .ref 36 w .o), (4, .int .i64 5), (5, .int .i64 (k : Nat)), (6, .int .i64 (i : Nat)), (7, .int .i64 (j + 1 : Nat))] →
      subA H (rndH v1 w p v (mset [r0, r1, r2, r3, r4] i j b)) → L ⟨Am.look T, hls H vs, noG⟩ := fun T H vs b h1 h2 h3 => hL T H vs _ (by rw [h1]) h2 h3
  clear hL
  cases b1
  · cases b2
    · rcases ci with rfl | rfl | rfl | rfl | rfl <;> rcases ck with rfl | rfl | rfl | rfl | rfl
      all_goals
        simp at e1 e2
        obtain ⟨xe1, ye1⟩ := List.getElem?_eq_some_iff.1 e1
        obtain ⟨xe2, ye2⟩ := List.getElem?_eq_some_iff.1 e2
        simp [rndH, hj', hj, hl0, hl1, hl2, hl3, hl4, ye1, ye2]
        rw [wrap64 (by omega) (by omega)]
        exact fin _ _ _ false rfl (by simp) (by simp [rndH, mset])
    · cases b3
      · rcases ci with rfl | rfl | rfl | rfl | rfl <;> rcases ck with rfl | rfl | rfl | rfl | rfl
        all_goals
          simp at e1 e2 e3
          obtain ⟨xe1, ye1⟩ := List.getElem?_eq_some_iff.1 e1
          obtain ⟨xe2, ye2⟩ := List.getElem?_eq_some_iff.1 e2
          obtain ⟨xe3, ye3⟩ := List.getElem?_eq_some_iff.1 e3
          simp [rndH, hj', hj, hl0, hl1, hl2, hl3, hl4, ye1, ye2, ye3]
          rw [wrap64 (by omega) (by omega)]
          exact fin _ _ _ false rfl (by simp) (by simp [rndH, mset])
      · rcases ci with rfl | rfl | rfl | rfl | rfl <;> rcases ck with rfl | rfl | rfl | rfl | rfl
        all_goals
          simp at e1 e2 e3
          obtain ⟨xe1, ye1⟩ := List.getElem?_eq_some_iff.1 e1
          obtain ⟨xe2, ye2⟩ := List.getElem?_eq_some_iff.1 e2
          obtain ⟨xe3, ye3⟩ := List.getElem?_eq_some_iff.1 e3
          first
            | (rw [ye1] at ye3; cases ye3; done)
            | (simp [rndH, hj', hj, hl0, hl1, hl2, hl3, hl4, ye1, ye2, ye3]
               rw [wrap64 (by omega) (by omega)]
               exact fin _ _ _ true rfl (by simp) (by simp [rndH, mset]))
  · rcases ci with rfl | rfl | rfl | rfl | rfl <;> rcases ck with rfl | rfl | rfl | rfl | rfl
    all_goals
      simp at e1
      obtain ⟨xe1, ye1⟩ := List.getElem?_eq_some_iff.1 e1
      simp [rndH, hj', hj, hl0, hl1, hl2, hl3, hl4, ye1]
      rw [wrap64 (by omega) (by omega)]
      exact fin _ _ _ true rfl (by simp) (by simp [rndH, mset])
theorem okM_rdJ {M : Mx} (h : okM M) (k i : Nat) (hi : i < 5) : ∀ j, okM (rdJ k i j M)
  | 0 => h
  | j + 1 => okM_set (okM_rdJ h k i hi j) i j _ hi
theorem okM_rdI {M : Mx} (h : okM M) (n k : Nat) : ∀ i, i ≤ 5 → okM (rdI n k i M)
  | 0, _ => h
  | i + 1, hi => okM_rdJ (okM_rdI h n k i (by omega)) k i (by omega) n
theorem okM_rdK {M : Mx} (h : okM M) (n : Nat) (hn : n ≤ 5) : ∀ k, okM (rdK n k M)
  | 0 => h
  | k + 1 => okM_rdI (okM_rdK h n hn k) n k n hn
/-- The three loops, one in the other. -/
theorem rnd_j (v1 w : Nat) (p : Prog) (v : V5) (M : Mx) (hM : okM M) (k i : Nat) (hk : k < 5) (hi : i < 5) (Φ : Exit → St → Prop) (L0 L1 : St → Prop)
    (hL : ∀ T H vs, Am.subT T [(3, .ref 36 w .o), (4, .int .i64 5), (5, .int .i64 (k : Nat)), (6, .int .i64 (i + 1 : Nat))] → subA H (rndH v1 w p v (rdJ k i 5 M)) → L1 ⟨Am.look T, hls H vs, noG⟩)
    (T : List (Nat × AV)) (H : List (Nat × Blk)) (vs : Nat → Nat) (hT : Am.subT T [(3, .ref 36 w .o), (4, .int .i64 5), (5, .int .i64 (k : Nat)), (6, .int .i64 (i : Nat)), (7, .int .i64 0)]) (hH : subA H (rndH v1 w p v M)) :
    @sLoop ⟨Am.look T, hls H vs, noG⟩ ⟨fun L2 s => W93_l26 Try.prog Φ L0 L1 L2 s⟩ := by
  refine sLoop_intro (fun j => j ≤ 5) (fun j => 5 - j) (fun j => [(3, .ref 36 w .o), (4, .int .i64 5), (5, .int .i64 (k : Nat)), (6, .int .i64 (i : Nat)), (7, .int .i64 (j : Nat))]) (fun j => rndH v1 w p v (rdJ k i j M)) 0 (by simp) (by simpa using hT) (by simpa [rdJ] using hH) ?_
  intro L j vt hj hL2
  by_cases h : j < 5
  · refine rnd_step v1 w p v _ (okM_rdJ hM k i hi j) k i j hk hi h Φ L0 L1 L vt fun T H vs M' e h1 h2 => ?_
    subst e
    exact hL2 T H vs (j + 1) h (by omega) h1 h2
  · have e : j = 5 := by omega
    subst e
    generalize rdJ k i 5 M = M' at *
    simp [rndH]
    rw [wrap64 (by omega) (by omega)]
    exact hL _ _ _ (by simp) (by simp [rndH])
theorem rnd_i (v1 w : Nat) (p : Prog) (v : V5) (M : Mx) (hM : okM M) (k : Nat) (hk : k < 5) (Φ : Exit → St → Prop) (L0 : St → Prop)
    (hL : ∀ T H vs, Am.subT T [(3, .ref 36 w .o), (4, .int .i64 5), (5, .int .i64 (k + 1 : Nat))] → subA H (rndH v1 w p v (rdI 5 k 5 M)) → L0 ⟨Am.look T, hls H vs, noG⟩)
    (T : List (Nat × AV)) (H : List (Nat × Blk)) (vs : Nat → Nat) (hT : Am.subT T [(3, .ref 36 w .o), (4, .int .i64 5), (5, .int .i64 (k : Nat)), (6, .int .i64 0)]) (hH : subA H (rndH v1 w p v M)) :
    @sLoop ⟨Am.look T, hls H vs, noG⟩ ⟨fun L1 s => W93_l28 Try.prog Φ L0 L1 s⟩ := by
  refine sLoop_intro (fun i => i ≤ 5) (fun i => 5 - i) (fun i => [(3, .ref 36 w .o), (4, .int .i64 5), (5, .int .i64 (k : Nat)), (6, .int .i64 (i : Nat))]) (fun i => rndH v1 w p v (rdI 5 k i M)) 0 (by simp) (by simpa using hT) (by simpa [rdI] using hH) ?_
  intro L i vt hi hL2
  by_cases h : i < 5
  · have h' : (i : Int) < 5 := by omega
    have hm := okM_rdI hM 5 k i (by omega)
    have hr : rdI 5 k (i + 1) M = rdJ k i 5 (rdI 5 k i M) := rfl
    have hL3 := fun T H vs => hL2 T H vs (i + 1) h (by omega)
    rw [hr] at hL3
    generalize rdI 5 k i M = M' at *
    simp [-W93_l26, h']
    exact rnd_j v1 w p v M' hm k i hk h Φ L0 L hL3 _ _ _ (by simp) (by simp [rndH])
  · have e : i = 5 := by omega
    subst e
    generalize rdI 5 k 5 M = M' at *
    simp [rndH]
    rw [wrap64 (by omega) (by omega)]
    exact hL _ _ _ (by simp) (by simp [rndH])
theorem rnd_end (v1 w : Nat) (p : Prog) (v : V5) (M : Mx) (hM : okM M) (T : List (Nat × AV)) (H : List (Nat × Blk)) (vs : Nat → Nat) (hT : Am.subT T [(3, .ref 36 w .o), (4, .int .i64 5), (8, .int .i64 0)]) (hH : subA H (rndH v1 w p v M)) :
    @sLoop ⟨Am.look T, hls H vs, noG⟩ ⟨fun L0 s => W93_l5 Try.prog (retK Try.prog [.tmp 2] (.bool (diagF M 5))) L0 s⟩ := by
  refine sLoop_intro (fun i => i ≤ 5 ∧ diagF M i = false) (fun i => 5 - i) (fun i => [(3, .ref 36 w .o), (4, .int .i64 5), (8, .int .i64 (i : Nat))]) (fun i => rndH v1 w p v M) 0 (by simp [diagF]) (by simpa using hT) (by simpa using hH) ?_
  rintro L i vt ⟨hi, hd⟩ hL
  have hget : ∀ q r : Nat, q < 5 → r < 5 → (M.getD q [])[r]? = some (mget M q r) := fun q r h1 h2 => by
    unfold mget
    rw [List.getD_eq_getElem?_getD (l := M.getD q []), List.getElem?_eq_getElem (by rw [hM.2 q h1]; exact h2)]; rfl
  have hlen := fun q h => hM.2 q h
  have up : ∀ j, i < j → j ≤ 5 → mget M i i = true → diagF M j = true := by
    intro j h1 h2 h3
    induction j with
    | zero => omega
    | succ j ih =>
      by_cases e : i = j
      · subst e; simp [diagF, h3]
      · simp [diagF, ih (by omega) (by omega)]
  by_cases h : i < 5
  · have hm := hget i i h h
    have hmi := hlen i h
    have u5 := up 5 h (by omega)
    have hd1 : diagF M (i + 1) = mget M i i := by simp [diagF, hd]
    have ci : i = 0 ∨ i = 1 ∨ i = 2 ∨ i = 3 ∨ i = 4 := by omega
    have go := fun T H vs (e : mget M i i = false) => hL T H vs (i + 1) ⟨h, by rw [hd1, e]⟩ (by omega)
    clear hget hlen up hL
    cases hb : mget M i i
    · have go := fun T H vs => go T H vs hb
      rw [hb] at hm
      rcases ci with rfl | rfl | rfl | rfl | rfl
      all_goals
        obtain ⟨xm, ym⟩ := List.getElem?_eq_some_iff.1 hm
        rw [List.getD_eq_getElem?_getD] at xm hmi
        simp only [List.getD_eq_getElem?_getD] at ym
        simp [rndH, hmi, xm, ym]
        rw [wrap64 (by omega) (by omega)]
        exact go _ _ _ (by simp) (by simp [rndH])
    · rw [hb] at hm
      rw [u5 hb]
      clear go hd1 u5 hb
      rcases ci with rfl | rfl | rfl | rfl | rfl
      all_goals
        obtain ⟨xm, ym⟩ := List.getElem?_eq_some_iff.1 hm
        rw [List.getD_eq_getElem?_getD] at xm hmi
        simp only [List.getD_eq_getElem?_getD] at ym
        simp [rndH, hmi, xm, ym, retW_eq]
  · have e : i = 5 := by omega
    subst e
    rw [hd]
    simp [rndH, retW_eq]
end Go.Proofs.Ytkagfenchknjjaa
set_option linter.unusedVariables false
set_option linter.unusedSimpArgs false
namespace Go.Proofs.Ytkagfenchknjjaa
open Go Go.Am Go.RowKit
attribute [local simp] W92 W92_rs W92_k1 W92_k5 W92_k24 W92_c2 W92_c6 W92_c9 W92_c10 W92_c12 W92_c14 W92_c15 W92_c17 W92_c19 W92_b3 W92_b7 W92_b8 W92_b11 W92_b13 W92_b16 W92_b18 W92_b20 W92_b21 W92_b22 W92_b23 W92_b25 W92_b26 W92_b27 W92_b28 W92_l4

def eC (z : Bool) (e : Ex) : List AV := if z then [.int .i64 0, .int .i64 0, .str ⟨#[]⟩, .nils] else encE e
@[simp] theorem eC_len (z : Bool) (e : Ex) : (eC z e).length = 4 := by cases z <;> simp [eC]
@[simp] theorem eC_cell (z : Bool) (e : Ex) : (∀ c ∈ eC z e, c.cell = true) ↔ True := by cases z <;> simp [eC]; exact encE_cell e
@[simp] theorem eC_frz (z : Bool) (e : Ex) (H : Heap) : (eC z e).foldl frz0 H = H := by cases z <;> simp [eC]
theorem eC_pur (z : Bool) (e : Ex) (H : Heap) (h : z = true → e = .zero) : (eC z e).map (pur0 H) = encE e := by
  cases z
  · simp [eC]
  · rw [h rfl]; simp [eC, Ex.zero, encE_mk]
theorem eC_four (z : Bool) (e : Ex) : ∃ a b c d, eC z e = [a, b, c, d] := by
  cases z
  · exact ⟨_, _, _, _, encE_eq e⟩
  · exact ⟨_, _, _, _, rfl⟩
def tmc (t : Tm) (z : Bool) (lv : AV) : List AV := .int .i64 t.kind :: .int .i64 t.a :: .int .i64 t.b :: .str t.name :: (eC z t.e ++ [lv])
theorem encT_ap (t : Tm) : encT t = .int .i64 t.kind :: .int .i64 t.a :: .int .i64 t.b :: .str t.name :: (encE t.e ++ [.sl (t.l.map encT)]) := by cases t; simp [encT, encTs_map]
@[simp] theorem tmc_len (t : Tm) (z : Bool) (lv : AV) : (tmc t z lv).length = 9 := by simp [tmc]
@[simp] theorem rd_tmc8 (t : Tm) (z : Bool) (lv : AV) : readA (tmc t z lv) 8 1 false = some lv := by
  obtain ⟨a, b, c, d, h⟩ := eC_four z t.e
  rw [tmc, h]; rfl
@[simp] theorem set_tmc8 (t : Tm) (z : Bool) (lv x : AV) : setL (tmc t z lv) 8 [x] = tmc t z x := by
  obtain ⟨a, b, c, d, h⟩ := eC_four z t.e
  rw [tmc, tmc, h]; rfl
@[simp] theorem tmc_cell (t : Tm) (z : Bool) (lv : AV) : (∀ c ∈ tmc t z lv, c.cell = true) ↔ lv.cell = true := by
  have := (eC_cell z t.e).2 trivial
  obtain ⟨a, b, c, d, h⟩ := eC_four z t.e
  rw [h] at this
  rw [tmc, h]
  simp at this ⊢
  simp [this]
def isZ (k : Int) : Bool := !(decide (k = 2) || decide (k = 9))
def lprH (V S D : List ByteArray) (x : Pr) (v3 v4 v5 : Nat) (i w : Nat) : List (Nat × Blk) :=
  (3, .box v3 73 (encPr x)) :: (4, .box v4 34 [.int .i64 0, .int .i64 0, .int .i64 0, .str ⟨#[]⟩, .int .i64 0, .int .i64 0, .str ⟨#[]⟩, .nils, .nils]) ::
    if i = 0 then [(5, .box v5 34 (tmc (lowP0 V S D x.kind x.name x.to x.e []) (isZ x.kind) .nils))]
    else [(5, .box v5 34 (tmc (lowP0 V S D x.kind x.name x.to x.e []) (isZ x.kind) (.ref 114 w .o))), (114, .row w 34 9 ((x.l.take i).map fun y => encT (lowP V S D y)))]
theorem badPs_mem {V S D : List ByteArray} : ∀ {l : List Pr}, badPs V S D l = false → ∀ x ∈ l, badP V S D x = false
  | y :: l, h, x, hx => by
    simp only [badPs, Bool.or_eq_false_iff] at h
    rcases List.mem_cons.1 hx with rfl | hx
    · exact h.1
    · exact badPs_mem h.2 x hx
theorem lowP0_l (V S D : List ByteArray) (k : Int) (s t : ByteArray) (e : Ex) (l : List Tm) : encT (lowP0 V S D k s t e l) = .int .i64 (lowP0 V S D k s t e []).kind :: .int .i64 (lowP0 V S D k s t e []).a :: .int .i64 (lowP0 V S D k s t e []).b ::
    .str (lowP0 V S D k s t e []).name :: (encE (lowP0 V S D k s t e []).e ++ [.sl (l.map encT)]) := by
  rw [encT_ap]
  unfold lowP0
  repeat' split
  all_goals rfl
theorem lowP0_z (V S D : List ByteArray) (k : Int) (s t : ByteArray) (e : Ex) (h : isZ k = true) : (lowP0 V S D k s t e []).e = .zero := by
  simp [isZ] at h
  unfold lowP0
  repeat' split
  all_goals first | rfl | (exfalso; omega)
theorem sp_lpr_loop (x : Pr) (V S D : List ByteArray) (b : Bool) (hlen : x.l.length ≤ 137438953472) (ih : ∀ y ∈ x.l, Am.Spec Try.prog 92 [.elt (lwC V S D b) 0, .agg (encPr y)] (.agg (encT (lowP V S D y))))
    (v3 v4 v5 : Nat) (T : List (Nat × AV)) (HL : List (Nat × Blk)) (VS : Nat → Nat)
    (hT : Am.subT T [(0, .elt (lwC V S D b) 0), (3, .ref 3 v3 (.p 0)), (4, .ref 4 v4 (.p 0)), (5, .ref 5 v5 (.p 0)), (6, .int .i64 0)]) (hH : subA HL (lprH V S D x v3 v4 v5 0 0)) :
    @sLoop ⟨Am.look T, hls HL VS, noG⟩ ⟨fun L0 s => W92_l4 Try.prog (retK Try.prog [.cell 4 34] (.agg (encT (lowP V S D x)))) L0 s⟩ := by
  refine sLoop_intro (fun a : Nat × Nat => a.1 ≤ x.l.length) (fun a => x.l.length - a.1) (fun a => [(0, .elt (lwC V S D b) 0), (3, .ref 3 v3 (.p 0)), (4, .ref 4 v4 (.p 0)), (5, .ref 5 v5 (.p 0)), (6, .int .i64 (a.1 : Nat))])
    (fun a => lprH V S D x v3 v4 v5 a.1 a.2) (0, 0) (by simp) (by simpa using hT) (by simpa using hH) ?_
  rintro L ⟨i, w⟩ vs hi hL
  simp only at hi hL ⊢
  simp [lprH]
  refine sIf_dec (fun h => ?_) (fun h => ?_)
  · have hx := ih x.l[i] (List.getElem_mem h)
    by_cases h0 : i = 0
    · subst h0
      simp [h] at hx ⊢
      refine scall0_pure hx (by simp) (by simp) ?_
      simp
      rw [wrap64 (by omega) (by omega)]
      refine hL _ _ _ (1, vs 114 + 1) (by simp; omega) (by simp; omega) (by simp) ?_
      have ht : x.l.take 1 = [x.l[0]] := by simpa using List.take_succ_eq_append_getElem h
      simp [lprH, ht]
    · simp [h, h0]
      refine scall0_pure hx (by simp) (by simp) ?_
      have hl : min i x.l.length = i := by omega
      simp [hl]
      rw [decide_eq_true (by omega)]
      simp
      rw [wrap64 (by omega) (by omega)]
      refine hL _ _ _ (i + 1, w + 1) (by simp; omega) (by simp; omega) (by simp) ?_
      have ht := take_map_succ (fun y => encT (lowP V S D y)) x.l i h
      simp [lprH, ht]
  · have e : i = x.l.length := by omega
    subst e
    have hlw := lowP_eq V S D x
    have q3 := lowP0_l V S D x.kind x.name x.to x.e (x.l.map (lowP V S D))
    rw [← hlw] at q3
    have q4 := fun H => eC_pur (isZ x.kind) (lowP0 V S D x.kind x.name x.to x.e []).e H (lowP0_z V S D x.kind x.name x.to x.e)
    have ht : (x.l.map fun y => encT (lowP V S D y)).take x.l.length = x.l.map fun y => encT (lowP V S D y) := List.take_of_length_le (by simp)
    rw [q3]
    by_cases h0 : x.l = []
    · simp [h0, retW_eq, tmc, q4]
    · simp [h0, retW_eq, Function.comp_def, ht, tmc, q4]
theorem sp_lpr (x : Pr) (V S D : List ByteArray) (b : Bool) (hw : x.wt ≤ 137438953472) (hV : V.length ≤ 1000) (hS : S.length ≤ 1000) (hD : D.length ≤ 1000) (hb : badP V S D x = false) :
    Am.Spec Try.prog 92 [.elt (lwC V S D b) 0, .agg (encPr x)] (.agg (encT (lowP V S D x))) := by
  have hlen := Pr.wts_len x.l
  have hwt := x.wt_eq
  rw [badP_eq] at hb
  simp only [Bool.or_eq_false_iff] at hb
  obtain ⟨hb1, hb2⟩ := hb
  have fin := sp_lpr_loop x V S D b (by omega) (fun y hy => sp_lpr y V S D b (by have := Pr.wts_mem hy; omega) hV hS hD (badPs_mem hb2 y hy))
  have cs : x.kind = 1 ∨ x.kind = 2 ∨ (x.kind = 3 ∨ x.kind = 4 ∨ x.kind = 5) ∨ x.kind = 6 ∨ x.kind = 9 ∨ x.kind = 13 ∨ (x.kind ≠ 1 ∧ x.kind ≠ 2 ∧ ¬ (x.kind = 3 ∨ x.kind = 4 ∨ x.kind = 5) ∧ x.kind ≠ 6 ∧ x.kind ≠ 9 ∧ x.kind ≠ 13) := by omega
  refine Am.Spec.of_W (W := W92) Try.func92 (by kernel_rfl) (by kernel_rfl) (by kernel_rfl) Try.ntmps92 W92_eq (rs := [.cell 4 34]) (by kernel_rfl) (by simp) ?_
  intro vs
  simp
  rcases cs with k | k | k | k | k | k | ⟨k1, k2, k3, k6, k9, k13⟩
  · simp [k]
    by_cases ht : x.to = ⟨#[]⟩
    · simp [ht, -W92_l4]
      exact fin (vs 3 + 1) (vs 4 + 1) (vs 5 + 1) _ _ _ (by simp [lwC]) (by simp [lprH, k, lowP0, tmc, isZ, eC, ht])
    · simp [badP0, k, ht] at hb1
      simp [ht, lwC]
      refine scall0_pure (sp_att V S D V b x.to (by omega) (by omega)) (by simp [lwC]) (by simp) ?_
      simp [-W92_l4]
      exact fin (vs 3 + 1) (vs 4 + 1) (vs 5 + 1) _ _ _ (by simp [lwC]) (by simp [lprH, k, lowP0, tmc, isZ, eC, ht])
  · simp [badP0, k] at hb1
    simp [k, lwC]
    refine scall0_pure (sp_att V S D V b x.to (by omega) (by omega)) (by simp [lwC]) (by simp) ?_
    simp [-W92_l4]
    refine scall0_pure (sp_lex x.e V S D b (by omega) hV hb1.2) (by simp [lwC]) (by simp) ?_
    simp [-W92_l4]
    exact fin (vs 3 + 1) (vs 4 + 1) (vs 5 + 1) _ _ _ (by simp [lwC]) (by simp [lprH, k, lowP0, tmc, isZ, eC, k])
  · rcases k with k | k | k
    · simp [badP0, k] at hb1
      simp [k, lwC]
      refine scall0_pure (sp_att V S D S b x.name (by omega) (by omega)) (by simp [lwC]) (by simp) ?_
      simp [-W92_l4]
      exact fin (vs 3 + 1) (vs 4 + 1) (vs 5 + 1) _ _ _ (by simp [lwC]) (by simp [lprH, k, lowP0, tmc, isZ, eC, k])
    · simp [badP0, k] at hb1
      simp [k, lwC]
      refine scall0_pure (sp_att V S D S b x.name (by omega) (by omega)) (by simp [lwC]) (by simp) ?_
      simp [-W92_l4]
      exact fin (vs 3 + 1) (vs 4 + 1) (vs 5 + 1) _ _ _ (by simp [lwC]) (by simp [lprH, k, lowP0, tmc, isZ, eC, k])
    · simp [badP0, k] at hb1
      simp [k, lwC]
      refine scall0_pure (sp_att V S D S b x.name (by omega) (by omega)) (by simp [lwC]) (by simp) ?_
      simp [-W92_l4]
      exact fin (vs 3 + 1) (vs 4 + 1) (vs 5 + 1) _ _ _ (by simp [lwC]) (by simp [lprH, k, lowP0, tmc, isZ, eC, k])
  · simp [badP0, k] at hb1
    simp [k, lwC]
    refine scall0_pure (sp_att V S D S b x.name (by omega) (by omega)) (by simp [lwC]) (by simp) ?_
    simp [-W92_l4]
    refine scall0_pure (sp_att V S D S b x.to (by omega) (by omega)) (by simp [lwC]) (by simp) ?_
    simp [-W92_l4]
    exact fin (vs 3 + 1) (vs 4 + 1) (vs 5 + 1) _ _ _ (by simp [lwC]) (by simp [lprH, k, lowP0, tmc, isZ, eC, k])
  · simp [badP0, k] at hb1
    simp [k]
    refine scall_pure (sp_lex x.e V S D b (by omega) hV hb1) (by simp) (by simp) ?_
    simp [-W92_l4]
    exact fin (vs 3 + 1) (vs 4 + 1) (vs 5 + 1) _ _ _ (by simp [lwC]) (by simp [lprH, k, lowP0, tmc, isZ, eC, k])
  · simp [badP0, k] at hb1
    simp [k, lwC]
    refine scall0_pure (sp_att V S D D b x.name (by omega) (by omega)) (by simp [lwC]) (by simp) ?_
    simp [-W92_l4]
    exact fin (vs 3 + 1) (vs 4 + 1) (vs 5 + 1) _ _ _ (by simp [lwC]) (by simp [lprH, k, lowP0, tmc, isZ, eC, k])
  · simp [k1, k2, k6, k9, k13, show ¬ x.kind = 3 by omega, show ¬ x.kind = 4 by omega, show ¬ x.kind = 5 by omega, -W92_l4]
    exact fin (vs 3 + 1) (vs 4 + 1) (vs 5 + 1) _ _ _ (by simp) (by simp [lprH, k1, k2, k3, k6, k9, k13, lowP0, tmc, isZ, eC])
termination_by SizeOf.sizeOf x
decreasing_by exact Pr.lt_of_mem hy
end Go.Proofs.Ytkagfenchknjjaa
set_option linter.unusedVariables false
set_option linter.unusedSimpArgs false
namespace Go.Proofs.Ytkagfenchknjjaa
open Go Go.Am Go.RowKit
attribute [local simp] W93 W93_rs W93_k1 W93_k6 W93_k7 W93_k8 W93_b2 W93_b3 W93_b4 W93_b25 W93_b27 W93_b29 W93_l5 W93_l26 W93_l28 W93_l30 W93_c9 W93_c10 W93_c11 W93_c12 W93_c13 W93_c14 W93_c15 W93_c16 W93_c17 W93_c18 W93_c19 W93_c20 W93_c21 W93_c22 W93_c23 W93_c24 W93_c31

theorem sp_rnd (p : Prog) (hv : p.vars.length ≤ 1000) (hn : p.procs.length = 5) (hok : ∀ d ∈ p.procs, d.body.okS = true ∧ d.body.wt ≤ 137438953472) : Am.Spec Try.prog 93 [.agg (encProg p)] (.bool p.round) := by
  have hfl : p.fronts.length = 5 := by simp [Prog.fronts, hn]
  have hM : okM p.fronts := by
    refine ⟨hfl, fun q hq => ?_⟩
    rw [List.getD_eq_getElem?_getD, List.getElem?_eq_getElem (by omega)]
    simp [Prog.fronts, Pr.front_len, hn]
  refine Am.Spec.of_W (W := W93) Try.func93 (by kernel_rfl) (by kernel_rfl) (by kernel_rfl) Try.ntmps93 W93_eq (rs := [.tmp 2]) (by kernel_rfl) (by simp) ?_
  intro vs
  simp
  refine scall_heap [] [(36, 36), (1000, 1000), (1001, 1001), (1002, 1002), (1003, 1003), (1004, 1004)] (hs_fro p hv hn hok) (by simp) (by simp) (by simp) ?_
  rintro r l' VS' ⟨w, l, hf, hr, hl'⟩
  obtain ⟨⟨a, ra⟩, ⟨b, rb'⟩, ⟨c, rc⟩, ⟨d, rd⟩, ⟨e, re⟩, rfl⟩ : ∃ x0 x1 x2 x3 x4, l = [x0, x1, x2, x3, x4] := by
    have := congrArg List.length hf
    rw [hfl] at this
    rcases l with _ | ⟨x0, _ | ⟨x1, _ | ⟨x2, _ | ⟨x3, _ | ⟨x4, _ | ⟨x5, l⟩⟩⟩⟩⟩⟩ <;> simp at this
    exact ⟨_, _, _, _, _, rfl⟩
  rw [hr, hl']
  refine ⟨by simp [grid, gb, gr], ?_⟩
  have hpr : p.round = diagF (rdK 5 5 p.fronts) 5 := by unfold Prog.round; rw [hn]
  rw [hpr]
  simp at hf
  simp [-W93_l30, grid, gb, gr]
  refine sLoop_intro (fun k => k ≤ 5) (fun k => 5 - k) (fun k => [(3, .ref 36 w .o), (4, .int .i64 5), (5, .int .i64 (k : Nat))]) (fun k => rndH (vs 1 + 1) w p ⟨a, b, c, d, e⟩ (rdK 5 k p.fronts)) 0 (by simp) (by simp) (by simp [rndH, rdK, ← hf]) ?_
  intro L k vt hk hL
  by_cases h : k < 5
  · have h' : (k : Int) < 5 := by omega
    have hm := okM_rdK hM 5 (by omega) k
    have hL3 := fun T H vs => hL T H vs (k + 1) h (by omega)
    rw [show rdK 5 (k + 1) p.fronts = rdI 5 k 5 (rdK 5 k p.fronts) from rfl] at hL3
    generalize rdK 5 k p.fronts = M' at *
    simp [-W93_l28, h']
    exact rnd_i (vs 1 + 1) w p ⟨a, b, c, d, e⟩ M' hm k h _ L hL3 _ _ _ (by simp) (by simp [rndH])
  · have e : k = 5 := by omega
    subst e
    have hm := okM_rdK hM 5 (by omega) 5
    generalize rdK 5 5 p.fronts = M' at *
    simp [-W93_l5]
    exact rnd_end (vs 1 + 1) w p ⟨a, b, c, d, e⟩ M' hm _ _ _ (by simp) (by simp [rndH])
end Go.Proofs.Ytkagfenchknjjaa
set_option linter.unusedVariables false
set_option linter.unusedSimpArgs false
namespace Go.Proofs.Ytkagfenchknjjaa
open Go Go.Am Go.RowKit
attribute [local simp] W70 W70_rs W70_b1 W70_b2 W70_b3 W70_b4 W70_b5 W70_b6 W70_b8 W70_b9 W70_b12 W70_b15 W70_b18 W70_b26 W70_c7 W70_c11 W70_c17 W70_c19 W70_c20 W70_c21 W70_c22 W70_c23 W70_c24 W70_c25 W70_c27 W70_c28 W70_c29 W70_c30 W70_c31 W70_c32 W70_c33 W70_c34 W70_k10 W70_k14 W70_l13 W70_l16

def pvs (p : Prog) : List Int := p.vars.map (·.2)
def lowTs (v1 v2 v6 v7 : Nat) : List (Nat × AV) := [(1, .ref 1 v1 (.p 0)), (2, .ref 2 v2 (.p 0)), (6, .ref 49 v6 (.p 0)), (7, .ref 7 v7 (.p 0))]
@[simp] theorem encI_nil : encI [] = [] := rfl
theorem encI_ne {l : List Int} (h : l ≠ []) : encI l ≠ [] := by simpa [encI] using h
def lowHv (p : Prog) (v1 v2 v6 v7 : Nat) (V : List Int) (w : Nat) : List (Nat × Blk) :=
  [(1, .box v1 69 (encProg p)), (2, .box v2 106 [.nils, .int .i64 0, .nils, .int .i64 0]), (49, .box v6 133 (lwC p.V p.stacks p.D false)),
    (7, .box v7 106 [rv 72 w (encI V), .int .i64 (p.stacks.length : Nat), .nils, .int .i64 0])] ++ rb 72 w 3 1 (encI V)
def ppr (p : Prog) : List Tm := p.procs.map fun d => lowP p.V p.stacks p.D d.body
def lowHp (p : Prog) (v1 v2 v6 v7 w w2 j : Nat) : List (Nat × Blk) :=
  [(1, .box v1 69 (encProg p)), (2, .box v2 106 [.nils, .int .i64 0, .nils, .int .i64 0]), (49, if j = 0 then .box v6 133 (lwC p.V p.stacks p.D false) else .fbox v6 (lwC p.V p.stacks p.D false)),
    (7, .box v7 106 [.ref 72 w .o, .int .i64 (p.stacks.length : Nat), rv 92 w2 (((ppr p).take j).map encT), .int .i64 0]), (72, .row w 3 1 (encI (pvs p)))] ++ rb 92 w2 34 9 (((ppr p).take j).map encT)
theorem low_procs (p : Prog) (hv : p.vars.length ≤ 20) (hn : p.procs.length = 5) (hok : ∀ d ∈ p.procs, d.body.okS = true ∧ d.body.wt ≤ 137438953472) (hs : p.stacks.length ≤ 10)
    (hb : ∀ d ∈ p.procs, badP p.V p.stacks p.D d.body = false) (hm : idxB p.D ⟨#[109, 97, 105, 110]⟩ = 0) (v1 v2 v6 v7 w : Nat) (T : List (Nat × AV)) (HL : List (Nat × Blk)) (VS : Nat → Nat)
    (hT : Am.subT T (lowTs v1 v2 v6 v7 ++ [(9, .int .i64 0)])) (hH : subA HL (lowHp p v1 v2 v6 v7 w 0 0)) :
    @sLoop ⟨Am.look T, hls HL VS, noG⟩ ⟨fun L0 s => W70_l13 Try.prog (retK Try.prog [.cell 2 106, .tmp 3] (.tup [.agg (encC (if p.round then .zero else p.core)), .int .i64 (if p.round then 7 else 0)])) L0 s⟩ := by
  have lV : p.V.length = p.vars.length := by simp [Prog.V]
  have lD : p.D.length = 5 := by simp [Prog.D, hn]
  have lp : (ppr p).length = 5 := by simp [ppr, hn]
  refine sLoop_intro (fun a : Nat × Nat => a.1 ≤ p.procs.length) (fun a => p.procs.length - a.1) (fun a => lowTs v1 v2 v6 v7 ++ [(9, .int .i64 (a.1 : Nat))])
    (fun a => lowHp p v1 v2 v6 v7 w a.2 a.1) (0, 0) (by simp) (by simpa using hT) (by simpa using hH) ?_
  clear hT hH
  rintro L ⟨i, w2⟩ vt hi hL
  simp only at hi hL ⊢
  by_cases h : i < p.procs.length
  · have h' : (i : Int) < p.procs.length := by omega
    have ht : (ppr p).take (i + 1) = (ppr p).take i ++ [lowP p.V p.stacks p.D p.procs[i].body] := take_map_succ (fun d : Dfn => lowP p.V p.stacks p.D d.body) p.procs i h
    have hspec := sp_lpr p.procs[i].body p.V p.stacks p.D false (hok _ (List.getElem_mem h)).2 (by omega) (by omega) (by omega) (hb _ (List.getElem_mem h))
    by_cases h0 : i = 0
    · subst h0
      simp [lowTs, lowHp, h, h', encProg, lwC]
      refine scall0_pureB hspec (by simp [lwC]) (by simp) ?_
      simp [encProg, lwC]
      rw [wrap64 (by omega) (by omega)]
      refine hL _ _ _ (1, vt 92 + 1) (by simp; omega) (by simp; omega) ?_ ?_
      · simp [lowTs]
      · show subA _ (lowHp p _ _ _ _ _ _ (0 + 1)); unfold lowHp; rw [ht]; simp [encProg, lwC, rb, rv, encI]
    · have hne : ((ppr p).take i).map encT ≠ [] := by
        intro e
        have := congrArg List.length e
        rw [List.length_map, List.length_take, List.length_nil, lp] at this
        omega
      rw [List.map_take] at hne
      have hmin : min i (ppr p).length = i := by omega
      simp [lowTs, lowHp, h, h', h0, encProg, lwC, rv_ne hne, rb_ne hne]
      refine scall0_pureB hspec (by simp [lwC]) (by simp) ?_
      simp [encProg, lwC]
      rw [hmin, decide_eq_true (by omega)]
      simp
      rw [wrap64 (by omega) (by omega)]
      refine hL _ _ _ (i + 1, w2 + 1) (by simp; omega) (by simp; omega) ?_ ?_
      · simp [lowTs]
      · show subA _ (lowHp p _ _ _ _ _ _ (i + 1)); unfold lowHp; rw [ht]; simp [encProg, lwC, rb, rv, encI]
  · have h' : ¬ (i : Int) < p.procs.length := by omega
    have e : (ppr p).take i = (ppr p) := List.take_of_length_le (by omega)
    have h0 : i ≠ 0 := by omega
    have hne : (ppr p).map encT ≠ [] := by
      intro e
      have := congrArg List.length e
      rw [List.length_map, List.length_nil, lp] at this
      omega
    simp [h, h', h0, lowTs, lowHp, encProg, lwC, e, rv_ne hne, rb_ne hne]
    refine scall_pure (sp_rnd p (by omega) hn hok) (by simp [encProg]) (by simp [encProg]) ?_
    cases hr : p.round
    · simp [retW_eq, encC, Prog.core, ppr, pvs, hm]
    · simp [retW_eq, encC, Cor.zero]
theorem sp_low (p : Prog) (hv : p.vars.length ≤ 20) (hv0 : p.vars ≠ []) (hs : p.stacks.length ≤ 10) (hn : p.procs.length = 5) (hok : ∀ d ∈ p.procs, d.body.okS = true ∧ d.body.wt ≤ 137438953472)
    (t1 : twB p.V = false) (t2 : twB p.stacks = false) (t3 : twB p.D = false) (hb : ∀ d ∈ p.procs, badP p.V p.stacks p.D d.body = false) (hm : idxB p.D ⟨#[109, 97, 105, 110]⟩ = 0) :
    Am.Spec Try.prog 70 [.agg (encProg p)] (.tup [.agg (encC (if p.round then .zero else p.core)), .int .i64 (if p.round then 7 else 0)]) := by
  have lV : p.V.length = p.vars.length := by simp [Prog.V]
  have lv : (pvs p).length = p.vars.length := by simp [pvs]
  have lD : p.D.length = 5 := by simp [Prog.D, hn]
  have e1 : ¬ (20 : Int) < p.vars.length := by omega
  have e2 : ¬ (10 : Int) < p.stacks.length := by omega
  have e3 : ¬ (20 : Int) < p.procs.length := by omega
  refine Am.Spec.of_W (W := W70) Try.func70 (by kernel_rfl) (by kernel_rfl) (by kernel_rfl) Try.ntmps70 W70_eq (rs := [.cell 2 106, .tmp 3]) (by kernel_rfl) (by simp) ?_
  intro vs
  simp [encProg, e1, e2, e3]
  refine scall_pure (sp_nms p (by omega) (by omega)) (by simp [encProg]) (by simp [encProg]) ?_
  simp [encProg, e1, e2, e3]
  refine scall_pure (sp_twc p.V (by omega)) (by simp) (by simp) ?_
  simp [encProg, t1]
  refine scall_pure (sp_twc p.stacks (by omega)) (by simp) (by simp) ?_
  simp [encProg, t2]
  refine scall_pure (sp_twc p.D (by omega)) (by simp) (by simp) ?_
  simp [encProg, t3]
  refine scall0_pure (sp_fnd p.D ⟨#[109, 97, 105, 110]⟩ (by omega)) (by simp) (by simp) ?_
  simp [encProg, hm]
  refine sLoop_intro (fun a : Nat × Nat => a.1 ≤ p.vars.length) (fun a => p.vars.length - a.1) (fun a => lowTs (vs 1 + 1) (vs 2 + 1) (vs 49 + 1) (vs 7 + 1) ++ [(8, .int .i64 (a.1 : Nat))])
    (fun a => lowHv p (vs 1 + 1) (vs 2 + 1) (vs 49 + 1) (vs 7 + 1) ((pvs p).take a.1) a.2) (0, 0) (by simp) (by simp [lowTs]) (by simp [lowHv, encProg, lwC]) ?_
  rintro L ⟨i, w⟩ vt hi hL
  simp only at hi hL ⊢
  by_cases h : i < p.vars.length
  · have h' : (i : Int) < p.vars.length := by omega
    have ht : (pvs p).take (i + 1) = (pvs p).take i ++ [p.vars[i].2] := take_map_succ (fun x : ByteArray × Int => x.2) p.vars i h
    by_cases h0 : i = 0
    · subst h0
      simp [lowTs, lowHv, h, h', encProg, lwC]
      rw [wrap64 (by omega) (by omega)]
      refine hL _ _ _ (1, vt 72 + 1) (by simp; omega) (by simp; omega) ?_ ?_
      · simp [lowTs]
      · show subA _ (lowHv p _ _ _ _ ((pvs p).take (0 + 1)) _); rw [ht]; simp [lowHv, encProg, lwC, rb, rv, encI]
    · have hne : (pvs p).take i ≠ [] := by
        intro e
        have := congrArg List.length e
        rw [List.length_take, List.length_nil, lv] at this
        omega
      have hmin : min i (pvs p).length = i := by omega
      simp [lowTs, lowHv, h, h', encProg, lwC, rv_ne (encI_ne hne), rb_ne (encI_ne hne)]
      rw [hmin, decide_eq_true (by omega)]
      simp
      rw [wrap64 (by omega) (by omega)]
      refine hL _ _ _ (i + 1, w + 1) (by simp; omega) (by simp; omega) ?_ ?_
      · simp [lowTs]
      · show subA _ (lowHv p _ _ _ _ ((pvs p).take (i + 1)) _); rw [ht]; simp [lowHv, encProg, lwC, rb, rv, encI]
  · have h' : ¬ (i : Int) < p.vars.length := by omega
    have e : (pvs p).take i = (pvs p) := List.take_of_length_le (by omega)
    rw [e]
    have hne : pvs p ≠ [] := fun e => by have := congrArg List.length e; rw [lv] at this; exact hv0 (List.eq_nil_of_length_eq_zero (by simpa using this))
    simp [h, h', lowTs, lowHv, encProg, lwC, rv_ne (encI_ne hne), rb_ne (encI_ne hne), -W70_l13]
    exact low_procs p hv hn hok hs hb hm (vs 1 + 1) (vs 2 + 1) (vs 49 + 1) (vs 7 + 1) w _ _ _ (by simp [lowTs]) (by simp [lowHp, encProg, lwC])
end Go.Proofs.Ytkagfenchknjjaa
