import Derived.Test.YtkagfenchknjjaaGC11
import Derived.Test.YtkagfenchknjjaaGQ7
import Derived.Test.YtkagfenchknjjaaGE12
import Derived.Test.YtkagfenchknjjaaGD14
set_option linter.unusedVariables false
set_option linter.unusedSimpArgs false
namespace Go.Proofs.Ytkagfenchknjjaa
open Go Go.Am Go.RowKit
attribute [local simp] W76 W76_rs W76_b1 W76_b3 W76_b16 W76_b18 W76_k2 W76_c4 W76_c5 W76_c6 W76_c7 W76_c8 W76_c9 W76_c10 W76_c11 W76_c12 W76_c13 W76_c14 W76_c15 W76_c19 W76_c20 W76_c21 W76_c22 W76_c23 W76_l17 W79 W79_rs W79_k1 W79_k2 W79_k3 W79_b4 W79_b5 W79_b6 W79_b8 W79_b26 W79_l7 W79_l30 W79_c9 W79_c10 W79_c11 W79_c12 W79_c13 W79_c14 W79_c15 W79_c16 W79_c17 W79_c18 W79_c19 W79_c20 W79_c21 W79_c22 W79_c23 W79_c24 W79_c25 W79_c27 W79_c28 W79_c29 W54 W54_rs W54_b1 W54_b3 W54_b4 W54_b6 W54_b8 W54_k2 W54_c5 W54_c9 W54_c10 W54_c11 W54_c12 W54_c13 W54_l7

/-! ### Names -/
theorem tailOk_step (s : ByteArray) (i : Nat) (h : i < s.size) : tailOk s i = (byteOk s i && tailOk s (i + 1)) := by
  unfold tailOk
  rw [show s.size - i = (s.size - (i + 1)) + 1 by omega, List.range_succ_eq_map, List.all_cons, List.all_map, Nat.add_zero]
  congr 1
  apply List.all_congr rfl
  intro j
  simp only [Function.comp]
  rw [show i + (j + 1) = i + 1 + j by omega]
theorem tailOk_end (s : ByteArray) (i : Nat) (h : s.size ≤ i) : tailOk s i = true := by
  unfold tailOk
  rw [show s.size - i = 0 by omega]
  rfl
theorem dec_small (s : ByteArray) (i : Nat) (h : (s.get! i).toNat < 128) : Utf8.decode s i = ((s.get! i).toNat, 1) := by
  simp [Utf8.decode, h]
theorem dec_big (s : ByteArray) (i : Nat) (h : ¬ (s.get! i).toNat < 128) : 127 < (Utf8.decode s i).1 := by
  have hr : Utf8.runeError = 65533 := rfl
  unfold Utf8.decode
  simp only [Nat.add_zero]
  rw [if_neg h]
  repeat' split
  all_goals first
    | (simp only [hr]; omega)
    | (simp_all; omega)
theorem isInner_lt (c : Nat) (h : ¬ c < 128) : isInner c = false := by
  unfold isInner isSmall isDigit
  simp
  omega
theorem wrap_u8 (c : Nat) (h : c < 128) : IntKind.wrap .u8 (c : Int) = (c : Int) := by
  have e : IntKind.wrap .u8 (c : Int) = (c : Int) % 256 := rfl
  rw [e]
  omega
theorem sp_name (s : ByteArray) : Am.Spec Try.prog 76 [.str s] (.bool (nameOk s)) := by
  by_cases h1 : 1 ≤ s.size
  · by_cases h2 : s.size ≤ 20
    · have hk := sp_key s
      rw [show nameOk s = (!isKey s && tailOk s 0) by simp [nameOk, h1, h2]]
      generalize isKey s = kk at *
      have h1' : ¬ (s.size : Int) < 1 := by omega
      have h2' : ¬ (20 : Int) < s.size := by omega
      cases kk
      · refine Am.Spec.of_W (W := W76) Try.func76 (by kernel_rfl) (by kernel_rfl) (by kernel_rfl) Try.ntmps76 W76_eq (rs := [.tmp 2]) (by kernel_rfl) (by simp) ?_
        intro vs
        simp [h1', h2']
        refine scall_pure hk (by simp) (by simp) ?_
        simp [h1', h2']
        refine sLoop_intro (fun i => i ≤ s.size ∧ tailOk s 0 = tailOk s i) (fun i => s.size - i) (fun i => [(18, .ref 18 (vs 18 + 1) (.p 0))]) (fun i => [(18, .obj (vs 18 + 1) (.siter s i))]) 0 (by simp) (by simp) (by simp) ?_
        rintro L i vt ⟨hi, hj⟩ hL
        by_cases h : i < s.size
        · have hst := tailOk_step s i h
          by_cases hb : (s.get! i).toNat < 128
          · have hd := dec_small s i hb
            have s1 := sp_sm (s.get! i).toNat
            have i1 := sp_inn (s.get! i).toNat
            have hB : byteOk s i = (isInner (s.get! i).toNat && (decide (0 < i) || isSmall (s.get! i).toNat)) := rfl
            have hbi : ¬ (127 : Int) < ((s.get! i).toNat : Int) := by omega
            have hw : IntKind.wrap .u8 ((s.get! i).toNat : Int) = ((s.get! i).toNat : Int) := by
              exact wrap_u8 _ hb
            generalize (s.get! i).toNat = c at *
            generalize isSmall c = a1 at *
            generalize isInner c = a2 at *
            by_cases h0 : i = 0
            · subst h0
              rw [hj, hst, hB]
              simp [h, hd, hbi, hw]
              refine scall_pure s1 (by simp) (by simp) ?_
              cases a1
              · simp [hw, retW_eq]
              · simp [hw]
                refine scall_pure i1 (by simp) (by simp) ?_
                cases a2
                · simp [hw, retW_eq]
                · simp [hw]
                  exact hL _ _ _ 1 ⟨by omega, by rw [hj, hst, hB]; simp⟩ (by omega) (by simp) (by simp)
            · rw [hj, hst, hB]
              have h0' : 0 < i := by omega
              simp [h, hd, hbi, hw, h0]
              refine scall_pure i1 (by simp) (by simp) ?_
              cases a2
              · simp [hw, retW_eq]
              · simp [hw]
                exact hL _ _ _ (i + 1) ⟨by omega, by rw [hj, hst, hB]; simp [h0']⟩ (by omega) (by simp) (by simp)
          · have hd := dec_big s i hb
            have hf : byteOk s i = false := by unfold byteOk; rw [isInner_lt _ hb]; rfl
            have hd' : (127 : Int) < (((Utf8.decode s i).1 : Nat) : Int) := by omega
            rw [hj, hst, hf]
            simp [h, hd', retW_eq]
        · rw [hj, tailOk_end s i (by omega)]
          simp [h, retW_eq]
      · refine Am.Spec.of_W (W := W76) Try.func76 (by kernel_rfl) (by kernel_rfl) (by kernel_rfl) Try.ntmps76 W76_eq (rs := [.tmp 2]) (by kernel_rfl) (by simp) ?_
        intro vs
        simp [h1', h2']
        refine scall_pure hk (by simp) (by simp) ?_
        simp [h1', h2', retW_eq]
    · have h2' : (20 : Int) < s.size := by omega
      have h1' : ¬ (s.size : Int) < 1 := by omega
      rw [show nameOk s = false by simp [nameOk, h2]]
      refine Am.Spec.of_W (W := W76) Try.func76 (by kernel_rfl) (by kernel_rfl) (by kernel_rfl) Try.ntmps76 W76_eq (rs := [.tmp 2]) (by kernel_rfl) (by simp) ?_
      intro vs
      simp [h1', h2', retW_eq]
  · have h1' : (s.size : Int) < 1 := by omega
    rw [show nameOk s = false by simp [nameOk, h1]]
    refine Am.Spec.of_W (W := W76) Try.func76 (by kernel_rfl) (by kernel_rfl) (by kernel_rfl) Try.ntmps76 W76_eq (rs := [.tmp 2]) (by kernel_rfl) (by simp) ?_
    intro vs
    simp [h1', retW_eq]

def keysB : ByteArray := ⟨#[32, 118, 97, 114, 32, 115, 116, 97, 99, 107, 32, 112, 114, 111, 99, 32, 115, 107, 105, 112, 32, 100, 111, 32, 112, 117, 115, 104, 32, 114, 101, 118, 101, 114, 115, 101, 32, 97, 99, 99, 101, 112, 116, 32, 109, 101, 114, 103, 101, 32, 98, 108, 111, 99, 107, 32, 101, 120, 105, 116, 32, 105, 102, 32, 101, 108, 115, 101, 32, 99, 104, 111, 111, 115, 101, 32, 112, 97, 114, 32, 99, 97, 108, 108, 32]⟩
theorem keysB_size : keysB.size = 85 := rfl
def hit (s : ByteArray) (i : Nat) : Prop := keysB[i]? = some 32 ∧ keysB[i + s.size + 1]? = some 32 ∧ keysB.extract (i + 1) (i + 1 + s.size) = s
theorem hit_none (s : ByteArray) (h : ∀ j, j + s.size + 2 ≤ 85 → ¬ hit s j) : isKey s = false := by
  have key : ∀ w ∈ words, ∃ j, j < 85 ∧ j + w.size + 2 ≤ 85 ∧ hit w j := by unfold hit; decide +kernel
  unfold isKey
  rw [decide_eq_false]
  intro h0
  obtain ⟨j, -, h1, h2⟩ := key s ((idxB_mem words s).1 h0)
  exact h j h1 h2
theorem hit_space (s : ByteArray) (i : Nat) (hi : i < s.size) (h : s.get! i = 32) : isKey s = false := by
  have key : ∀ w ∈ words, ∀ j, j < w.size → ¬ w.get! j = 32 := by decide +kernel
  unfold isKey
  rw [decide_eq_false]
  intro h0
  exact key s ((idxB_mem words s).1 h0) i hi h
theorem hit_key (s : ByteArray) (i : Nat) (hz : s.size ≤ 20) (h0 : 0 < s.size) (hi : i + s.size + 2 ≤ 85) (h : hit s i) (hs : ∀ j, j < s.size → ¬ s.get! j = 32) : isKey s = true := by
  have key : ((List.range 85).all fun i => (List.range 21).all fun n => !(decide (0 < n) && (decide (i + n + 2 ≤ 85) && (decide (keysB[i]? = some 32) && decide (keysB[i + n + 1]? = some 32)))) || ((List.range n).any fun j => decide ((keysB.extract (i + 1) (i + 1 + n)).get! j = 32)) || (words.any fun w => decide (w = keysB.extract (i + 1) (i + 1 + n)))) = true := by decide +kernel
  obtain ⟨h1, h2, h3⟩ := h
  have := List.all_eq_true.1 (List.all_eq_true.1 key i (by simp; omega)) s.size (by simp; omega)
  rw [h3, decide_eq_true h0, decide_eq_true hi, decide_eq_true h1, decide_eq_true h2] at this
  have hn : ((List.range s.size).any fun j => decide (s.get! j = 32)) = false := by
    rw [List.any_eq_false]
    intro j hj
    simpa using hs j (by simpa using hj)
  rw [hn] at this
  have hm : s ∈ words := by
    simp only [Bool.and_self, Bool.not_true, Bool.false_or] at this
    obtain ⟨w, hw, e⟩ := List.any_eq_true.1 this
    exact of_decide_eq_true e ▸ hw
  unfold isKey
  rw [decide_eq_true ((idxB_mem words s).2 hm)]
theorem get_of (s : ByteArray) (i : Nat) (h : i < s.size) : s[i]? = some (s.get! i) := by
  rw [getElem?_pos s i h]
  refine congrArg some ?_
  show s.data[i] = s.data[i]!
  exact (getElem!_pos s.data i h).symm
theorem sp_rky (s : ByteArray) (hs : s.size ≤ 20) : Am.Spec Try.prog 79 [.str s] (.bool (isKey s)) := by
  have hK : (⟨#[32, 118, 97, 114, 32, 115, 116, 97, 99, 107, 32, 112, 114, 111, 99, 32, 115, 107, 105, 112, 32, 100, 111, 32, 112, 117, 115, 104, 32, 114, 101, 118, 101, 114, 115, 101, 32, 97, 99, 99, 101, 112, 116, 32, 109, 101, 114, 103, 101, 32, 98, 108, 111, 99, 107, 32, 101, 120, 105, 116, 32, 105, 102, 32, 101, 108, 115, 101, 32, 99, 104, 111, 111, 115, 101, 32, 112, 97, 114, 32, 99, 97, 108, 108, 32]⟩ : ByteArray) = keysB := rfl
  have hsz := keysB_size
  have h0 := hit_none s
  have h1 := hit_space s
  have h2 := hit_key s
  refine Am.Spec.of_W (W := W79) Try.func79 (by kernel_rfl) (by kernel_rfl) (by kernel_rfl) Try.ntmps79 W79_eq (rs := [.tmp 2]) (by kernel_rfl) (by simp) ?_
  intro vs
  simp
  refine sLoop_intro (fun i => i ≤ 85 ∧ ∀ j, j < i → ¬ hit s j) (fun i => 85 - i) (fun i => [(0, .str s), (3, .int .i64 (i : Nat))]) (fun i => []) 0 (by simp) (by simp) (by simp) ?_
  rintro L i vt ⟨hi, hj⟩ hL
  have w1 : IntKind.wrap .i64 ((i : Int) + s.size) = (i : Int) + s.size := wrap64 (by omega) (by omega)
  have w2 : IntKind.wrap .i64 ((i : Int) + s.size + 2) = (i : Int) + s.size + 2 := wrap64 (by omega) (by omega)
  by_cases c1 : (i : Int) + s.size + 2 ≤ 85
  · by_cases c2 : 0 < s.size
    · have g1 := get_of keysB i (by omega)
      have g2 := get_of keysB (i + s.size + 1) (by omega)
      have w3 : IntKind.wrap .i64 ((i : Int) + s.size + 1) = (i : Int) + s.size + 1 := wrap64 (by omega) (by omega)
      have w4 : IntKind.wrap .i64 ((i : Int) + 1) = (i : Int) + 1 := wrap64 (by omega) (by omega)
      have w5 : IntKind.wrap .i64 ((i : Int) + 1 + s.size) = (i : Int) + 1 + s.size := wrap64 (by omega) (by omega)
      have k1 : sixV (.str keysB) (.int .i64 (i : Nat)) = some (.int .u8 (keysB.get! i).toNat) := by simp [sixV, g1]
      have k2 : sixV (.str keysB) (.int .i64 ((i : Int) + s.size + 1)) = some (.int .u8 (keysB.get! (i + s.size + 1)).toNat) := by
        rw [show (i : Int) + s.size + 1 = ((i + s.size + 1 : Nat) : Int) by omega]
        simp only [sixV, Int.toNat_natCast, g2]; rw [decide_eq_true (by omega)]; rfl
      have k3 : sslV keysB (some (.i64, (i : Int) + 1)) (some (.i64, (i : Int) + 1 + s.size)) = some (.str (keysB.extract (i + 1) (i + 1 + s.size))) := by
        rw [show (i : Int) + 1 + s.size = ((i + 1 + s.size : Nat) : Int) by omega, show (i : Int) + 1 = ((i + 1 : Nat) : Int) by omega]
        simp only [sslV, Option.map_some, Option.getD_some, Int.toNat_natCast]
        rw [decide_eq_true (by omega)]; rfl
      have hh : hit s i ↔ keysB[i]? = some 32 ∧ keysB[i + s.size + 1]? = some 32 ∧ keysB.extract (i + 1) (i + 1 + s.size) = s := Iff.rfl
      rw [g1, g2] at hh
      have next : ¬ hit s i → (i + 1) ≤ 85 ∧ ∀ j, j < i + 1 → ¬ hit s j := fun hn => ⟨by omega, fun j hj' => by
        by_cases e : j = i
        · rw [e]; exact hn
        · exact hj j (by omega)⟩
      have en : (i : Int) + 1 = ((i + 1 : Nat) : Int) := by omega
      by_cases d1 : (keysB.get! i).toNat = 32
      · have d1' : ((keysB.get! i).toNat : Int) = 32 := by omega
        by_cases d2 : (keysB.get! (i + s.size + 1)).toNat = 32
        · have d2' : ((keysB.get! (i + s.size + 1)).toNat : Int) = 32 := by omega
          by_cases d3 : keysB.extract (i + 1) (i + 1 + s.size) = s
          · have hhit : hit s i := hh.2 ⟨by rw [show keysB.get! i = 32 from UInt8.toNat_inj.1 d1], by rw [show keysB.get! (i + s.size + 1) = 32 from UInt8.toNat_inj.1 d2], d3⟩
            have h2' := h2 i hs (by omega) (by omega) hhit
            simp [-W79_l7, hK, w1, w2, w3, w4, w5, c1, c2, k1, k2, k3, d1, d2, d3]
            refine sLoop_intro (fun k => k ≤ s.size ∧ ∀ j, j < k → ¬ s.get! j = 32) (fun k => s.size - k) (fun k => [(0, .str s), (4, .int .i64 (k : Nat))]) (fun i => []) 0 (by simp) (by simp) (by simp) ?_
            rintro L2 k vt ⟨hk, hkj⟩ hL2
            by_cases c3 : k < s.size
            · have g3 := get_of s k c3
              have k4 : sixV (.str s) (.int .i64 (k : Nat)) = some (.int .u8 (s.get! k).toNat) := by simp [sixV, g3]
              have w6 : IntKind.wrap .i64 ((k : Int) + 1) = (k : Int) + 1 := wrap64 (by omega) (by omega)
              by_cases d4 : (s.get! k).toNat = 32
              · have d4' : ((s.get! k).toNat : Int) = 32 := by omega
                rw [h1 k c3 (UInt8.toNat_inj.1 d4)]
                simp [c3, k4, d4', d4, retW_eq]
              · have d4' : ¬ ((s.get! k).toNat : Int) = 32 := by omega
                simp [c3, k4, d4', d4, w6]
                exact hL2 _ _ _ (k + 1) ⟨by omega, fun j hj' => by
                  by_cases e : j = k
                  · rw [e]; exact fun e => d4 (by rw [e]; rfl)
                  · exact hkj j (by omega)⟩ (by omega) (by simp) (by simp)
            · rw [h2' fun j hj' => hkj j (by omega)]
              simp [c3, retW_eq]
          · simp [-W79_l7, hK, w1, w2, w3, w4, w5, c1, c2, k1, k2, k3, d1, d2, d3]
            exact hL _ _ _ (i + 1) (next fun h => d3 (hh.1 h).2.2) (by omega) (by simp) (by simp)
        · have d2' : ¬ ((keysB.get! (i + s.size + 1)).toNat : Int) = 32 := by omega
          simp [-W79_l7, hK, w1, w2, w3, w4, w5, c1, c2, k1, k2, k3, d1, d2, d2']
          exact hL _ _ _ (i + 1) (next fun h => d2 (by rw [Option.some.inj (hh.1 h).2.1]; rfl)) (by omega) (by simp) (by simp)
      · have d1' : ¬ ((keysB.get! i).toNat : Int) = 32 := by omega
        simp [-W79_l7, hK, w1, w2, w3, w4, w5, c1, c2, k1, k2, k3, d1, d1']
        exact hL _ _ _ (i + 1) (next fun h => d1 (by rw [Option.some.inj (hh.1 h).1]; rfl)) (by omega) (by simp) (by simp)
    · rw [show isKey s = false by
        have : s = ⟨#[]⟩ := by
          obtain ⟨⟨l⟩⟩ := s
          have : l.length = 0 := by simpa [ByteArray.size] using c2
          rw [List.eq_nil_of_length_eq_zero this]
        rw [this]; decide +kernel]
      simp [-W79_l7, w1, w2, c1, c2, retW_eq]
  · rw [h0 fun j hj' => hj j (by omega)]
    simp [-W79_l7, w1, w2, c1, retW_eq]
theorem sp_rnm (s : ByteArray) : Am.Spec Try.prog 54 [.str s] (.bool (nameOk s)) := by
  by_cases h1 : 1 ≤ s.size
  · by_cases h2 : s.size ≤ 20
    · have hk := sp_rky s h2
      rw [show nameOk s = (!isKey s && tailOk s 0) by simp [nameOk, h1, h2]]
      generalize isKey s = kk at *
      have h1' : ¬ (s.size : Int) < 1 := by omega
      have h2' : ¬ (20 : Int) < s.size := by omega
      cases kk
      · refine Am.Spec.of_W (W := W54) Try.func54 (by kernel_rfl) (by kernel_rfl) (by kernel_rfl) Try.ntmps54 W54_eq (rs := [.tmp 2]) (by kernel_rfl) (by simp) ?_
        intro vs
        simp [h1', h2']
        refine scall_pure hk (by simp) (by simp) ?_
        simp [h1', h2']
        refine sLoop_intro (fun i => i ≤ s.size ∧ tailOk s 0 = tailOk s i) (fun i => s.size - i) (fun i => [(0, .str s), (3, .int .i64 (i : Nat))]) (fun i => []) 0 (by simp) (by simp) (by simp) ?_
        rintro L i vt ⟨hi, hj⟩ hL
        by_cases h : i < s.size
        · have hst := tailOk_step s i h
          have g3 := get_of s i h
          have k4 : sixV (.str s) (.int .i64 (i : Nat)) = some (.int .u8 (s.get! i).toNat) := by simp [sixV, g3]
          have w6 : IntKind.wrap .i64 ((i : Int) + 1) = (i : Int) + 1 := wrap64 (by omega) (by omega)
          have sw := sp_wd (s.get! i).toNat (decide ((i : Int) = 0))
          have hB : byteOk s i = (isSmall (s.get! i).toNat || (!(decide ((i : Int) = 0)) && (isDigit (s.get! i).toNat || decide (((s.get! i).toNat : Int) = 95)))) := by
            have h0 : decide (0 < i) = !decide ((i : Int) = 0) := by
              by_cases h0 : i = 0
              · simp [h0]
              · have : 0 < i := by omega
                simp [h0, this]
            unfold byteOk isInner
            rw [h0]
            generalize isSmall (s.get! i).toNat = a1
            generalize isDigit (s.get! i).toNat = a2
            cases a1 <;> simp [Bool.and_comm]
          rw [← hB] at sw
          rw [hj, hst]
          generalize byteOk s i = bb at *
          simp [h, k4]
          refine scall_pure sw (by simp) (by simp) ?_
          cases bb
          · simp [retW_eq]
          · simp [w6]
            exact hL _ _ _ (i + 1) ⟨by omega, by rw [hj, hst]; simp⟩ (by omega) (by simp) (by simp)
        · rw [hj, tailOk_end s i (by omega)]
          simp [h, retW_eq]
      · refine Am.Spec.of_W (W := W54) Try.func54 (by kernel_rfl) (by kernel_rfl) (by kernel_rfl) Try.ntmps54 W54_eq (rs := [.tmp 2]) (by kernel_rfl) (by simp) ?_
        intro vs
        simp [h1', h2']
        refine scall_pure hk (by simp) (by simp) ?_
        simp [h1', h2', retW_eq]
    · have h2' : (20 : Int) < s.size := by omega
      have h1' : ¬ (s.size : Int) < 1 := by omega
      rw [show nameOk s = false by simp [nameOk, h2]]
      refine Am.Spec.of_W (W := W54) Try.func54 (by kernel_rfl) (by kernel_rfl) (by kernel_rfl) Try.ntmps54 W54_eq (rs := [.tmp 2]) (by kernel_rfl) (by simp) ?_
      intro vs
      simp [h1', h2', retW_eq]
  · have h1' : (s.size : Int) < 1 := by omega
    rw [show nameOk s = false by simp [nameOk, h1]]
    refine Am.Spec.of_W (W := W54) Try.func54 (by kernel_rfl) (by kernel_rfl) (by kernel_rfl) Try.ntmps54 W54_eq (rs := [.tmp 2]) (by kernel_rfl) (by simp) ?_
    intro vs
    simp [h1', retW_eq]
end Go.Proofs.Ytkagfenchknjjaa
set_option linter.unusedVariables false
set_option linter.unusedSimpArgs false
namespace Go.Proofs.Ytkagfenchknjjaa
open Go Go.Am Go.RowKit
attribute [local simp] W109 W109_rs W109_b1 W109_b3 W109_b4 W109_b6 W109_b8 W109_k2 W109_c5 W109_c9 W109_l7 W108 W108_rs W108_c1 W98 W98_rs W77 W77_rs W77_k1 W77_b2 W77_b3 W77_b29 W77_c4 W77_c5 W77_c6 W77_c7 W77_c8 W77_c9 W77_c10 W77_c11 W77_c12 W77_c13 W77_c14 W77_c15 W77_c16 W77_c17 W77_c18 W77_c19 W77_c20 W77_c21 W77_c22 W77_c23 W77_c24 W77_c25 W77_c26 W77_c27 W77_c28 W77_c30 W77_c31 W77_c32 W77_c33 W77_c34 W77_c35 W77_c36 W77_c37 W77_c38 W77_c39 W77_c40 W77_c41 W77_c42 W77_c44 W77_r43 W55 W55_rs W55_b1 W55_b3 W55_b4 W55_b6 W55_b8 W55_b15 W55_b20 W55_b29 W55_b30 W55_b31 W55_b35 W55_b39 W55_b40 W55_b41 W55_k2 W55_k14 W55_c5 W55_c9 W55_c10 W55_c11 W55_c12 W55_c13 W55_c16 W55_c17 W55_c18 W55_c19 W55_c21 W55_c22 W55_c23 W55_c24 W55_c25 W55_c26 W55_c27 W55_c28 W55_c32 W55_c33 W55_c34 W55_c36 W55_c37 W55_c38 W55_l7

theorem sp_ewk (t : Ex) (hw : Ex.lok t) : Am.SpecY Try.prog 109 [.agg (encE t), .yld] ((Ex.pre t).map fun x => [.agg (encE x)]) (.bool true) (.bool false) := by
  have hl := Ex.lok_len hw
  refine Am.SpecY.of_W (W := W109) Try.func109 (by kernel_rfl) (by kernel_rfl) (by kernel_rfl) Try.ntmps109 W109_eq (rs := [.tmp 4]) (by kernel_rfl) (by simp) rfl rfl ?_
  intro vs rest
  rw [Ex.pre_eq]
  simp [-W109_l7]
  refine scall_yield _ (by simp) rfl (by simp) fun b => ?_
  cases b
  · simp [retYW]
  · simp [-W109_l7]
    refine sLoop_introG (fun i => i ≤ t.l.length) (fun i => t.l.length - i) (fun i => [(1, .yld), (12, .sl (t.l.map encE)), (13, .int .i64 t.l.length), (14, .int .i64 (i : Nat))]) (fun _ => []) (fun i => ⟨(Ex.pres (t.l.drop i)).map (fun x => [.agg (encE x)]) ++ rest, false⟩) 0 (by simp) (by simp) (by simp) (by simp) ?_
    intro K i vu hi hK
    by_cases h : i < t.l.length
    · have hx := List.getElem_mem h
      rw [Ex.pres_drop t.l i h]
      simp [h]
      refine scall_ylds ((Ex.pres (t.l.drop (i + 1))).map (fun x => [.agg (encE x)]) ++ rest) (sp_ewk t.l[i] (Ex.lok_mem hw hx)) (by simp) (by simp) (by simp) ?_ fun q => ?_
      · simp
        rw [wrap64 (by omega) (by omega)]
        exact hK _ _ _ _ (i + 1) h (by omega) (by simp) (by simp) rfl
      · simp [retYW]
    · have : t.l.drop i = [] := List.drop_of_length_le (by omega)
      rw [this]
      simp [h, retYW, Ex.pres]
termination_by SizeOf.sizeOf t
decreasing_by exact Ex.lt_of_mem hx
theorem sp_ea1 (t : Ex) (hw : Ex.lok t) : Am.SpecY Try.prog 108 [.yld, .elt (encE t) 0] ((Ex.pre t).map fun x => [.agg (encE x)]) (.tup []) (.tup []) := by
  refine Am.SpecY.of_W (W := W108) Try.func108 (by kernel_rfl) (by kernel_rfl) (by kernel_rfl) Try.ntmps108 W108_eq (rs := []) (by kernel_rfl) (by simp) rfl rfl ?_
  intro vs rest
  simp
  refine scall_ylds rest (sp_ewk t hw) (by simp) (by simp) (by simp) ?_ fun q => ?_
  · simp [retYW]
  · simp [retYW]
theorem sp_eal (t : Ex) : Am.Spec Try.prog 98 [.agg (encE t)] (.func 108 [.elt (encE t) 0]) := by
  refine Am.Spec.of_W (W := W98) Try.func98 (by kernel_rfl) (by kernel_rfl) (by kernel_rfl) Try.ntmps98 W98_eq (rs := [.tmp 2]) (by kernel_rfl) (by simp) ?_
  intro vs
  simp [retW_eq]
theorem sp_ert (t : Ex) (v : Int) (hw : Ex.lok t) : Am.Spec Try.prog 77 [.agg (encE t), .int .i64 v] (.bool (exRight v t)) := by
  refine Am.Spec.of_W (W := W77) Try.func77 (by kernel_rfl) (by kernel_rfl) (by kernel_rfl) Try.ntmps77 W77_eq (rs := [.cell 4 4]) (by kernel_rfl) (by simp) ?_
  intro vs
  simp
  refine scall_pure (sp_eal t) (by simp) (by simp) ?_
  simp
  refine sRange_introA (α := Unit) ((Ex.pre t).map fun x => [.agg (encE x)]) (.tup []) (.tup []) (fun i _ => exRight v t = ((Ex.pre t).drop i).all (exOk v))
    (fun _ => [(3, .box (vs 3 + 1) 3 [.int .i64 v]), (4, .box (vs 4 + 1) 4 [.bool false])]) () (sp_ea1 t hw) (by simp) (by simp [exRight]) (by simp) ?_ ?_
  · rintro i hi _ vt Ψ hj hn hr - -
    have hi' : i < (Ex.pre t).length := by simpa using hi
    rw [all_drop _ _ _ hi'] at hj
    simp only [List.getElem_map]
    generalize (Ex.pre t)[i] = x at *
    refine ⟨by simp, ?_⟩
    have hO : exOk v x = (decide (1 ≤ x.kind) && (decide (x.kind ≤ 17) && (decide (x.name = ⟨#[]⟩) && (decide ((x.l.length : Int) = kids x.kind) && (if x.kind = 1 then decide (0 ≤ x.n) else if x.kind = 2 then decide (0 ≤ x.n) && decide (x.n < v) else decide (x.n = 0)))))) := rfl
    have hch := sp_chd x.kind
    have ot : occ (.tup []) = [] := by simp [occ]
    by_cases c1 : 1 ≤ x.kind
    · have c1' : ¬ x.kind < 1 := by omega
      by_cases c2 : x.kind ≤ 17
      · have c2' : ¬ 17 < x.kind := by omega
        by_cases c3 : x.name = ⟨#[]⟩
        · by_cases c4 : (x.l.length : Int) = kids x.kind
          · rw [decide_eq_true c1, decide_eq_true c2, decide_eq_true c3, decide_eq_true c4] at hO
            by_cases k1 : x.kind = 1
            · by_cases n0 : 0 ≤ x.n
              · have n0' : ¬ x.n < 0 := by omega
                rw [if_pos k1, decide_eq_true n0] at hO
                simp [c1', c2', c3]
                refine scall0_pure hch (by simp) (by simp) ?_
                simp [c1', c2', c3, c4, k1, n0']
                exact hn _ _ _ () (by rw [hj, hO]; simp) (by simp)
              · have n0' : x.n < 0 := by omega
                rw [if_pos k1, decide_eq_false n0] at hO
                rw [hj, hO] at hr
                simp [c1', c2', c3]
                refine scall0_pure hch (by simp) (by simp) ?_
                simp [c1', c2', c3, c4, k1, n0']
                refine hr _ _ ?_
                simp [blkK, thenK, retW_eq]
            · by_cases k2 : x.kind = 2
              · rw [if_neg k1, if_pos k2] at hO
                by_cases n0 : 0 ≤ x.n
                · have n0' : ¬ x.n < 0 := by omega
                  by_cases n1 : x.n < v
                  · have n1' : ¬ v ≤ x.n := by omega
                    rw [decide_eq_true n0, decide_eq_true n1] at hO
                    simp [c1', c2', c3]
                    refine scall0_pure hch (by simp) (by simp) ?_
                    simp [c1', c2', c3, c4, k1, k2, n0', n1']
                    exact hn _ _ _ () (by rw [hj, hO]; simp) (by simp)
                  · have n1' : v ≤ x.n := by omega
                    rw [decide_eq_true n0, decide_eq_false n1] at hO
                    rw [hj, hO] at hr
                    simp [c1', c2', c3]
                    refine scall0_pure hch (by simp) (by simp) ?_
                    simp [c1', c2', c3, c4, k1, k2, n0', n1']
                    refine hr _ _ ?_
                    simp [blkK, thenK, retW_eq]
                · have n0' : x.n < 0 := by omega
                  rw [decide_eq_false n0] at hO
                  rw [hj, hO] at hr
                  simp [c1', c2', c3]
                  refine scall0_pure hch (by simp) (by simp) ?_
                  simp [c1', c2', c3, c4, k1, k2, n0']
                  refine hr _ _ ?_
                  simp [blkK, thenK, retW_eq]
              · rw [if_neg k1, if_neg k2] at hO
                have k3 : 2 < x.kind := by omega
                by_cases n0 : x.n = 0
                · rw [decide_eq_true n0] at hO
                  simp [c1', c2', c3]
                  refine scall0_pure hch (by simp) (by simp) ?_
                  simp [c1', c2', c3, c4, k1, k2, k3, n0]
                  exact hn _ _ _ () (by rw [hj, hO]; simp) (by simp)
                · rw [decide_eq_false n0] at hO
                  rw [hj, hO] at hr
                  simp [c1', c2', c3]
                  refine scall0_pure hch (by simp) (by simp) ?_
                  simp [c1', c2', c3, c4, k1, k2, k3, n0]
                  refine hr _ _ ?_
                  simp [blkK, thenK, retW_eq]
          · rw [decide_eq_false c4] at hO
            rw [hj, hO] at hr
            simp [c1', c2', c3]
            refine scall0_pure hch (by simp) (by simp) ?_
            simp [c1', c2', c3, c4]
            refine hr _ _ ?_
            simp [blkK, thenK, retW_eq]
        · rw [decide_eq_false c3] at hO
          rw [hj, hO] at hr
          simp [c1', c2', c3, ot]
          refine hr _ _ ?_
          simp [blkK, thenK, retW_eq]
      · have c2' : 17 < x.kind := by omega
        rw [decide_eq_false c2] at hO
        rw [hj, hO] at hr
        simp [c1', c2', ot]
        refine hr _ _ ?_
        simp [blkK, thenK, retW_eq]
    · have c1' : x.kind < 1 := by omega
      rw [decide_eq_false c1] at hO
      rw [hj, hO] at hr
      simp [c1', ot]
      refine hr _ _ ?_
      simp [blkK, thenK, retW_eq]
  · rintro vt _ hj
    rw [hj, all_end _ _ _ (by simp)]
    simp [retW_eq, blkK, thenK]
theorem sp_r2r_loop (x : Ex) (v want : Int) (hwn : want = x.l.length) (b : Bool) (hb : b = x.l.all (exRight v)) (hw : x.l.length ≤ 137438953472) (ih : ∀ z ∈ x.l, Am.Spec Try.prog 55 [.agg (encE z), .int .i64 v] (.bool (exRight v z)))
    (v2 : Nat) (T : List (Nat × AV)) (H : List (Nat × Blk)) (vs : Nat → Nat) (hT : Am.subT T [(1, .int .i64 v), (2, .ref 2 v2 (.p 0)), (5, .int .i64 want), (6, .int .i64 0)]) (hH : subA H [(2, .box v2 31 (encE x))]) :
    @sLoop ⟨Am.look T, hls H vs, noG⟩ ⟨fun L0 s => W55_l7 Try.prog (retK Try.prog [.tmp 4] (.bool b)) L0 s⟩ := by
  subst hb
  refine sLoop_intro (fun i => i ≤ x.l.length ∧ x.l.all (exRight v) = (x.l.drop i).all (exRight v)) (fun i => x.l.length - i) (fun i => [(1, .int .i64 v), (2, .ref 2 v2 (.p 0)), (5, .int .i64 x.l.length), (6, .int .i64 (i : Nat))])
    (fun _ => [(2, .box v2 31 (encE x))]) 0 (by simp) (by simpa [hwn] using hT) (by simpa using hH) ?_
  rintro L i vt ⟨hi, hj⟩ hL
  by_cases h : i < x.l.length
  · have h' : (i : Int) < x.l.length := by omega
    have hx := ih _ (List.getElem_mem h)
    rw [all_drop _ _ _ h] at hj
    rw [hj]
    generalize hb : exRight v x.l[i] = b at *
    cases b
    · simp [h, h']
      refine scall_pure hx (by simp) (by simp) ?_
      simp [retW_eq]
    · simp [h, h']
      refine scall_pure hx (by simp) (by simp) ?_
      simp
      rw [wrap64 (by omega) (by omega)]
      exact hL _ _ _ (i + 1) ⟨h, by rw [hj]; simp⟩ (by omega) (by simp) (by simp)
  · have h' : ¬ (i : Int) < x.l.length := by omega
    rw [hj, all_end _ _ _ (by omega)]
    simp [h, h', retW_eq]
set_option maxHeartbeats 2000000 in
theorem sp_r2r (x : Ex) (v : Int) (hw : Ex.lok x) : Am.Spec Try.prog 55 [.agg (encE x), .int .i64 v] (.bool (exRight v x)) := by
  have hlen := Ex.lok_len hw
  have ih : ∀ z ∈ x.l, Am.Spec Try.prog 55 [.agg (encE z), .int .i64 v] (.bool (exRight v z)) := fun z hz => sp_r2r z v (Ex.lok_mem hw hz)
  have hloop := fun want hwn b hb => sp_r2r_loop x v want hwn b hb (by omega) ih
  rw [exRight_eq]
  have hO : exOk v x = (decide (1 ≤ x.kind) && (decide (x.kind ≤ 17) && (decide (x.name = ⟨#[]⟩) && (decide ((x.l.length : Int) = kids x.kind) && (if x.kind = 1 then decide (0 ≤ x.n) else if x.kind = 2 then decide (0 ≤ x.n) && decide (x.n < v) else decide (x.n = 0)))))) := rfl
  have leaf : kids x.kind = 0 → x.l.all (exRight v) = true ∨ ¬ (x.l.length : Int) = 0 := fun _ => by
    rcases x.l with _ | ⟨y, l⟩
    · exact .inl rfl
    · exact .inr (by simp; omega)
  by_cases c3 : x.name = ⟨#[]⟩
  · rw [decide_eq_true c3] at hO
    by_cases k1 : x.kind = 1
    · have hk : kids x.kind = 0 := by simp [kids, k1]
      rw [hk, if_pos k1, decide_eq_true (show 1 ≤ x.kind by omega), decide_eq_true (show x.kind ≤ 17 by omega)] at hO
      have hlf := leaf hk
      rw [hO]
      by_cases n0 : 0 ≤ x.n
      · by_cases c4 : (x.l.length : Int) = 0
        · have ha : x.l.all (exRight v) = true := by rcases hlf with h | h; exact h; exact absurd c4 h
          refine Am.Spec.of_W (W := W55) Try.func55 (by kernel_rfl) (by kernel_rfl) (by kernel_rfl) Try.ntmps55 W55_eq (rs := [.tmp 4]) (by kernel_rfl) (by simp) ?_
          intro vs
          simp [c3, k1, n0, c4, ha, retW_eq]
        · have c4' : ¬ x.l = [] := fun e => c4 (by rw [e]; rfl)
          refine Am.Spec.of_W (W := W55) Try.func55 (by kernel_rfl) (by kernel_rfl) (by kernel_rfl) Try.ntmps55 W55_eq (rs := [.tmp 4]) (by kernel_rfl) (by simp) ?_
          intro vs
          simp [c3, k1, n0, c4, c4', retW_eq]
      · refine Am.Spec.of_W (W := W55) Try.func55 (by kernel_rfl) (by kernel_rfl) (by kernel_rfl) Try.ntmps55 W55_eq (rs := [.tmp 4]) (by kernel_rfl) (by simp) ?_
        intro vs
        simp [c3, k1, n0, retW_eq]
    · by_cases k2 : x.kind = 2
      · have hk : kids x.kind = 0 := by simp [kids, k2]
        rw [hk, if_neg k1, if_pos k2, decide_eq_true (show 1 ≤ x.kind by omega), decide_eq_true (show x.kind ≤ 17 by omega)] at hO
        have hlf := leaf hk
        rw [hO]
        by_cases n0 : 0 ≤ x.n
        · by_cases n1 : x.n < v
          · by_cases c4 : (x.l.length : Int) = 0
            · have ha : x.l.all (exRight v) = true := by rcases hlf with h | h; exact h; exact absurd c4 h
              refine Am.Spec.of_W (W := W55) Try.func55 (by kernel_rfl) (by kernel_rfl) (by kernel_rfl) Try.ntmps55 W55_eq (rs := [.tmp 4]) (by kernel_rfl) (by simp) ?_
              intro vs
              simp [c3, k1, k2, n0, n1, c4, ha, retW_eq]
            · have c4' : ¬ x.l = [] := fun e => c4 (by rw [e]; rfl)
              refine Am.Spec.of_W (W := W55) Try.func55 (by kernel_rfl) (by kernel_rfl) (by kernel_rfl) Try.ntmps55 W55_eq (rs := [.tmp 4]) (by kernel_rfl) (by simp) ?_
              intro vs
              simp [c3, k1, k2, n0, n1, c4, c4', retW_eq]
          · refine Am.Spec.of_W (W := W55) Try.func55 (by kernel_rfl) (by kernel_rfl) (by kernel_rfl) Try.ntmps55 W55_eq (rs := [.tmp 4]) (by kernel_rfl) (by simp) ?_
            intro vs
            simp [c3, k1, k2, n0, n1, retW_eq]
        · refine Am.Spec.of_W (W := W55) Try.func55 (by kernel_rfl) (by kernel_rfl) (by kernel_rfl) Try.ntmps55 W55_eq (rs := [.tmp 4]) (by kernel_rfl) (by simp) ?_
          intro vs
          simp [c3, k1, k2, n0, retW_eq]
      · rw [if_neg k1, if_neg k2] at hO
        by_cases k34 : x.kind = 3 ∨ x.kind = 4
        · have hk : kids x.kind = 1 := by simp [kids, k1, k2, k34]
          rw [hk, decide_eq_true (show 1 ≤ x.kind by omega), decide_eq_true (show x.kind ≤ 17 by omega)] at hO
          rw [hO]
          by_cases n0 : x.n = 0
          · by_cases c4 : (x.l.length : Int) = 1
            · have hl := hloop 1 c4.symm _ rfl
              rw [decide_eq_true n0, decide_eq_true c4]
              simp only [Bool.true_and]
              generalize x.l.all (exRight v) = b at *
              rcases k34 with k3 | k4
              · refine Am.Spec.of_W (W := W55) Try.func55 (by kernel_rfl) (by kernel_rfl) (by kernel_rfl) Try.ntmps55 W55_eq (rs := [.tmp 4]) (by kernel_rfl) (by simp) ?_
                intro vs
                simp [-W55_l7, c3, k3, n0, c4]
                exact hl (vs 2 + 1) _ _ _ (by simp) (by simp)
              · refine Am.Spec.of_W (W := W55) Try.func55 (by kernel_rfl) (by kernel_rfl) (by kernel_rfl) Try.ntmps55 W55_eq (rs := [.tmp 4]) (by kernel_rfl) (by simp) ?_
                intro vs
                simp [-W55_l7, c3, k4, n0, c4]
                exact hl (vs 2 + 1) _ _ _ (by simp) (by simp)
            · rw [decide_eq_false c4]
              simp only [Bool.true_and, Bool.false_and]
              rcases k34 with k3 | k4
              · refine Am.Spec.of_W (W := W55) Try.func55 (by kernel_rfl) (by kernel_rfl) (by kernel_rfl) Try.ntmps55 W55_eq (rs := [.tmp 4]) (by kernel_rfl) (by simp) ?_
                intro vs
                simp [-W55_l7, c3, k3, n0, c4, retW_eq]
              · refine Am.Spec.of_W (W := W55) Try.func55 (by kernel_rfl) (by kernel_rfl) (by kernel_rfl) Try.ntmps55 W55_eq (rs := [.tmp 4]) (by kernel_rfl) (by simp) ?_
                intro vs
                simp [-W55_l7, c3, k4, n0, c4, retW_eq]
          · rw [decide_eq_false n0]
            simp only [Bool.and_false, Bool.false_and]
            rcases k34 with k3 | k4
            · refine Am.Spec.of_W (W := W55) Try.func55 (by kernel_rfl) (by kernel_rfl) (by kernel_rfl) Try.ntmps55 W55_eq (rs := [.tmp 4]) (by kernel_rfl) (by simp) ?_
              intro vs
              simp [-W55_l7, c3, k3, n0, retW_eq]
            · refine Am.Spec.of_W (W := W55) Try.func55 (by kernel_rfl) (by kernel_rfl) (by kernel_rfl) Try.ntmps55 W55_eq (rs := [.tmp 4]) (by kernel_rfl) (by simp) ?_
              intro vs
              simp [-W55_l7, c3, k4, n0, retW_eq]
        · have k3 : ¬ x.kind = 3 := fun h => k34 (.inl h)
          have k4 : ¬ x.kind = 4 := fun h => k34 (.inr h)
          have hk : kids x.kind = 2 := by simp [kids, k1, k2, k3, k4]
          rw [hk] at hO
          by_cases k5 : x.kind < 5
          · have : ¬ 1 ≤ x.kind := by omega
            rw [hO, decide_eq_false this]
            refine Am.Spec.of_W (W := W55) Try.func55 (by kernel_rfl) (by kernel_rfl) (by kernel_rfl) Try.ntmps55 W55_eq (rs := [.tmp 4]) (by kernel_rfl) (by simp) ?_
            intro vs
            simp [-W55_l7, c3, k1, k2, k3, k4, k5, retW_eq]
          · by_cases k17 : 17 < x.kind
            · rw [hO, decide_eq_false (show ¬ x.kind ≤ 17 by omega)]
              refine Am.Spec.of_W (W := W55) Try.func55 (by kernel_rfl) (by kernel_rfl) (by kernel_rfl) Try.ntmps55 W55_eq (rs := [.tmp 4]) (by kernel_rfl) (by simp) ?_
              intro vs
              simp [-W55_l7, c3, k1, k2, k3, k4, k5, k17, retW_eq]
            · rw [hO, decide_eq_true (show 1 ≤ x.kind by omega), decide_eq_true (show x.kind ≤ 17 by omega)]
              by_cases n0 : x.n = 0
              · by_cases c4 : (x.l.length : Int) = 2
                · have hl := hloop 2 c4.symm _ rfl
                  rw [decide_eq_true n0, decide_eq_true c4]
                  simp only [Bool.true_and]
                  generalize x.l.all (exRight v) = b at *
                  refine Am.Spec.of_W (W := W55) Try.func55 (by kernel_rfl) (by kernel_rfl) (by kernel_rfl) Try.ntmps55 W55_eq (rs := [.tmp 4]) (by kernel_rfl) (by simp) ?_
                  intro vs
                  simp [-W55_l7, c3, k1, k2, k3, k4, k5, k17, n0, c4]
                  exact hl (vs 2 + 1) _ _ _ (by simp) (by simp)
                · rw [decide_eq_false c4]
                  simp only [Bool.true_and, Bool.false_and]
                  refine Am.Spec.of_W (W := W55) Try.func55 (by kernel_rfl) (by kernel_rfl) (by kernel_rfl) Try.ntmps55 W55_eq (rs := [.tmp 4]) (by kernel_rfl) (by simp) ?_
                  intro vs
                  simp [-W55_l7, c3, k1, k2, k3, k4, k5, k17, n0, c4, retW_eq]
              · rw [decide_eq_false n0]
                simp only [Bool.and_false, Bool.false_and]
                refine Am.Spec.of_W (W := W55) Try.func55 (by kernel_rfl) (by kernel_rfl) (by kernel_rfl) Try.ntmps55 W55_eq (rs := [.tmp 4]) (by kernel_rfl) (by simp) ?_
                intro vs
                simp [-W55_l7, c3, k1, k2, k3, k4, k5, k17, n0, retW_eq]
  · rw [hO, decide_eq_false c3]
    refine Am.Spec.of_W (W := W55) Try.func55 (by kernel_rfl) (by kernel_rfl) (by kernel_rfl) Try.ntmps55 W55_eq (rs := [.tmp 4]) (by kernel_rfl) (by simp) ?_
    intro vs
    simp [c3, retW_eq]
termination_by SizeOf.sizeOf x
decreasing_by exact Ex.lt_of_mem hz
end Go.Proofs.Ytkagfenchknjjaa
set_option linter.unusedVariables false
set_option linter.unusedSimpArgs false
namespace Go.Proofs.Ytkagfenchknjjaa
open Go Go.Am Go.RowKit
attribute [local simp] W51 W51_rs W51_b1 W51_b2 W51_b4 W51_b5 W51_b10 W51_b12 W51_b15 W51_b18 W51_k3 W51_k13 W51_k16 W51_c6 W51_c7 W51_c8 W51_c9 W51_c14 W51_c17 W51_c19 W51_c20 W51_c21 W51_c22 W51_c23 W51_c24 W51_c25 W51_c26 W51_c27 W51_c28 W51_c29 W51_c30 W51_c31 W51_c32 W51_c33 W51_l11 W34 W34_rs W34_c1

theorem rg_loop (v s p : Int) (t : Tm) (d d' : Bool) (hd : d' = (d || decide (t.kind = 3))) (b : Bool) (hb : b = t.l.all fun x => tmRight v s p x d') (hlen : t.l.length ≤ 137438953472)
    (ih : ∀ z ∈ t.l, ∀ d, Am.Spec Try.prog 51 [.agg [.int .i64 v, .int .i64 s, .int .i64 p], .agg (encT z), .bool d] (.bool (tmRight v s p z d)))
    (v3 v4 : Nat) (T : List (Nat × AV)) (H : List (Nat × Blk)) (vs : Nat → Nat) (hT : Am.subT T [(2, .bool d), (3, .ref 3 v3 (.p 0)), (4, .ref 4 v4 (.p 0)), (77, .sl (t.l.map encT)), (78, .int .i64 t.l.length), (79, .int .i64 0)])
    (hH : subA H [(3, .box v3 87 [.int .i64 v, .int .i64 s, .int .i64 p]), (4, .box v4 34 (encT t))]) :
    @sLoop ⟨Am.look T, hls H vs, noG⟩ ⟨fun L0 s => W51_l11 Try.prog (retK Try.prog [.tmp 6] (.bool b)) L0 s⟩ := by
  subst hb
  refine sLoop_intro (fun i => i ≤ t.l.length ∧ (t.l.all fun x => tmRight v s p x d') = (t.l.drop i).all fun x => tmRight v s p x d') (fun i => t.l.length - i)
    (fun i => [(2, .bool d), (3, .ref 3 v3 (.p 0)), (4, .ref 4 v4 (.p 0)), (77, .sl (t.l.map encT)), (78, .int .i64 t.l.length), (79, .int .i64 (i : Nat))])
    (fun _ => [(3, .box v3 87 [.int .i64 v, .int .i64 s, .int .i64 p]), (4, .box v4 34 (encT t))]) 0 (by simp) (by simpa using hT) (by simpa using hH) ?_
  rintro L i vt ⟨hi, hj⟩ hL
  by_cases h : i < t.l.length
  · have h' : (i : Int) < t.l.length := by omega
    have hx := ih _ (List.getElem_mem h) d'
    rw [all_drop _ _ _ h] at hj
    rw [hj]
    subst hd
    generalize hb : tmRight v s p t.l[i] (d || decide (t.kind = 3)) = b at *
    cases d
    · cases b
      · simp [h, h']
        refine scall_pure hx (by simp) (by simp) ?_
        simp [retW_eq]
      · simp [h, h']
        refine scall_pure hx (by simp) (by simp) ?_
        simp
        rw [wrap64 (by omega) (by omega)]
        exact hL _ _ _ (i + 1) ⟨h, by rw [hj]; simp⟩ (by omega) (by simp) (by simp)
    · cases b
      · simp [h, h']
        refine scall_pure hx (by simp) (by simp) ?_
        simp [retW_eq]
      · simp [h, h']
        refine scall_pure hx (by simp) (by simp) ?_
        simp
        rw [wrap64 (by omega) (by omega)]
        exact hL _ _ _ (i + 1) ⟨h, by rw [hj]; simp⟩ (by omega) (by simp) (by simp)
  · have h' : ¬ (i : Int) < t.l.length := by omega
    rw [hj, all_end _ _ _ (by omega)]
    simp [h, h', retW_eq]
set_option maxHeartbeats 1000000 in
theorem sp_rg (v s p : Int) (t : Tm) (d : Bool) (hw : t.lok) : Am.Spec Try.prog 51 [.agg [.int .i64 v, .int .i64 s, .int .i64 p], .agg (encT t), .bool d] (.bool (tmRight v s p t d)) := by
  have hlen := Tm.lok_len hw
  have ih : ∀ z ∈ t.l, ∀ d, Am.Spec Try.prog 51 [.agg [.int .i64 v, .int .i64 s, .int .i64 p], .agg (encT z), .bool d] (.bool (tmRight v s p z d)) := fun z hz d => sp_rg v s p z d (Tm.lok_mem hw hz)
  have hloop := rg_loop v s p t d _ rfl _ rfl hlen ih
  have he := sp_ert t.e v (Tm.lok_e hw)
  have hsl : shapes.length = 15 := rfl
  have hocc : occLL shapes = [] := occLL_closed rfl
  rw [tmRight_eq]
  generalize (t.l.all fun x => tmRight v s p x (d || decide (t.kind = 3))) = R at *
  by_cases c0 : 0 ≤ t.kind
  · have c0' : ¬ t.kind < 0 := by omega
    by_cases c1 : t.kind ≤ 14
    · have c1' : ¬ 15 ≤ t.kind := by omega
      by_cases c2 : d = true ∧ t.kind = 14
      · obtain ⟨rfl, c2⟩ := c2
        rw [decide_eq_true c2]
        simp only [Bool.and_self, Bool.not_true, Bool.false_and, Bool.and_false]
        refine Am.Spec.of_W (W := W51) Try.func51 (by kernel_rfl) (by kernel_rfl) (by kernel_rfl) Try.ntmps51 W51_eq (rs := [.tmp 6]) (by kernel_rfl) (by simp) ?_
        intro vs
        simp [c0']
        refine scall0_pure sp_shp (by simp) (by simp) ?_
        simp [c0', hsl, c2, retW_eq]
      · have hd2 : (d && decide (t.kind = 14)) = false := by
          cases d
          · rfl
          · simp; exact fun h => c2 ⟨rfl, h⟩
        have hix := shapes_at t.kind c0 c1
        have h1 := sp_num v s p (kA t.kind) t.a
        have h2 := sp_num v s p (kB t.kind) t.b
        have h3 := sp_non t.e
        have h4 := sp_name t.name
        have hok : tmOk v s p t = (numOk v s p (kA t.kind) t.a && (numOk v s p (kB t.kind) t.b && (decide ((t.l.length : Int) = kL t.kind) && ((if kN t.kind then nameOk t.name else decide (t.name = ⟨#[]⟩)) && (if kE t.kind then exRight v t.e else t.e.none))))) := rfl
        rw [hd2, hok, decide_eq_true c0, decide_eq_true c1]
        simp only [Bool.true_and, Bool.not_false]
        generalize numOk v s p (kA t.kind) t.a = b1 at *
        generalize numOk v s p (kB t.kind) t.b = b2 at *
        generalize exRight v t.e = b5 at *
        generalize nameOk t.name = b4 at *
        generalize t.e.none = b6 at *
        generalize kA t.kind = ka at *
        generalize kB t.kind = kb at *
        generalize kN t.kind = kn at *
        generalize kE t.kind = ke at *
        generalize kL t.kind = kl at *
        simp only [shapeOf] at hix
        cases d
        · have c3 : True := trivial
          cases kn
          · cases ke
            · obtain ⟨C, hC⟩ : ∃ C, (b1 && (b2 && (decide ((t.l.length : Int) = kl) && (decide (t.name = ⟨#[]⟩) && b6)))) = C := ⟨_, rfl⟩
              have hN : (!b1 || (!b2 || (!decide ((t.l.length : Int) = kl) || (!decide (t.name = ⟨#[]⟩) || !b6)))) = !C := by rw [← hC]; simp [Bool.not_and]
              simp only [if_true, Bool.false_eq_true, if_false, hC]
              refine Am.Spec.of_W (W := W51) Try.func51 (by kernel_rfl) (by kernel_rfl) (by kernel_rfl) Try.ntmps51 W51_eq (rs := [.tmp 6]) (by kernel_rfl) (by simp) ?_
              intro vs
              simp [-W51_l11, c0']
              refine scall0_pure sp_shp (by simp) (by simp) ?_
              simp [-W51_l11, c0', c1', hsl, hocc]
              refine scall0_pure sp_shp (by simp) (by simp) ?_
              simp [-W51_l11, c0', c1', hsl, hocc, hix]
              refine scall0_pure h1 (by simp) (by simp) ?_
              simp [-W51_l11, c0', c1', hsl, hocc, hix]
              refine scall0_pure h2 (by simp) (by simp) ?_
              simp [-W51_l11, c0', c1', hsl, hocc, hix]
              refine scall0_pure h3 (by simp) (by simp) ?_
              simp [-W51_l11, hocc]
              rw [hN]
              cases C
              · simp [-W51_l11, retW_eq]
              · simp [-W51_l11]
                exact hloop (vs 3 + 1) (vs 4 + 1) _ _ _ (by simp) (by simp)
            · obtain ⟨C, hC⟩ : ∃ C, (b1 && (b2 && (decide ((t.l.length : Int) = kl) && (decide (t.name = ⟨#[]⟩) && b5)))) = C := ⟨_, rfl⟩
              have hN : (!b1 || (!b2 || (!decide ((t.l.length : Int) = kl) || (!decide (t.name = ⟨#[]⟩) || !b5)))) = !C := by rw [← hC]; simp [Bool.not_and]
              simp only [if_true, Bool.false_eq_true, if_false, hC]
              refine Am.Spec.of_W (W := W51) Try.func51 (by kernel_rfl) (by kernel_rfl) (by kernel_rfl) Try.ntmps51 W51_eq (rs := [.tmp 6]) (by kernel_rfl) (by simp) ?_
              intro vs
              simp [-W51_l11, c0']
              refine scall0_pure sp_shp (by simp) (by simp) ?_
              simp [-W51_l11, c0', c1', hsl, hocc]
              refine scall0_pure sp_shp (by simp) (by simp) ?_
              simp [-W51_l11, c0', c1', hsl, hocc, hix]
              refine scall0_pure h1 (by simp) (by simp) ?_
              simp [-W51_l11, c0', c1', hsl, hocc, hix]
              refine scall0_pure h2 (by simp) (by simp) ?_
              simp [-W51_l11, c0', c1', hsl, hocc, hix]
              refine scall0_pure h3 (by simp) (by simp) ?_
              simp [-W51_l11, hocc]
              refine scall_pure he (by simp) (by simp) ?_
              simp [-W51_l11, hocc]
              rw [hN]
              cases C
              · simp [-W51_l11, retW_eq]
              · simp [-W51_l11]
                exact hloop (vs 3 + 1) (vs 4 + 1) _ _ _ (by simp) (by simp)
          · cases ke
            · obtain ⟨C, hC⟩ : ∃ C, (b1 && (b2 && (decide ((t.l.length : Int) = kl) && (b4 && b6)))) = C := ⟨_, rfl⟩
              have hN : (!b1 || (!b2 || (!decide ((t.l.length : Int) = kl) || (!b4 || !b6)))) = !C := by rw [← hC]; simp [Bool.not_and]
              simp only [if_true, Bool.false_eq_true, if_false, hC]
              refine Am.Spec.of_W (W := W51) Try.func51 (by kernel_rfl) (by kernel_rfl) (by kernel_rfl) Try.ntmps51 W51_eq (rs := [.tmp 6]) (by kernel_rfl) (by simp) ?_
              intro vs
              simp [-W51_l11, c0']
              refine scall0_pure sp_shp (by simp) (by simp) ?_
              simp [-W51_l11, c0', c1', hsl, hocc]
              refine scall0_pure sp_shp (by simp) (by simp) ?_
              simp [-W51_l11, c0', c1', hsl, hocc, hix]
              refine scall0_pure h1 (by simp) (by simp) ?_
              simp [-W51_l11, c0', c1', hsl, hocc, hix]
              refine scall0_pure h2 (by simp) (by simp) ?_
              simp [-W51_l11, c0', c1', hsl, hocc, hix]
              refine scall0_pure h3 (by simp) (by simp) ?_
              simp [-W51_l11, hocc]
              refine scall_pure h4 (by simp) (by simp) ?_
              simp [-W51_l11, hocc]
              rw [hN]
              cases C
              · simp [-W51_l11, retW_eq]
              · simp [-W51_l11]
                exact hloop (vs 3 + 1) (vs 4 + 1) _ _ _ (by simp) (by simp)
            · obtain ⟨C, hC⟩ : ∃ C, (b1 && (b2 && (decide ((t.l.length : Int) = kl) && (b4 && b5)))) = C := ⟨_, rfl⟩
              have hN : (!b1 || (!b2 || (!decide ((t.l.length : Int) = kl) || (!b4 || !b5)))) = !C := by rw [← hC]; simp [Bool.not_and]
              simp only [if_true, Bool.false_eq_true, if_false, hC]
              refine Am.Spec.of_W (W := W51) Try.func51 (by kernel_rfl) (by kernel_rfl) (by kernel_rfl) Try.ntmps51 W51_eq (rs := [.tmp 6]) (by kernel_rfl) (by simp) ?_
              intro vs
              simp [-W51_l11, c0']
              refine scall0_pure sp_shp (by simp) (by simp) ?_
              simp [-W51_l11, c0', c1', hsl, hocc]
              refine scall0_pure sp_shp (by simp) (by simp) ?_
              simp [-W51_l11, c0', c1', hsl, hocc, hix]
              refine scall0_pure h1 (by simp) (by simp) ?_
              simp [-W51_l11, c0', c1', hsl, hocc, hix]
              refine scall0_pure h2 (by simp) (by simp) ?_
              simp [-W51_l11, c0', c1', hsl, hocc, hix]
              refine scall0_pure h3 (by simp) (by simp) ?_
              simp [-W51_l11, hocc]
              refine scall_pure h4 (by simp) (by simp) ?_
              simp [-W51_l11, hocc]
              refine scall_pure he (by simp) (by simp) ?_
              simp [-W51_l11, hocc]
              rw [hN]
              cases C
              · simp [-W51_l11, retW_eq]
              · simp [-W51_l11]
                exact hloop (vs 3 + 1) (vs 4 + 1) _ _ _ (by simp) (by simp)
        · have c3 : ¬ t.kind = 14 := fun h => c2 ⟨rfl, h⟩
          cases kn
          · cases ke
            · obtain ⟨C, hC⟩ : ∃ C, (b1 && (b2 && (decide ((t.l.length : Int) = kl) && (decide (t.name = ⟨#[]⟩) && b6)))) = C := ⟨_, rfl⟩
              have hN : (!b1 || (!b2 || (!decide ((t.l.length : Int) = kl) || (!decide (t.name = ⟨#[]⟩) || !b6)))) = !C := by rw [← hC]; simp [Bool.not_and]
              simp only [if_true, Bool.false_eq_true, if_false, hC]
              refine Am.Spec.of_W (W := W51) Try.func51 (by kernel_rfl) (by kernel_rfl) (by kernel_rfl) Try.ntmps51 W51_eq (rs := [.tmp 6]) (by kernel_rfl) (by simp) ?_
              intro vs
              simp [-W51_l11, c0', c3]
              refine scall0_pure sp_shp (by simp) (by simp) ?_
              simp [-W51_l11, c0', c1', hsl, hocc, c3]
              refine scall0_pure sp_shp (by simp) (by simp) ?_
              simp [-W51_l11, c0', c1', hsl, hocc, hix, c3]
              refine scall0_pure h1 (by simp) (by simp) ?_
              simp [-W51_l11, c0', c1', hsl, hocc, hix, c3]
              refine scall0_pure h2 (by simp) (by simp) ?_
              simp [-W51_l11, c0', c1', hsl, hocc, hix, c3]
              refine scall0_pure h3 (by simp) (by simp) ?_
              simp [-W51_l11, hocc]
              rw [hN]
              cases C
              · simp [-W51_l11, retW_eq]
              · simp [-W51_l11]
                exact hloop (vs 3 + 1) (vs 4 + 1) _ _ _ (by simp) (by simp)
            · obtain ⟨C, hC⟩ : ∃ C, (b1 && (b2 && (decide ((t.l.length : Int) = kl) && (decide (t.name = ⟨#[]⟩) && b5)))) = C := ⟨_, rfl⟩
              have hN : (!b1 || (!b2 || (!decide ((t.l.length : Int) = kl) || (!decide (t.name = ⟨#[]⟩) || !b5)))) = !C := by rw [← hC]; simp [Bool.not_and]
              simp only [if_true, Bool.false_eq_true, if_false, hC]
              refine Am.Spec.of_W (W := W51) Try.func51 (by kernel_rfl) (by kernel_rfl) (by kernel_rfl) Try.ntmps51 W51_eq (rs := [.tmp 6]) (by kernel_rfl) (by simp) ?_
              intro vs
              simp [-W51_l11, c0', c3]
              refine scall0_pure sp_shp (by simp) (by simp) ?_
              simp [-W51_l11, c0', c1', hsl, hocc, c3]
              refine scall0_pure sp_shp (by simp) (by simp) ?_
              simp [-W51_l11, c0', c1', hsl, hocc, hix, c3]
              refine scall0_pure h1 (by simp) (by simp) ?_
              simp [-W51_l11, c0', c1', hsl, hocc, hix, c3]
              refine scall0_pure h2 (by simp) (by simp) ?_
              simp [-W51_l11, c0', c1', hsl, hocc, hix, c3]
              refine scall0_pure h3 (by simp) (by simp) ?_
              simp [-W51_l11, hocc]
              refine scall_pure he (by simp) (by simp) ?_
              simp [-W51_l11, hocc]
              rw [hN]
              cases C
              · simp [-W51_l11, retW_eq]
              · simp [-W51_l11]
                exact hloop (vs 3 + 1) (vs 4 + 1) _ _ _ (by simp) (by simp)
          · cases ke
            · obtain ⟨C, hC⟩ : ∃ C, (b1 && (b2 && (decide ((t.l.length : Int) = kl) && (b4 && b6)))) = C := ⟨_, rfl⟩
              have hN : (!b1 || (!b2 || (!decide ((t.l.length : Int) = kl) || (!b4 || !b6)))) = !C := by rw [← hC]; simp [Bool.not_and]
              simp only [if_true, Bool.false_eq_true, if_false, hC]
              refine Am.Spec.of_W (W := W51) Try.func51 (by kernel_rfl) (by kernel_rfl) (by kernel_rfl) Try.ntmps51 W51_eq (rs := [.tmp 6]) (by kernel_rfl) (by simp) ?_
              intro vs
              simp [-W51_l11, c0', c3]
              refine scall0_pure sp_shp (by simp) (by simp) ?_
              simp [-W51_l11, c0', c1', hsl, hocc, c3]
              refine scall0_pure sp_shp (by simp) (by simp) ?_
              simp [-W51_l11, c0', c1', hsl, hocc, hix, c3]
              refine scall0_pure h1 (by simp) (by simp) ?_
              simp [-W51_l11, c0', c1', hsl, hocc, hix, c3]
              refine scall0_pure h2 (by simp) (by simp) ?_
              simp [-W51_l11, c0', c1', hsl, hocc, hix, c3]
              refine scall0_pure h3 (by simp) (by simp) ?_
              simp [-W51_l11, hocc]
              refine scall_pure h4 (by simp) (by simp) ?_
              simp [-W51_l11, hocc]
              rw [hN]
              cases C
              · simp [-W51_l11, retW_eq]
              · simp [-W51_l11]
                exact hloop (vs 3 + 1) (vs 4 + 1) _ _ _ (by simp) (by simp)
            · obtain ⟨C, hC⟩ : ∃ C, (b1 && (b2 && (decide ((t.l.length : Int) = kl) && (b4 && b5)))) = C := ⟨_, rfl⟩
              have hN : (!b1 || (!b2 || (!decide ((t.l.length : Int) = kl) || (!b4 || !b5)))) = !C := by rw [← hC]; simp [Bool.not_and]
              simp only [if_true, Bool.false_eq_true, if_false, hC]
              refine Am.Spec.of_W (W := W51) Try.func51 (by kernel_rfl) (by kernel_rfl) (by kernel_rfl) Try.ntmps51 W51_eq (rs := [.tmp 6]) (by kernel_rfl) (by simp) ?_
              intro vs
              simp [-W51_l11, c0', c3]
              refine scall0_pure sp_shp (by simp) (by simp) ?_
              simp [-W51_l11, c0', c1', hsl, hocc, c3]
              refine scall0_pure sp_shp (by simp) (by simp) ?_
              simp [-W51_l11, c0', c1', hsl, hocc, hix, c3]
              refine scall0_pure h1 (by simp) (by simp) ?_
              simp [-W51_l11, c0', c1', hsl, hocc, hix, c3]
              refine scall0_pure h2 (by simp) (by simp) ?_
              simp [-W51_l11, c0', c1', hsl, hocc, hix, c3]
              refine scall0_pure h3 (by simp) (by simp) ?_
              simp [-W51_l11, hocc]
              refine scall_pure h4 (by simp) (by simp) ?_
              simp [-W51_l11, hocc]
              refine scall_pure he (by simp) (by simp) ?_
              simp [-W51_l11, hocc]
              rw [hN]
              cases C
              · simp [-W51_l11, retW_eq]
              · simp [-W51_l11]
                exact hloop (vs 3 + 1) (vs 4 + 1) _ _ _ (by simp) (by simp)
    · have c1' : 15 ≤ t.kind := by omega
      rw [decide_eq_false c1]
      simp only [Bool.false_and, Bool.and_false]
      refine Am.Spec.of_W (W := W51) Try.func51 (by kernel_rfl) (by kernel_rfl) (by kernel_rfl) Try.ntmps51 W51_eq (rs := [.tmp 6]) (by kernel_rfl) (by simp) ?_
      intro vs
      simp [c0']
      refine scall0_pure sp_shp (by simp) (by simp) ?_
      simp [c0', hsl, c1', retW_eq]
  · have c0' : t.kind < 0 := by omega
    rw [decide_eq_false c0]
    simp only [Bool.false_and]
    refine Am.Spec.of_W (W := W51) Try.func51 (by kernel_rfl) (by kernel_rfl) (by kernel_rfl) Try.ntmps51 W51_eq (rs := [.tmp 6]) (by kernel_rfl) (by simp) ?_
    intro vs
    simp [c0', retW_eq]
termination_by SizeOf.sizeOf t
decreasing_by exact Tm.lt_of_mem hz
theorem sp_tr (t : Tm) (v s p : Int) (hw : t.lok) : Am.Spec Try.prog 34 [.agg (encT t), .int .i64 v, .int .i64 s, .int .i64 p] (.bool (tmRight v s p t false)) := by
  refine Am.Spec.of_W (W := W34) Try.func34 (by kernel_rfl) (by kernel_rfl) (by kernel_rfl) Try.ntmps34 W34_eq (rs := [.tmp 8]) (by kernel_rfl) (by simp) ?_
  intro vs
  simp
  refine scall_pure (sp_rg v s p t false hw) (by simp) (by simp) ?_
  simp [retW_eq]
end Go.Proofs.Ytkagfenchknjjaa
set_option linter.unusedVariables false
set_option linter.unusedSimpArgs false
namespace Go.Proofs.Ytkagfenchknjjaa
open Go Go.Am Go.RowKit
attribute [local simp] W52 W52_rs W52_b1 W52_b2 W52_b3 W52_b4 W52_b5 W52_b6 W52_b7 W52_b8 W52_b9 W52_b10 W52_b11 W52_b13 W52_b14 W52_b15 W52_b16 W52_b17 W52_b18 W52_b20 W52_b21 W52_b22 W52_b23 W52_b24 W52_k12 W52_k19 W53 W53_rs W53_c1 W53_c3 W53_c5 W53_c7 W53_c8 W53_c9 W53_c10 W53_c11 W53_c13 W53_c15 W53_c16 W53_c17 W53_c18 W53_b2 W53_b4 W53_b6 W53_b12 W53_b14 W53_b19 W53_b20 W53_b21 W53_b22 W53_b23 W53_b25 W53_b26 W53_b27 W53_b28 W53_k24 W57 W57_rs W57_b1 W57_b3 W57_b4 W57_b6 W57_b8 W57_k2 W57_c5 W57_l7 W35 W35_rs W35_b1 W35_b2 W35_b3 W35_b11 W35_b12 W35_b14 W35_b16 W35_b32 W35_b58 W35_c4 W35_c5 W35_c6 W35_c7 W35_c8 W35_c9 W35_c13 W35_c17 W35_c18 W35_c19 W35_c20 W35_c21 W35_c22 W35_c23 W35_c24 W35_c25 W35_c26 W35_c27 W35_c28 W35_c29 W35_c30 W35_c31 W35_c33 W35_c34 W35_c35 W35_c36 W35_c37 W35_c38 W35_c39 W35_c40 W35_c41 W35_c42 W35_c43 W35_c44 W35_c45 W35_c46 W35_c47 W35_c48 W35_c49 W35_c50 W35_c51 W35_c52 W35_c53 W35_c54 W35_c55 W35_c56 W35_c57 W35_c59 W35_c60 W35_c61 W35_c62 W35_c63 W35_c64 W35_c65 W35_c66 W35_c67 W35_c68 W35_c69 W35_c70 W35_c71 W35_c72 W35_c73 W35_c74 W35_k10 W35_l15

def fA (k : Int) : Bool := decide (k = 1 ∨ k = 2 ∨ k = 3 ∨ k = 4 ∨ k = 5 ∨ k = 6 ∨ k = 13 ∨ k = 14)
def fB (k : Int) : Bool := decide (k = 6 ∨ k = 14)
theorem sp_fof (k : Int) : Am.Spec Try.prog 52 [.int .i64 k] (.agg [.bool (fA k), .bool (fB k), .bool (kN k), .bool (kE k), .int .i64 (kL k)]) := by
  by_cases h : k = 1 ∨ k = 2 ∨ k = 3 ∨ k = 4 ∨ k = 5 ∨ k = 6 ∨ k = 7 ∨ k = 9 ∨ k = 10 ∨ k = 11 ∨ k = 12 ∨ k = 13 ∨ k = 14
  · rcases h with rfl | rfl | rfl | rfl | rfl | rfl | rfl | rfl | rfl | rfl | rfl | rfl | rfl
    all_goals
      refine Am.Spec.of_W (W := W52) Try.func52 (by kernel_rfl) (by kernel_rfl) (by kernel_rfl) Try.ntmps52 W52_eq (rs := [.cell 2 90]) (by kernel_rfl) (by simp) ?_
      intro vs
      simp [retW_eq, fA, fB, kN, kE, kL]
  · obtain ⟨n1, n2, n3, n4, n5, n6, n7, n9, n10, n11, n12, n13, n14⟩ : k ≠ 1 ∧ k ≠ 2 ∧ k ≠ 3 ∧ k ≠ 4 ∧ k ≠ 5 ∧ k ≠ 6 ∧ k ≠ 7 ∧ k ≠ 9 ∧ k ≠ 10 ∧ k ≠ 11 ∧ k ≠ 12 ∧ k ≠ 13 ∧ k ≠ 14 := by omega
    refine Am.Spec.of_W (W := W52) Try.func52 (by kernel_rfl) (by kernel_rfl) (by kernel_rfl) Try.ntmps52 W52_eq (rs := [.cell 2 90]) (by kernel_rfl) (by simp) ?_
    intro vs
    simp [retW_eq, fA, fB, kN, kE, kL, n1, n2, n3, n4, n5, n6, n7, n9, n10, n11, n12, n13, n14]
def rnum (v s p : Int) (t : Tm) : Bool :=
  if t.kind = 1 then decide (-1 ≤ t.a) && decide (t.a < v) else if t.kind = 2 then decide (0 ≤ t.a) && decide (t.a < v)
  else if t.kind = 3 ∨ t.kind = 4 ∨ t.kind = 5 then decide (0 ≤ t.a) && decide (t.a < s)
  else if t.kind = 6 then (decide (0 ≤ t.a) && decide (t.a < s)) && (decide (0 ≤ t.b) && decide (t.b < s))
  else if t.kind = 13 then decide (0 ≤ t.a) && decide (t.a < p) else if t.kind = 14 then decide (0 ≤ t.a) && (decide (-1 ≤ t.b) && decide (t.b < v)) else true
theorem sp_numbs (v s p : Int) (t : Tm) : Am.Spec Try.prog 53 [.agg (encT t), .int .i64 v, .int .i64 s, .int .i64 p] (.bool (rnum v s p t)) := by
  by_cases k1 : t.kind = 1
  · have h := sp_inr t.a (-1) v
    rw [show rnum v s p t = (decide (-1 ≤ t.a) && decide (t.a < v)) by simp [rnum, k1]]
    refine Am.Spec.of_W (W := W53) Try.func53 (by kernel_rfl) (by kernel_rfl) (by kernel_rfl) Try.ntmps53 W53_eq (rs := [.tmp 8]) (by kernel_rfl) (by simp) ?_
    intro vs
    simp [k1]
    refine scall_pure h (by simp) (by simp) ?_
    simp [retW_eq]
  by_cases k2 : t.kind = 2
  · have h := sp_inr t.a 0 v
    rw [show rnum v s p t = (decide (0 ≤ t.a) && decide (t.a < v)) by simp [rnum, k2]]
    refine Am.Spec.of_W (W := W53) Try.func53 (by kernel_rfl) (by kernel_rfl) (by kernel_rfl) Try.ntmps53 W53_eq (rs := [.tmp 8]) (by kernel_rfl) (by simp) ?_
    intro vs
    simp [k2]
    refine scall_pure h (by simp) (by simp) ?_
    simp [retW_eq]
  by_cases k3 : t.kind = 3 ∨ t.kind = 4 ∨ t.kind = 5
  · have h := sp_inr t.a 0 s
    rw [show rnum v s p t = (decide (0 ≤ t.a) && decide (t.a < s)) by simp [rnum, k1, k2, k3]]
    rcases k3 with k3 | k3 | k3
    all_goals
      refine Am.Spec.of_W (W := W53) Try.func53 (by kernel_rfl) (by kernel_rfl) (by kernel_rfl) Try.ntmps53 W53_eq (rs := [.tmp 8]) (by kernel_rfl) (by simp) ?_
      intro vs
      simp [k3]
      refine scall_pure h (by simp) (by simp) ?_
      simp [retW_eq]
  by_cases k6 : t.kind = 6
  · have h := sp_inr t.a 0 s
    have h2 := sp_inr t.b 0 s
    rw [show rnum v s p t = ((decide (0 ≤ t.a) && decide (t.a < s)) && (decide (0 ≤ t.b) && decide (t.b < s))) by simp [rnum, k6]]
    generalize (decide (0 ≤ t.a) && decide (t.a < s)) = x at *
    generalize (decide (0 ≤ t.b) && decide (t.b < s)) = y at *
    cases x
    · refine Am.Spec.of_W (W := W53) Try.func53 (by kernel_rfl) (by kernel_rfl) (by kernel_rfl) Try.ntmps53 W53_eq (rs := [.tmp 8]) (by kernel_rfl) (by simp) ?_
      intro vs
      simp [k6]
      refine scall_pure h (by simp) (by simp) ?_
      simp [retW_eq]
    · refine Am.Spec.of_W (W := W53) Try.func53 (by kernel_rfl) (by kernel_rfl) (by kernel_rfl) Try.ntmps53 W53_eq (rs := [.tmp 8]) (by kernel_rfl) (by simp) ?_
      intro vs
      simp [k6]
      refine scall_pure h (by simp) (by simp) ?_
      simp
      refine scall_pure h2 (by simp) (by simp) ?_
      simp [retW_eq]
  by_cases k13 : t.kind = 13
  · have h := sp_inr t.a 0 p
    rw [show rnum v s p t = (decide (0 ≤ t.a) && decide (t.a < p)) by simp [rnum, k13]]
    refine Am.Spec.of_W (W := W53) Try.func53 (by kernel_rfl) (by kernel_rfl) (by kernel_rfl) Try.ntmps53 W53_eq (rs := [.tmp 8]) (by kernel_rfl) (by simp) ?_
    intro vs
    simp [k13]
    refine scall_pure h (by simp) (by simp) ?_
    simp [retW_eq]
  by_cases k14 : t.kind = 14
  · have h := sp_inr t.b (-1) v
    rw [show rnum v s p t = (decide (0 ≤ t.a) && (decide (-1 ≤ t.b) && decide (t.b < v))) by simp [rnum, k14]]
    by_cases a0 : 0 ≤ t.a
    · rw [decide_eq_true a0, Bool.true_and]
      refine Am.Spec.of_W (W := W53) Try.func53 (by kernel_rfl) (by kernel_rfl) (by kernel_rfl) Try.ntmps53 W53_eq (rs := [.tmp 8]) (by kernel_rfl) (by simp) ?_
      intro vs
      simp [k14, a0]
      refine scall_pure h (by simp) (by simp) ?_
      simp [retW_eq]
    · refine Am.Spec.of_W (W := W53) Try.func53 (by kernel_rfl) (by kernel_rfl) (by kernel_rfl) Try.ntmps53 W53_eq (rs := [.tmp 8]) (by kernel_rfl) (by simp) ?_
      intro vs
      simp [k14, a0, retW_eq]
  obtain ⟨k3a, k3b, k3c⟩ : t.kind ≠ 3 ∧ t.kind ≠ 4 ∧ t.kind ≠ 5 := by omega
  rw [show rnum v s p t = true by simp [rnum, k1, k2, k3, k6, k13, k14]]
  refine Am.Spec.of_W (W := W53) Try.func53 (by kernel_rfl) (by kernel_rfl) (by kernel_rfl) Try.ntmps53 W53_eq (rs := [.tmp 8]) (by kernel_rfl) (by simp) ?_
  intro vs
  simp [k1, k2, k3a, k3b, k3c, k6, k13, k14, retW_eq]
theorem any_drop {α : Type} (f : α → Bool) (l : List α) (i : Nat) (h : i < l.length) : (l.drop i).any f = (f l[i] || (l.drop (i + 1)).any f) := by
  rw [List.drop_eq_getElem_cons h, List.any_cons]
theorem sp_any (t : Tm) (hw : t.lok) : Am.Spec Try.prog 57 [.agg (encT t)] (.bool (tmAny t)) := by
  have hlen := Tm.lok_len hw
  have ih : ∀ z ∈ t.l, Am.Spec Try.prog 57 [.agg (encT z)] (.bool (tmAny z)) := fun z hz => sp_any z (Tm.lok_mem hw hz)
  rw [tmAny_eq]
  by_cases k : t.kind = 14
  · rw [decide_eq_true k]
    refine Am.Spec.of_W (W := W57) Try.func57 (by kernel_rfl) (by kernel_rfl) (by kernel_rfl) Try.ntmps57 W57_eq (rs := [.tmp 2]) (by kernel_rfl) (by simp) ?_
    intro vs
    simp [k, retW_eq]
  · rw [decide_eq_false k]
    simp only [Bool.false_or]
    generalize hR : t.l.any tmAny = R
    refine Am.Spec.of_W (W := W57) Try.func57 (by kernel_rfl) (by kernel_rfl) (by kernel_rfl) Try.ntmps57 W57_eq (rs := [.tmp 2]) (by kernel_rfl) (by simp) ?_
    intro vs
    simp [-W57_l7, k]
    refine sLoop_intro (fun i => i ≤ t.l.length ∧ R = (t.l.drop i).any tmAny) (fun i => t.l.length - i) (fun i => [(1, .ref 1 (vs 1 + 1) (.p 0)), (3, .int .i64 (i : Nat))]) (fun _ => [(1, .box (vs 1 + 1) 34 (encT t))]) 0 (by simp [hR]) (by simp) (by simp) ?_
    rintro L i vt ⟨hi, hj⟩ hL
    by_cases h : i < t.l.length
    · have h' : (i : Int) < t.l.length := by omega
      have hx := ih _ (List.getElem_mem h)
      rw [any_drop _ _ _ h] at hj
      rw [hj]
      generalize tmAny t.l[i] = b at *
      cases b
      · simp [h, h']
        refine scall_pure hx (by simp) (by simp) ?_
        simp
        rw [wrap64 (by omega) (by omega)]
        exact hL _ _ _ (i + 1) ⟨h, by rw [hj]; simp⟩ (by omega) (by simp) (by simp)
      · simp [h, h']
        refine scall_pure hx (by simp) (by simp) ?_
        simp [retW_eq]
    · have h' : ¬ (i : Int) < t.l.length := by omega
      have e : R = false := by rw [hj, List.drop_of_length_le (by omega)]; rfl
      rw [e]
      simp [h, h', retW_eq]
termination_by SizeOf.sizeOf t
decreasing_by exact Tm.lt_of_mem hz

/-! ### Right -/
theorem rr_loop (v s p : Int) (t : Tm) (hlen : t.l.length ≤ 137438953472) (ih : ∀ z ∈ t.l, Am.Spec Try.prog 35 [.agg (encT z), .int .i64 v, .int .i64 s, .int .i64 p] (.bool (tmRight v s p z false))) (R E : Bool) (hR : R = t.l.all fun x => tmRight v s p x false)
    (hE : (¬ t.kind = 3 ∧ E = true) ∨ (t.kind = 3 ∧ ∃ y, t.l = [y] ∧ E = !tmAny y ∧ y.lok)) (v4 : Nat) (T : List (Nat × AV)) (H : List (Nat × Blk)) (vs : Nat → Nat)
    (hT : Am.subT T [(1, .int .i64 v), (2, .int .i64 s), (3, .int .i64 p), (4, .ref 4 v4 (.p 0)), (10, .int .i64 0)]) (hH : subA H [(4, .box v4 34 (encT t))]) :
    @sLoop ⟨Am.look T, hls H vs, noG⟩ ⟨fun L0 s => W35_l15 Try.prog (retK Try.prog [.tmp 8] (.bool (R && E))) L0 s⟩ := by
  refine sLoop_intro (fun i => i ≤ t.l.length ∧ R = (t.l.drop i).all fun x => tmRight v s p x false) (fun i => t.l.length - i)
    (fun i => [(1, .int .i64 v), (2, .int .i64 s), (3, .int .i64 p), (4, .ref 4 v4 (.p 0)), (10, .int .i64 (i : Nat))]) (fun _ => [(4, .box v4 34 (encT t))]) 0 (by simp [hR]) (by simpa using hT) (by simpa using hH) ?_
  rintro L i vt ⟨hi, hj⟩ hL
  by_cases h : i < t.l.length
  · have h' : (i : Int) < t.l.length := by omega
    have hx := ih _ (List.getElem_mem h)
    rw [all_drop _ _ _ h] at hj
    generalize hb : tmRight v s p t.l[i] false = b at *
    cases b
    · rw [hj]
      simp [h, h']
      refine scall_pure hx (by simp) (by simp) ?_
      simp [retW_eq]
    · simp [-W35_k10, h, h']
      refine scall_pure hx (by simp) (by simp) ?_
      simp [-W35_k10]
      rw [wrap64 (by omega) (by omega)]
      exact hL _ _ _ (i + 1) ⟨h, by rw [hj]; simp⟩ (by omega) (by simp) (by simp)
  · have h' : ¬ (i : Int) < t.l.length := by omega
    have e : R = true := by rw [hj, all_end _ _ _ (by omega)]
    rw [e]
    rcases hE with ⟨k3, rfl⟩ | ⟨k3, y, hy, rfl, hyl⟩
    · simp [h, h', k3, retW_eq]
    · have ha := sp_any y hyl
      generalize tmAny y = b at *
      have hl1 : t.l.length = 1 := by rw [hy]; rfl
      have h'' : ¬ (i : Int) < 1 := by omega
      simp [h'', k3, hy]
      refine scall_pure ha (by simp) (by simp) ?_
      simp [retW_eq]
set_option maxHeartbeats 1000000 in
theorem rr_0000 (v s p : Int) (t : Tm) (B R E bn b4 b5 b6 : Bool) (kl : Int) (c0 : ¬ t.kind < 0) (c1 : ¬ 14 < t.kind) (hof : Am.Spec Try.prog 52 [.int .i64 t.kind] (.agg [.bool false, .bool false, .bool false, .bool false, .int .i64 kl]))
    (hnum : Am.Spec Try.prog 53 [.agg (encT t), .int .i64 v, .int .i64 s, .int .i64 p] (.bool bn)) (h4 : Am.Spec Try.prog 54 [.str t.name] (.bool b4)) (hz : t.name = ⟨#[]⟩ → b4 = false) (h5 : Am.Spec Try.prog 55 [.agg (encE t.e), .int .i64 v] (.bool b5))
    (h6 : Am.Spec Try.prog 56 [.agg (encE t.e), .agg [.int .i64 0, .int .i64 0, .str ⟨#[]⟩, .sl []]] (.bool b6))
    (hloop : (t.l.length : Int) = kl → ∀ (v4 : Nat) (T : List (Nat × AV)) (H : List (Nat × Blk)) (vs : Nat → Nat), Am.subT T [(1, .int .i64 v), (2, .int .i64 s), (3, .int .i64 p), (4, .ref 4 v4 (.p 0)), (10, .int .i64 0)] → subA H [(4, .box v4 34 (encT t))] →
      @sLoop ⟨Am.look T, hls H vs, noG⟩ ⟨fun L0 s => W35_l15 Try.prog (retK Try.prog [.tmp 8] (.bool (R && E))) L0 s⟩)
    (hB : B = (decide ((t.l.length : Int) = kl) && (bn && (decide (t.a = 0) && (decide (t.b = 0) && (decide (t.name = ⟨#[]⟩) && (b6 && (R && E)))))))) : Am.Spec Try.prog 35 [.agg (encT t), .int .i64 v, .int .i64 s, .int .i64 p] (.bool B) := by
  by_cases d1 : (t.l.length : Int) = kl
  rotate_left
  · rw [decide_eq_false d1] at hB
    simp only [Bool.false_and, Bool.and_false] at hB
    subst hB
    refine Am.Spec.of_W (W := W35) Try.func35 (by kernel_rfl) (by kernel_rfl) (by kernel_rfl) Try.ntmps35 W35_eq (rs := [.tmp 8]) (by kernel_rfl) (by simp) ?_
    intro vs
    simp [c0, c1, d1]
    refine scall_pure hof (by simp) (by simp) ?_
    simp [c0, c1, d1, retW_eq]
  rw [decide_eq_true d1] at hB
  cases bn
  · simp only [Bool.false_and, Bool.and_false] at hB
    subst hB
    refine Am.Spec.of_W (W := W35) Try.func35 (by kernel_rfl) (by kernel_rfl) (by kernel_rfl) Try.ntmps35 W35_eq (rs := [.tmp 8]) (by kernel_rfl) (by simp) ?_
    intro vs
    simp [c0, c1, d1]
    refine scall_pure hof (by simp) (by simp) ?_
    simp [c0, c1, d1]
    refine scall_pure hnum (by simp) (by simp) ?_
    simp [c0, c1, d1, retW_eq]
  by_cases d2 : t.a = 0
  rotate_left
  · rw [decide_eq_false d2] at hB
    simp only [Bool.false_and, Bool.and_false] at hB
    subst hB
    refine Am.Spec.of_W (W := W35) Try.func35 (by kernel_rfl) (by kernel_rfl) (by kernel_rfl) Try.ntmps35 W35_eq (rs := [.tmp 8]) (by kernel_rfl) (by simp) ?_
    intro vs
    simp [c0, c1, d1, d2]
    refine scall_pure hof (by simp) (by simp) ?_
    simp [c0, c1, d1, d2]
    refine scall_pure hnum (by simp) (by simp) ?_
    simp [c0, c1, d1, d2, retW_eq]
  rw [decide_eq_true d2] at hB
  by_cases d3 : t.b = 0
  rotate_left
  · rw [decide_eq_false d3] at hB
    simp only [Bool.false_and, Bool.and_false] at hB
    subst hB
    refine Am.Spec.of_W (W := W35) Try.func35 (by kernel_rfl) (by kernel_rfl) (by kernel_rfl) Try.ntmps35 W35_eq (rs := [.tmp 8]) (by kernel_rfl) (by simp) ?_
    intro vs
    simp [c0, c1, d1, d2, d3]
    refine scall_pure hof (by simp) (by simp) ?_
    simp [c0, c1, d1, d2, d3]
    refine scall_pure hnum (by simp) (by simp) ?_
    simp [c0, c1, d1, d2, d3, retW_eq]
  rw [decide_eq_true d3] at hB
  by_cases d4 : t.name = ⟨#[]⟩
  rotate_left
  · rw [decide_eq_false d4] at hB
    simp only [Bool.false_and, Bool.and_false] at hB
    subst hB
    refine Am.Spec.of_W (W := W35) Try.func35 (by kernel_rfl) (by kernel_rfl) (by kernel_rfl) Try.ntmps35 W35_eq (rs := [.tmp 8]) (by kernel_rfl) (by simp) ?_
    intro vs
    simp [c0, c1, d1, d2, d3, d4]
    refine scall_pure hof (by simp) (by simp) ?_
    simp [c0, c1, d1, d2, d3, d4]
    refine scall_pure hnum (by simp) (by simp) ?_
    simp [c0, c1, d1, d2, d3, d4, retW_eq]
  rw [decide_eq_true d4] at hB
  cases b6
  · simp only [Bool.false_and, Bool.and_false] at hB
    subst hB
    refine Am.Spec.of_W (W := W35) Try.func35 (by kernel_rfl) (by kernel_rfl) (by kernel_rfl) Try.ntmps35 W35_eq (rs := [.tmp 8]) (by kernel_rfl) (by simp) ?_
    intro vs
    simp [c0, c1, d1, d2, d3, d4]
    refine scall_pure hof (by simp) (by simp) ?_
    simp [c0, c1, d1, d2, d3, d4]
    refine scall_pure hnum (by simp) (by simp) ?_
    simp [c0, c1, d1, d2, d3, d4]
    refine scall_pure h6 (by simp) (by simp) ?_
    simp [c0, c1, d1, d2, d3, d4, retW_eq]
  simp only [Bool.true_and] at hB
  subst hB
  refine Am.Spec.of_W (W := W35) Try.func35 (by kernel_rfl) (by kernel_rfl) (by kernel_rfl) Try.ntmps35 W35_eq (rs := [.tmp 8]) (by kernel_rfl) (by simp) ?_
  intro vs
  simp [-W35_l15, c0, c1, d1, d2, d3, d4]
  refine scall_pure hof (by simp) (by simp) ?_
  simp [-W35_l15, c0, c1, d1, d2, d3, d4]
  refine scall_pure hnum (by simp) (by simp) ?_
  simp [-W35_l15, c0, c1, d1, d2, d3, d4]
  refine scall_pure h6 (by simp) (by simp) ?_
  simp [-W35_l15, c0, c1, d1, d2, d3, d4]
  exact hloop d1 (vs 4 + 1) _ _ _ (by simp) (by simp)
set_option maxHeartbeats 1000000 in
theorem rr_1010 (v s p : Int) (t : Tm) (B R E bn b4 b5 b6 : Bool) (kl : Int) (c0 : ¬ t.kind < 0) (c1 : ¬ 14 < t.kind) (hof : Am.Spec Try.prog 52 [.int .i64 t.kind] (.agg [.bool true, .bool false, .bool true, .bool false, .int .i64 kl]))
    (hnum : Am.Spec Try.prog 53 [.agg (encT t), .int .i64 v, .int .i64 s, .int .i64 p] (.bool bn)) (h4 : Am.Spec Try.prog 54 [.str t.name] (.bool b4)) (hz : t.name = ⟨#[]⟩ → b4 = false) (h5 : Am.Spec Try.prog 55 [.agg (encE t.e), .int .i64 v] (.bool b5))
    (h6 : Am.Spec Try.prog 56 [.agg (encE t.e), .agg [.int .i64 0, .int .i64 0, .str ⟨#[]⟩, .sl []]] (.bool b6))
    (hloop : (t.l.length : Int) = kl → ∀ (v4 : Nat) (T : List (Nat × AV)) (H : List (Nat × Blk)) (vs : Nat → Nat), Am.subT T [(1, .int .i64 v), (2, .int .i64 s), (3, .int .i64 p), (4, .ref 4 v4 (.p 0)), (10, .int .i64 0)] → subA H [(4, .box v4 34 (encT t))] →
      @sLoop ⟨Am.look T, hls H vs, noG⟩ ⟨fun L0 s => W35_l15 Try.prog (retK Try.prog [.tmp 8] (.bool (R && E))) L0 s⟩)
    (hB : B = (decide ((t.l.length : Int) = kl) && (bn && (decide (t.b = 0) && (b4 && (b6 && (R && E))))))) : Am.Spec Try.prog 35 [.agg (encT t), .int .i64 v, .int .i64 s, .int .i64 p] (.bool B) := by
  by_cases d1 : (t.l.length : Int) = kl
  rotate_left
  · rw [decide_eq_false d1] at hB
    simp only [Bool.false_and, Bool.and_false] at hB
    subst hB
    refine Am.Spec.of_W (W := W35) Try.func35 (by kernel_rfl) (by kernel_rfl) (by kernel_rfl) Try.ntmps35 W35_eq (rs := [.tmp 8]) (by kernel_rfl) (by simp) ?_
    intro vs
    simp [c0, c1, d1]
    refine scall_pure hof (by simp) (by simp) ?_
    simp [c0, c1, d1, retW_eq]
  rw [decide_eq_true d1] at hB
  cases bn
  · simp only [Bool.false_and, Bool.and_false] at hB
    subst hB
    refine Am.Spec.of_W (W := W35) Try.func35 (by kernel_rfl) (by kernel_rfl) (by kernel_rfl) Try.ntmps35 W35_eq (rs := [.tmp 8]) (by kernel_rfl) (by simp) ?_
    intro vs
    simp [c0, c1, d1]
    refine scall_pure hof (by simp) (by simp) ?_
    simp [c0, c1, d1]
    refine scall_pure hnum (by simp) (by simp) ?_
    simp [c0, c1, d1, retW_eq]
  by_cases d3 : t.b = 0
  rotate_left
  · rw [decide_eq_false d3] at hB
    simp only [Bool.false_and, Bool.and_false] at hB
    subst hB
    refine Am.Spec.of_W (W := W35) Try.func35 (by kernel_rfl) (by kernel_rfl) (by kernel_rfl) Try.ntmps35 W35_eq (rs := [.tmp 8]) (by kernel_rfl) (by simp) ?_
    intro vs
    simp [c0, c1, d1, d3]
    refine scall_pure hof (by simp) (by simp) ?_
    simp [c0, c1, d1, d3]
    refine scall_pure hnum (by simp) (by simp) ?_
    simp [c0, c1, d1, d3, retW_eq]
  rw [decide_eq_true d3] at hB
  by_cases d4 : t.name = ⟨#[]⟩
  · rw [hz d4] at hB
    simp only [Bool.false_and, Bool.and_false] at hB
    subst hB
    refine Am.Spec.of_W (W := W35) Try.func35 (by kernel_rfl) (by kernel_rfl) (by kernel_rfl) Try.ntmps35 W35_eq (rs := [.tmp 8]) (by kernel_rfl) (by simp) ?_
    intro vs
    simp [c0, c1, d1, d3, d4]
    refine scall_pure hof (by simp) (by simp) ?_
    simp [c0, c1, d1, d3, d4]
    refine scall_pure hnum (by simp) (by simp) ?_
    simp [c0, c1, d1, d3, d4, retW_eq]
  cases b4
  · simp only [Bool.false_and, Bool.and_false] at hB
    subst hB
    refine Am.Spec.of_W (W := W35) Try.func35 (by kernel_rfl) (by kernel_rfl) (by kernel_rfl) Try.ntmps35 W35_eq (rs := [.tmp 8]) (by kernel_rfl) (by simp) ?_
    intro vs
    simp [c0, c1, d1, d3, d4]
    refine scall_pure hof (by simp) (by simp) ?_
    simp [c0, c1, d1, d3, d4]
    refine scall_pure hnum (by simp) (by simp) ?_
    simp [c0, c1, d1, d3, d4]
    refine scall_pure h4 (by simp) (by simp) ?_
    simp [c0, c1, d1, d3, d4, retW_eq]
  cases b6
  · simp only [Bool.false_and, Bool.and_false] at hB
    subst hB
    refine Am.Spec.of_W (W := W35) Try.func35 (by kernel_rfl) (by kernel_rfl) (by kernel_rfl) Try.ntmps35 W35_eq (rs := [.tmp 8]) (by kernel_rfl) (by simp) ?_
    intro vs
    simp [c0, c1, d1, d3, d4]
    refine scall_pure hof (by simp) (by simp) ?_
    simp [c0, c1, d1, d3, d4]
    refine scall_pure hnum (by simp) (by simp) ?_
    simp [c0, c1, d1, d3, d4]
    refine scall_pure h4 (by simp) (by simp) ?_
    simp [c0, c1, d1, d3, d4]
    refine scall_pure h6 (by simp) (by simp) ?_
    simp [c0, c1, d1, d3, d4, retW_eq]
  simp only [Bool.true_and] at hB
  subst hB
  refine Am.Spec.of_W (W := W35) Try.func35 (by kernel_rfl) (by kernel_rfl) (by kernel_rfl) Try.ntmps35 W35_eq (rs := [.tmp 8]) (by kernel_rfl) (by simp) ?_
  intro vs
  simp [-W35_l15, c0, c1, d1, d3, d4]
  refine scall_pure hof (by simp) (by simp) ?_
  simp [-W35_l15, c0, c1, d1, d3, d4]
  refine scall_pure hnum (by simp) (by simp) ?_
  simp [-W35_l15, c0, c1, d1, d3, d4]
  refine scall_pure h4 (by simp) (by simp) ?_
  simp [-W35_l15, c0, c1, d1, d3, d4]
  refine scall_pure h6 (by simp) (by simp) ?_
  simp [-W35_l15, c0, c1, d1, d3, d4]
  exact hloop d1 (vs 4 + 1) _ _ _ (by simp) (by simp)
set_option maxHeartbeats 1000000 in
theorem rr_1001 (v s p : Int) (t : Tm) (B R E bn b4 b5 b6 : Bool) (kl : Int) (c0 : ¬ t.kind < 0) (c1 : ¬ 14 < t.kind) (hof : Am.Spec Try.prog 52 [.int .i64 t.kind] (.agg [.bool true, .bool false, .bool false, .bool true, .int .i64 kl]))
    (hnum : Am.Spec Try.prog 53 [.agg (encT t), .int .i64 v, .int .i64 s, .int .i64 p] (.bool bn)) (h4 : Am.Spec Try.prog 54 [.str t.name] (.bool b4)) (hz : t.name = ⟨#[]⟩ → b4 = false) (h5 : Am.Spec Try.prog 55 [.agg (encE t.e), .int .i64 v] (.bool b5))
    (h6 : Am.Spec Try.prog 56 [.agg (encE t.e), .agg [.int .i64 0, .int .i64 0, .str ⟨#[]⟩, .sl []]] (.bool b6))
    (hloop : (t.l.length : Int) = kl → ∀ (v4 : Nat) (T : List (Nat × AV)) (H : List (Nat × Blk)) (vs : Nat → Nat), Am.subT T [(1, .int .i64 v), (2, .int .i64 s), (3, .int .i64 p), (4, .ref 4 v4 (.p 0)), (10, .int .i64 0)] → subA H [(4, .box v4 34 (encT t))] →
      @sLoop ⟨Am.look T, hls H vs, noG⟩ ⟨fun L0 s => W35_l15 Try.prog (retK Try.prog [.tmp 8] (.bool (R && E))) L0 s⟩)
    (hB : B = (decide ((t.l.length : Int) = kl) && (bn && (decide (t.b = 0) && (decide (t.name = ⟨#[]⟩) && (b5 && (R && E))))))) : Am.Spec Try.prog 35 [.agg (encT t), .int .i64 v, .int .i64 s, .int .i64 p] (.bool B) := by
  by_cases d1 : (t.l.length : Int) = kl
  rotate_left
  · rw [decide_eq_false d1] at hB
    simp only [Bool.false_and, Bool.and_false] at hB
    subst hB
    refine Am.Spec.of_W (W := W35) Try.func35 (by kernel_rfl) (by kernel_rfl) (by kernel_rfl) Try.ntmps35 W35_eq (rs := [.tmp 8]) (by kernel_rfl) (by simp) ?_
    intro vs
    simp [c0, c1, d1]
    refine scall_pure hof (by simp) (by simp) ?_
    simp [c0, c1, d1, retW_eq]
  rw [decide_eq_true d1] at hB
  cases bn
  · simp only [Bool.false_and, Bool.and_false] at hB
    subst hB
    refine Am.Spec.of_W (W := W35) Try.func35 (by kernel_rfl) (by kernel_rfl) (by kernel_rfl) Try.ntmps35 W35_eq (rs := [.tmp 8]) (by kernel_rfl) (by simp) ?_
    intro vs
    simp [c0, c1, d1]
    refine scall_pure hof (by simp) (by simp) ?_
    simp [c0, c1, d1]
    refine scall_pure hnum (by simp) (by simp) ?_
    simp [c0, c1, d1, retW_eq]
  by_cases d3 : t.b = 0
  rotate_left
  · rw [decide_eq_false d3] at hB
    simp only [Bool.false_and, Bool.and_false] at hB
    subst hB
    refine Am.Spec.of_W (W := W35) Try.func35 (by kernel_rfl) (by kernel_rfl) (by kernel_rfl) Try.ntmps35 W35_eq (rs := [.tmp 8]) (by kernel_rfl) (by simp) ?_
    intro vs
    simp [c0, c1, d1, d3]
    refine scall_pure hof (by simp) (by simp) ?_
    simp [c0, c1, d1, d3]
    refine scall_pure hnum (by simp) (by simp) ?_
    simp [c0, c1, d1, d3, retW_eq]
  rw [decide_eq_true d3] at hB
  by_cases d4 : t.name = ⟨#[]⟩
  rotate_left
  · rw [decide_eq_false d4] at hB
    simp only [Bool.false_and, Bool.and_false] at hB
    subst hB
    refine Am.Spec.of_W (W := W35) Try.func35 (by kernel_rfl) (by kernel_rfl) (by kernel_rfl) Try.ntmps35 W35_eq (rs := [.tmp 8]) (by kernel_rfl) (by simp) ?_
    intro vs
    simp [c0, c1, d1, d3, d4]
    refine scall_pure hof (by simp) (by simp) ?_
    simp [c0, c1, d1, d3, d4]
    refine scall_pure hnum (by simp) (by simp) ?_
    simp [c0, c1, d1, d3, d4, retW_eq]
  rw [decide_eq_true d4] at hB
  cases b5
  · simp only [Bool.false_and, Bool.and_false] at hB
    subst hB
    refine Am.Spec.of_W (W := W35) Try.func35 (by kernel_rfl) (by kernel_rfl) (by kernel_rfl) Try.ntmps35 W35_eq (rs := [.tmp 8]) (by kernel_rfl) (by simp) ?_
    intro vs
    simp [c0, c1, d1, d3, d4]
    refine scall_pure hof (by simp) (by simp) ?_
    simp [c0, c1, d1, d3, d4]
    refine scall_pure hnum (by simp) (by simp) ?_
    simp [c0, c1, d1, d3, d4]
    refine scall_pure h5 (by simp) (by simp) ?_
    simp [c0, c1, d1, d3, d4, retW_eq]
  simp only [Bool.true_and] at hB
  subst hB
  refine Am.Spec.of_W (W := W35) Try.func35 (by kernel_rfl) (by kernel_rfl) (by kernel_rfl) Try.ntmps35 W35_eq (rs := [.tmp 8]) (by kernel_rfl) (by simp) ?_
  intro vs
  simp [-W35_l15, c0, c1, d1, d3, d4]
  refine scall_pure hof (by simp) (by simp) ?_
  simp [-W35_l15, c0, c1, d1, d3, d4]
  refine scall_pure hnum (by simp) (by simp) ?_
  simp [-W35_l15, c0, c1, d1, d3, d4]
  refine scall_pure h5 (by simp) (by simp) ?_
  simp [-W35_l15, c0, c1, d1, d3, d4]
  exact hloop d1 (vs 4 + 1) _ _ _ (by simp) (by simp)
set_option maxHeartbeats 1000000 in
theorem rr_1000 (v s p : Int) (t : Tm) (B R E bn b4 b5 b6 : Bool) (kl : Int) (c0 : ¬ t.kind < 0) (c1 : ¬ 14 < t.kind) (hof : Am.Spec Try.prog 52 [.int .i64 t.kind] (.agg [.bool true, .bool false, .bool false, .bool false, .int .i64 kl]))
    (hnum : Am.Spec Try.prog 53 [.agg (encT t), .int .i64 v, .int .i64 s, .int .i64 p] (.bool bn)) (h4 : Am.Spec Try.prog 54 [.str t.name] (.bool b4)) (hz : t.name = ⟨#[]⟩ → b4 = false) (h5 : Am.Spec Try.prog 55 [.agg (encE t.e), .int .i64 v] (.bool b5))
    (h6 : Am.Spec Try.prog 56 [.agg (encE t.e), .agg [.int .i64 0, .int .i64 0, .str ⟨#[]⟩, .sl []]] (.bool b6))
    (hloop : (t.l.length : Int) = kl → ∀ (v4 : Nat) (T : List (Nat × AV)) (H : List (Nat × Blk)) (vs : Nat → Nat), Am.subT T [(1, .int .i64 v), (2, .int .i64 s), (3, .int .i64 p), (4, .ref 4 v4 (.p 0)), (10, .int .i64 0)] → subA H [(4, .box v4 34 (encT t))] →
      @sLoop ⟨Am.look T, hls H vs, noG⟩ ⟨fun L0 s => W35_l15 Try.prog (retK Try.prog [.tmp 8] (.bool (R && E))) L0 s⟩)
    (hB : B = (decide ((t.l.length : Int) = kl) && (bn && (decide (t.b = 0) && (decide (t.name = ⟨#[]⟩) && (b6 && (R && E))))))) : Am.Spec Try.prog 35 [.agg (encT t), .int .i64 v, .int .i64 s, .int .i64 p] (.bool B) := by
  by_cases d1 : (t.l.length : Int) = kl
  rotate_left
  · rw [decide_eq_false d1] at hB
    simp only [Bool.false_and, Bool.and_false] at hB
    subst hB
    refine Am.Spec.of_W (W := W35) Try.func35 (by kernel_rfl) (by kernel_rfl) (by kernel_rfl) Try.ntmps35 W35_eq (rs := [.tmp 8]) (by kernel_rfl) (by simp) ?_
    intro vs
    simp [c0, c1, d1]
    refine scall_pure hof (by simp) (by simp) ?_
    simp [c0, c1, d1, retW_eq]
  rw [decide_eq_true d1] at hB
  cases bn
  · simp only [Bool.false_and, Bool.and_false] at hB
    subst hB
    refine Am.Spec.of_W (W := W35) Try.func35 (by kernel_rfl) (by kernel_rfl) (by kernel_rfl) Try.ntmps35 W35_eq (rs := [.tmp 8]) (by kernel_rfl) (by simp) ?_
    intro vs
    simp [c0, c1, d1]
    refine scall_pure hof (by simp) (by simp) ?_
    simp [c0, c1, d1]
    refine scall_pure hnum (by simp) (by simp) ?_
    simp [c0, c1, d1, retW_eq]
  by_cases d3 : t.b = 0
  rotate_left
  · rw [decide_eq_false d3] at hB
    simp only [Bool.false_and, Bool.and_false] at hB
    subst hB
    refine Am.Spec.of_W (W := W35) Try.func35 (by kernel_rfl) (by kernel_rfl) (by kernel_rfl) Try.ntmps35 W35_eq (rs := [.tmp 8]) (by kernel_rfl) (by simp) ?_
    intro vs
    simp [c0, c1, d1, d3]
    refine scall_pure hof (by simp) (by simp) ?_
    simp [c0, c1, d1, d3]
    refine scall_pure hnum (by simp) (by simp) ?_
    simp [c0, c1, d1, d3, retW_eq]
  rw [decide_eq_true d3] at hB
  by_cases d4 : t.name = ⟨#[]⟩
  rotate_left
  · rw [decide_eq_false d4] at hB
    simp only [Bool.false_and, Bool.and_false] at hB
    subst hB
    refine Am.Spec.of_W (W := W35) Try.func35 (by kernel_rfl) (by kernel_rfl) (by kernel_rfl) Try.ntmps35 W35_eq (rs := [.tmp 8]) (by kernel_rfl) (by simp) ?_
    intro vs
    simp [c0, c1, d1, d3, d4]
    refine scall_pure hof (by simp) (by simp) ?_
    simp [c0, c1, d1, d3, d4]
    refine scall_pure hnum (by simp) (by simp) ?_
    simp [c0, c1, d1, d3, d4, retW_eq]
  rw [decide_eq_true d4] at hB
  cases b6
  · simp only [Bool.false_and, Bool.and_false] at hB
    subst hB
    refine Am.Spec.of_W (W := W35) Try.func35 (by kernel_rfl) (by kernel_rfl) (by kernel_rfl) Try.ntmps35 W35_eq (rs := [.tmp 8]) (by kernel_rfl) (by simp) ?_
    intro vs
    simp [c0, c1, d1, d3, d4]
    refine scall_pure hof (by simp) (by simp) ?_
    simp [c0, c1, d1, d3, d4]
    refine scall_pure hnum (by simp) (by simp) ?_
    simp [c0, c1, d1, d3, d4]
    refine scall_pure h6 (by simp) (by simp) ?_
    simp [c0, c1, d1, d3, d4, retW_eq]
  simp only [Bool.true_and] at hB
  subst hB
  refine Am.Spec.of_W (W := W35) Try.func35 (by kernel_rfl) (by kernel_rfl) (by kernel_rfl) Try.ntmps35 W35_eq (rs := [.tmp 8]) (by kernel_rfl) (by simp) ?_
  intro vs
  simp [-W35_l15, c0, c1, d1, d3, d4]
  refine scall_pure hof (by simp) (by simp) ?_
  simp [-W35_l15, c0, c1, d1, d3, d4]
  refine scall_pure hnum (by simp) (by simp) ?_
  simp [-W35_l15, c0, c1, d1, d3, d4]
  refine scall_pure h6 (by simp) (by simp) ?_
  simp [-W35_l15, c0, c1, d1, d3, d4]
  exact hloop d1 (vs 4 + 1) _ _ _ (by simp) (by simp)
set_option maxHeartbeats 1000000 in
theorem rr_1100 (v s p : Int) (t : Tm) (B R E bn b4 b5 b6 : Bool) (kl : Int) (c0 : ¬ t.kind < 0) (c1 : ¬ 14 < t.kind) (hof : Am.Spec Try.prog 52 [.int .i64 t.kind] (.agg [.bool true, .bool true, .bool false, .bool false, .int .i64 kl]))
    (hnum : Am.Spec Try.prog 53 [.agg (encT t), .int .i64 v, .int .i64 s, .int .i64 p] (.bool bn)) (h4 : Am.Spec Try.prog 54 [.str t.name] (.bool b4)) (hz : t.name = ⟨#[]⟩ → b4 = false) (h5 : Am.Spec Try.prog 55 [.agg (encE t.e), .int .i64 v] (.bool b5))
    (h6 : Am.Spec Try.prog 56 [.agg (encE t.e), .agg [.int .i64 0, .int .i64 0, .str ⟨#[]⟩, .sl []]] (.bool b6))
    (hloop : (t.l.length : Int) = kl → ∀ (v4 : Nat) (T : List (Nat × AV)) (H : List (Nat × Blk)) (vs : Nat → Nat), Am.subT T [(1, .int .i64 v), (2, .int .i64 s), (3, .int .i64 p), (4, .ref 4 v4 (.p 0)), (10, .int .i64 0)] → subA H [(4, .box v4 34 (encT t))] →
      @sLoop ⟨Am.look T, hls H vs, noG⟩ ⟨fun L0 s => W35_l15 Try.prog (retK Try.prog [.tmp 8] (.bool (R && E))) L0 s⟩)
    (hB : B = (decide ((t.l.length : Int) = kl) && (bn && (decide (t.name = ⟨#[]⟩) && (b6 && (R && E)))))) : Am.Spec Try.prog 35 [.agg (encT t), .int .i64 v, .int .i64 s, .int .i64 p] (.bool B) := by
  by_cases d1 : (t.l.length : Int) = kl
  rotate_left
  · rw [decide_eq_false d1] at hB
    simp only [Bool.false_and, Bool.and_false] at hB
    subst hB
    refine Am.Spec.of_W (W := W35) Try.func35 (by kernel_rfl) (by kernel_rfl) (by kernel_rfl) Try.ntmps35 W35_eq (rs := [.tmp 8]) (by kernel_rfl) (by simp) ?_
    intro vs
    simp [c0, c1, d1]
    refine scall_pure hof (by simp) (by simp) ?_
    simp [c0, c1, d1, retW_eq]
  rw [decide_eq_true d1] at hB
  cases bn
  · simp only [Bool.false_and, Bool.and_false] at hB
    subst hB
    refine Am.Spec.of_W (W := W35) Try.func35 (by kernel_rfl) (by kernel_rfl) (by kernel_rfl) Try.ntmps35 W35_eq (rs := [.tmp 8]) (by kernel_rfl) (by simp) ?_
    intro vs
    simp [c0, c1, d1]
    refine scall_pure hof (by simp) (by simp) ?_
    simp [c0, c1, d1]
    refine scall_pure hnum (by simp) (by simp) ?_
    simp [c0, c1, d1, retW_eq]
  by_cases d4 : t.name = ⟨#[]⟩
  rotate_left
  · rw [decide_eq_false d4] at hB
    simp only [Bool.false_and, Bool.and_false] at hB
    subst hB
    refine Am.Spec.of_W (W := W35) Try.func35 (by kernel_rfl) (by kernel_rfl) (by kernel_rfl) Try.ntmps35 W35_eq (rs := [.tmp 8]) (by kernel_rfl) (by simp) ?_
    intro vs
    simp [c0, c1, d1, d4]
    refine scall_pure hof (by simp) (by simp) ?_
    simp [c0, c1, d1, d4]
    refine scall_pure hnum (by simp) (by simp) ?_
    simp [c0, c1, d1, d4, retW_eq]
  rw [decide_eq_true d4] at hB
  cases b6
  · simp only [Bool.false_and, Bool.and_false] at hB
    subst hB
    refine Am.Spec.of_W (W := W35) Try.func35 (by kernel_rfl) (by kernel_rfl) (by kernel_rfl) Try.ntmps35 W35_eq (rs := [.tmp 8]) (by kernel_rfl) (by simp) ?_
    intro vs
    simp [c0, c1, d1, d4]
    refine scall_pure hof (by simp) (by simp) ?_
    simp [c0, c1, d1, d4]
    refine scall_pure hnum (by simp) (by simp) ?_
    simp [c0, c1, d1, d4]
    refine scall_pure h6 (by simp) (by simp) ?_
    simp [c0, c1, d1, d4, retW_eq]
  simp only [Bool.true_and] at hB
  subst hB
  refine Am.Spec.of_W (W := W35) Try.func35 (by kernel_rfl) (by kernel_rfl) (by kernel_rfl) Try.ntmps35 W35_eq (rs := [.tmp 8]) (by kernel_rfl) (by simp) ?_
  intro vs
  simp [-W35_l15, c0, c1, d1, d4]
  refine scall_pure hof (by simp) (by simp) ?_
  simp [-W35_l15, c0, c1, d1, d4]
  refine scall_pure hnum (by simp) (by simp) ?_
  simp [-W35_l15, c0, c1, d1, d4]
  refine scall_pure h6 (by simp) (by simp) ?_
  simp [-W35_l15, c0, c1, d1, d4]
  exact hloop d1 (vs 4 + 1) _ _ _ (by simp) (by simp)
set_option maxHeartbeats 1000000 in
theorem rr_0001 (v s p : Int) (t : Tm) (B R E bn b4 b5 b6 : Bool) (kl : Int) (c0 : ¬ t.kind < 0) (c1 : ¬ 14 < t.kind) (hof : Am.Spec Try.prog 52 [.int .i64 t.kind] (.agg [.bool false, .bool false, .bool false, .bool true, .int .i64 kl]))
    (hnum : Am.Spec Try.prog 53 [.agg (encT t), .int .i64 v, .int .i64 s, .int .i64 p] (.bool bn)) (h4 : Am.Spec Try.prog 54 [.str t.name] (.bool b4)) (hz : t.name = ⟨#[]⟩ → b4 = false) (h5 : Am.Spec Try.prog 55 [.agg (encE t.e), .int .i64 v] (.bool b5))
    (h6 : Am.Spec Try.prog 56 [.agg (encE t.e), .agg [.int .i64 0, .int .i64 0, .str ⟨#[]⟩, .sl []]] (.bool b6))
    (hloop : (t.l.length : Int) = kl → ∀ (v4 : Nat) (T : List (Nat × AV)) (H : List (Nat × Blk)) (vs : Nat → Nat), Am.subT T [(1, .int .i64 v), (2, .int .i64 s), (3, .int .i64 p), (4, .ref 4 v4 (.p 0)), (10, .int .i64 0)] → subA H [(4, .box v4 34 (encT t))] →
      @sLoop ⟨Am.look T, hls H vs, noG⟩ ⟨fun L0 s => W35_l15 Try.prog (retK Try.prog [.tmp 8] (.bool (R && E))) L0 s⟩)
    (hB : B = (decide ((t.l.length : Int) = kl) && (bn && (decide (t.a = 0) && (decide (t.b = 0) && (decide (t.name = ⟨#[]⟩) && (b5 && (R && E)))))))) : Am.Spec Try.prog 35 [.agg (encT t), .int .i64 v, .int .i64 s, .int .i64 p] (.bool B) := by
  by_cases d1 : (t.l.length : Int) = kl
  rotate_left
  · rw [decide_eq_false d1] at hB
    simp only [Bool.false_and, Bool.and_false] at hB
    subst hB
    refine Am.Spec.of_W (W := W35) Try.func35 (by kernel_rfl) (by kernel_rfl) (by kernel_rfl) Try.ntmps35 W35_eq (rs := [.tmp 8]) (by kernel_rfl) (by simp) ?_
    intro vs
    simp [c0, c1, d1]
    refine scall_pure hof (by simp) (by simp) ?_
    simp [c0, c1, d1, retW_eq]
  rw [decide_eq_true d1] at hB
  cases bn
  · simp only [Bool.false_and, Bool.and_false] at hB
    subst hB
    refine Am.Spec.of_W (W := W35) Try.func35 (by kernel_rfl) (by kernel_rfl) (by kernel_rfl) Try.ntmps35 W35_eq (rs := [.tmp 8]) (by kernel_rfl) (by simp) ?_
    intro vs
    simp [c0, c1, d1]
    refine scall_pure hof (by simp) (by simp) ?_
    simp [c0, c1, d1]
    refine scall_pure hnum (by simp) (by simp) ?_
    simp [c0, c1, d1, retW_eq]
  by_cases d2 : t.a = 0
  rotate_left
  · rw [decide_eq_false d2] at hB
    simp only [Bool.false_and, Bool.and_false] at hB
    subst hB
    refine Am.Spec.of_W (W := W35) Try.func35 (by kernel_rfl) (by kernel_rfl) (by kernel_rfl) Try.ntmps35 W35_eq (rs := [.tmp 8]) (by kernel_rfl) (by simp) ?_
    intro vs
    simp [c0, c1, d1, d2]
    refine scall_pure hof (by simp) (by simp) ?_
    simp [c0, c1, d1, d2]
    refine scall_pure hnum (by simp) (by simp) ?_
    simp [c0, c1, d1, d2, retW_eq]
  rw [decide_eq_true d2] at hB
  by_cases d3 : t.b = 0
  rotate_left
  · rw [decide_eq_false d3] at hB
    simp only [Bool.false_and, Bool.and_false] at hB
    subst hB
    refine Am.Spec.of_W (W := W35) Try.func35 (by kernel_rfl) (by kernel_rfl) (by kernel_rfl) Try.ntmps35 W35_eq (rs := [.tmp 8]) (by kernel_rfl) (by simp) ?_
    intro vs
    simp [c0, c1, d1, d2, d3]
    refine scall_pure hof (by simp) (by simp) ?_
    simp [c0, c1, d1, d2, d3]
    refine scall_pure hnum (by simp) (by simp) ?_
    simp [c0, c1, d1, d2, d3, retW_eq]
  rw [decide_eq_true d3] at hB
  by_cases d4 : t.name = ⟨#[]⟩
  rotate_left
  · rw [decide_eq_false d4] at hB
    simp only [Bool.false_and, Bool.and_false] at hB
    subst hB
    refine Am.Spec.of_W (W := W35) Try.func35 (by kernel_rfl) (by kernel_rfl) (by kernel_rfl) Try.ntmps35 W35_eq (rs := [.tmp 8]) (by kernel_rfl) (by simp) ?_
    intro vs
    simp [c0, c1, d1, d2, d3, d4]
    refine scall_pure hof (by simp) (by simp) ?_
    simp [c0, c1, d1, d2, d3, d4]
    refine scall_pure hnum (by simp) (by simp) ?_
    simp [c0, c1, d1, d2, d3, d4, retW_eq]
  rw [decide_eq_true d4] at hB
  cases b5
  · simp only [Bool.false_and, Bool.and_false] at hB
    subst hB
    refine Am.Spec.of_W (W := W35) Try.func35 (by kernel_rfl) (by kernel_rfl) (by kernel_rfl) Try.ntmps35 W35_eq (rs := [.tmp 8]) (by kernel_rfl) (by simp) ?_
    intro vs
    simp [c0, c1, d1, d2, d3, d4]
    refine scall_pure hof (by simp) (by simp) ?_
    simp [c0, c1, d1, d2, d3, d4]
    refine scall_pure hnum (by simp) (by simp) ?_
    simp [c0, c1, d1, d2, d3, d4]
    refine scall_pure h5 (by simp) (by simp) ?_
    simp [c0, c1, d1, d2, d3, d4, retW_eq]
  simp only [Bool.true_and] at hB
  subst hB
  refine Am.Spec.of_W (W := W35) Try.func35 (by kernel_rfl) (by kernel_rfl) (by kernel_rfl) Try.ntmps35 W35_eq (rs := [.tmp 8]) (by kernel_rfl) (by simp) ?_
  intro vs
  simp [-W35_l15, c0, c1, d1, d2, d3, d4]
  refine scall_pure hof (by simp) (by simp) ?_
  simp [-W35_l15, c0, c1, d1, d2, d3, d4]
  refine scall_pure hnum (by simp) (by simp) ?_
  simp [-W35_l15, c0, c1, d1, d2, d3, d4]
  refine scall_pure h5 (by simp) (by simp) ?_
  simp [-W35_l15, c0, c1, d1, d2, d3, d4]
  exact hloop d1 (vs 4 + 1) _ _ _ (by simp) (by simp)
set_option maxHeartbeats 1000000 in
theorem rr_1110 (v s p : Int) (t : Tm) (B R E bn b4 b5 b6 : Bool) (kl : Int) (c0 : ¬ t.kind < 0) (c1 : ¬ 14 < t.kind) (hof : Am.Spec Try.prog 52 [.int .i64 t.kind] (.agg [.bool true, .bool true, .bool true, .bool false, .int .i64 kl]))
    (hnum : Am.Spec Try.prog 53 [.agg (encT t), .int .i64 v, .int .i64 s, .int .i64 p] (.bool bn)) (h4 : Am.Spec Try.prog 54 [.str t.name] (.bool b4)) (hz : t.name = ⟨#[]⟩ → b4 = false) (h5 : Am.Spec Try.prog 55 [.agg (encE t.e), .int .i64 v] (.bool b5))
    (h6 : Am.Spec Try.prog 56 [.agg (encE t.e), .agg [.int .i64 0, .int .i64 0, .str ⟨#[]⟩, .sl []]] (.bool b6))
    (hloop : (t.l.length : Int) = kl → ∀ (v4 : Nat) (T : List (Nat × AV)) (H : List (Nat × Blk)) (vs : Nat → Nat), Am.subT T [(1, .int .i64 v), (2, .int .i64 s), (3, .int .i64 p), (4, .ref 4 v4 (.p 0)), (10, .int .i64 0)] → subA H [(4, .box v4 34 (encT t))] →
      @sLoop ⟨Am.look T, hls H vs, noG⟩ ⟨fun L0 s => W35_l15 Try.prog (retK Try.prog [.tmp 8] (.bool (R && E))) L0 s⟩)
    (hB : B = (decide ((t.l.length : Int) = kl) && (bn && (b4 && (b6 && (R && E)))))) : Am.Spec Try.prog 35 [.agg (encT t), .int .i64 v, .int .i64 s, .int .i64 p] (.bool B) := by
  by_cases d1 : (t.l.length : Int) = kl
  rotate_left
  · rw [decide_eq_false d1] at hB
    simp only [Bool.false_and, Bool.and_false] at hB
    subst hB
    refine Am.Spec.of_W (W := W35) Try.func35 (by kernel_rfl) (by kernel_rfl) (by kernel_rfl) Try.ntmps35 W35_eq (rs := [.tmp 8]) (by kernel_rfl) (by simp) ?_
    intro vs
    simp [c0, c1, d1]
    refine scall_pure hof (by simp) (by simp) ?_
    simp [c0, c1, d1, retW_eq]
  rw [decide_eq_true d1] at hB
  cases bn
  · simp only [Bool.false_and, Bool.and_false] at hB
    subst hB
    refine Am.Spec.of_W (W := W35) Try.func35 (by kernel_rfl) (by kernel_rfl) (by kernel_rfl) Try.ntmps35 W35_eq (rs := [.tmp 8]) (by kernel_rfl) (by simp) ?_
    intro vs
    simp [c0, c1, d1]
    refine scall_pure hof (by simp) (by simp) ?_
    simp [c0, c1, d1]
    refine scall_pure hnum (by simp) (by simp) ?_
    simp [c0, c1, d1, retW_eq]
  by_cases d4 : t.name = ⟨#[]⟩
  · rw [hz d4] at hB
    simp only [Bool.false_and, Bool.and_false] at hB
    subst hB
    refine Am.Spec.of_W (W := W35) Try.func35 (by kernel_rfl) (by kernel_rfl) (by kernel_rfl) Try.ntmps35 W35_eq (rs := [.tmp 8]) (by kernel_rfl) (by simp) ?_
    intro vs
    simp [c0, c1, d1, d4]
    refine scall_pure hof (by simp) (by simp) ?_
    simp [c0, c1, d1, d4]
    refine scall_pure hnum (by simp) (by simp) ?_
    simp [c0, c1, d1, d4, retW_eq]
  cases b4
  · simp only [Bool.false_and, Bool.and_false] at hB
    subst hB
    refine Am.Spec.of_W (W := W35) Try.func35 (by kernel_rfl) (by kernel_rfl) (by kernel_rfl) Try.ntmps35 W35_eq (rs := [.tmp 8]) (by kernel_rfl) (by simp) ?_
    intro vs
    simp [c0, c1, d1, d4]
    refine scall_pure hof (by simp) (by simp) ?_
    simp [c0, c1, d1, d4]
    refine scall_pure hnum (by simp) (by simp) ?_
    simp [c0, c1, d1, d4]
    refine scall_pure h4 (by simp) (by simp) ?_
    simp [c0, c1, d1, d4, retW_eq]
  cases b6
  · simp only [Bool.false_and, Bool.and_false] at hB
    subst hB
    refine Am.Spec.of_W (W := W35) Try.func35 (by kernel_rfl) (by kernel_rfl) (by kernel_rfl) Try.ntmps35 W35_eq (rs := [.tmp 8]) (by kernel_rfl) (by simp) ?_
    intro vs
    simp [c0, c1, d1, d4]
    refine scall_pure hof (by simp) (by simp) ?_
    simp [c0, c1, d1, d4]
    refine scall_pure hnum (by simp) (by simp) ?_
    simp [c0, c1, d1, d4]
    refine scall_pure h4 (by simp) (by simp) ?_
    simp [c0, c1, d1, d4]
    refine scall_pure h6 (by simp) (by simp) ?_
    simp [c0, c1, d1, d4, retW_eq]
  simp only [Bool.true_and] at hB
  subst hB
  refine Am.Spec.of_W (W := W35) Try.func35 (by kernel_rfl) (by kernel_rfl) (by kernel_rfl) Try.ntmps35 W35_eq (rs := [.tmp 8]) (by kernel_rfl) (by simp) ?_
  intro vs
  simp [-W35_l15, c0, c1, d1, d4]
  refine scall_pure hof (by simp) (by simp) ?_
  simp [-W35_l15, c0, c1, d1, d4]
  refine scall_pure hnum (by simp) (by simp) ?_
  simp [-W35_l15, c0, c1, d1, d4]
  refine scall_pure h4 (by simp) (by simp) ?_
  simp [-W35_l15, c0, c1, d1, d4]
  refine scall_pure h6 (by simp) (by simp) ?_
  simp [-W35_l15, c0, c1, d1, d4]
  exact hloop d1 (vs 4 + 1) _ _ _ (by simp) (by simp)
theorem nums_eq (v s p : Int) (t : Tm) (h0 : 0 ≤ t.kind) (h1 : t.kind ≤ 14) (X : Bool) : (numOk v s p (kA t.kind) t.a && (numOk v s p (kB t.kind) t.b && X)) = (rnum v s p t && ((fA t.kind || decide (t.a = 0)) && ((fB t.kind || decide (t.b = 0)) && X))) := by
  have : t.kind = 0 ∨ t.kind = 1 ∨ t.kind = 2 ∨ t.kind = 3 ∨ t.kind = 4 ∨ t.kind = 5 ∨ t.kind = 6 ∨ t.kind = 7 ∨ t.kind = 8 ∨ t.kind = 9 ∨ t.kind = 10 ∨ t.kind = 11 ∨ t.kind = 12 ∨ t.kind = 13 ∨ t.kind = 14 := by omega
  rcases this with h | h | h | h | h | h | h | h | h | h | h | h | h | h | h <;> simp [h, numOk, kA, kB, rnum, fA, fB, Bool.and_assoc]
theorem same_zero (x : Ex) : Ex.same x .zero = x.none := by
  have h : x.none = (decide (x.kind = 0) && (decide (x.n = 0) && (decide (x.name = ⟨#[]⟩) && decide (x.l = [])))) := rfl
  rw [Ex.same_eq, h]
  have e : eqL Ex.same x.l ([] : List Ex) = decide (x.l = []) := by cases x.l <;> simp [eqL]
  show (_ && (_ && (_ && eqL Ex.same x.l []))) = _
  rw [e]
  rfl
def tmE (t : Tm) : Bool := if t.kind = 3 then (match t.l with | [y] => !tmAny y | _ => true) else true
theorem rr_res (v s p : Int) (t : Tm) (h0 : 0 ≤ t.kind) (h1 : t.kind ≤ 14) : tmRight v s p t false = (decide ((t.l.length : Int) = kL t.kind) && (rnum v s p t && ((fA t.kind || decide (t.a = 0)) && ((fB t.kind || decide (t.b = 0)) &&
    ((if kN t.kind then nameOk t.name else decide (t.name = ⟨#[]⟩)) && ((if kE t.kind then exRight v t.e else t.e.none) && ((t.l.all fun x => tmRight v s p x false) && tmE t))))))) := by
  rw [tmRight_eq, decide_eq_true h0, decide_eq_true h1]
  simp only [Bool.true_and, Bool.false_and, Bool.not_false, Bool.false_or, tmOk, Bool.and_assoc]
  rw [nums_eq v s p t h0 h1]
  by_cases hl : (t.l.length : Int) = kL t.kind
  · have e : (t.l.all fun x => tmRight v s p x (decide (t.kind = 3))) = ((t.l.all fun x => tmRight v s p x false) && tmE t) := by
      unfold tmE
      by_cases h3 : t.kind = 3
      · rw [decide_eq_true h3, if_pos h3]
        rw [h3] at hl
        have hl : t.l.length = 1 := Int.ofNat.inj (hl.trans rfl)
        obtain ⟨y, hy⟩ := List.length_eq_one_iff.1 hl
        rw [hy]
        simp only [List.all_cons, List.all_nil, Bool.and_true]
        exact tmRight_pushed v s p y
      · rw [decide_eq_false h3, if_neg h3, Bool.and_true]
    rw [e, decide_eq_true hl]
    simp only [Bool.true_and]
  · rw [decide_eq_false hl]
    simp
theorem sp_rr (t : Tm) (v s p : Int) (hw : t.lok) : Am.Spec Try.prog 35 [.agg (encT t), .int .i64 v, .int .i64 s, .int .i64 p] (.bool (tmRight v s p t false)) := by
  have hlen := Tm.lok_len hw
  have ih : ∀ z ∈ t.l, Am.Spec Try.prog 35 [.agg (encT z), .int .i64 v, .int .i64 s, .int .i64 p] (.bool (tmRight v s p z false)) := fun z hz => sp_rr z v s p (Tm.lok_mem hw hz)
  have hof := sp_fof t.kind
  by_cases c0 : t.kind < 0
  · rw [tmRight_eq, decide_eq_false (show ¬ 0 ≤ t.kind by omega)]
    simp only [Bool.false_and]
    refine Am.Spec.of_W (W := W35) Try.func35 (by kernel_rfl) (by kernel_rfl) (by kernel_rfl) Try.ntmps35 W35_eq (rs := [.tmp 8]) (by kernel_rfl) (by simp) ?_
    intro vs
    simp [c0]
    refine scall_pure hof (by simp) (by simp) ?_
    simp [c0, retW_eq]
  by_cases c1 : 14 < t.kind
  · rw [tmRight_eq, decide_eq_false (show ¬ t.kind ≤ 14 by omega)]
    simp only [Bool.false_and, Bool.and_false]
    refine Am.Spec.of_W (W := W35) Try.func35 (by kernel_rfl) (by kernel_rfl) (by kernel_rfl) Try.ntmps35 W35_eq (rs := [.tmp 8]) (by kernel_rfl) (by simp) ?_
    intro vs
    simp [c0, c1]
    refine scall_pure hof (by simp) (by simp) ?_
    simp [c0, c1, retW_eq]
  have hres := rr_res v s p t (by omega) (by omega)
  have hnum := sp_numbs v s p t
  have h4 := sp_rnm t.name
  have hz : t.name = ⟨#[]⟩ → nameOk t.name = false := fun e => by
    cases h : nameOk t.name
    · rfl
    · exact absurd e (nameOk_ne _ h)
  have h5 := sp_r2r t.e v (Tm.lok_e hw)
  have h6 := sp_s2 t.e .zero (Tm.lok_e hw)
  rw [same_zero, show encE Ex.zero = [.int .i64 0, .int .i64 0, .str ⟨#[]⟩, .sl []] by simp [Ex.zero, encE_mk]] at h6
  have hloop : (t.l.length : Int) = kL t.kind → _ := fun hl => rr_loop v s p t hlen ih _ (tmE t) rfl (by
    by_cases h3 : t.kind = 3
    · rw [h3] at hl
      have hl : t.l.length = 1 := Int.ofNat.inj (hl.trans rfl)
      obtain ⟨y, hy⟩ := List.length_eq_one_iff.1 hl
      exact .inr ⟨h3, y, hy, by simp [tmE, h3, hy], Tm.lok_mem hw (by simp [hy])⟩
    · exact .inl ⟨h3, by simp [tmE, h3]⟩)
  have ks : t.kind = 0 ∨ t.kind = 1 ∨ t.kind = 2 ∨ t.kind = 3 ∨ t.kind = 4 ∨ t.kind = 5 ∨ t.kind = 6 ∨ t.kind = 7 ∨ t.kind = 8 ∨ t.kind = 9 ∨ t.kind = 10 ∨ t.kind = 11 ∨ t.kind = 12 ∨ t.kind = 13 ∨ t.kind = 14 := by omega
  rcases ks with h | h | h | h | h | h | h | h | h | h | h | h | h | h | h
  · exact rr_0000 v s p t _ _ _ _ _ _ _ _ c0 c1 (by simpa [h, fA, fB, kN, kE] using hof) hnum h4 hz h5 h6 hloop (by rw [hres]; simp [h, fA, fB, kN, kE])
  · exact rr_1010 v s p t _ _ _ _ _ _ _ _ c0 c1 (by simpa [h, fA, fB, kN, kE] using hof) hnum h4 hz h5 h6 hloop (by rw [hres]; simp [h, fA, fB, kN, kE])
  · exact rr_1001 v s p t _ _ _ _ _ _ _ _ c0 c1 (by simpa [h, fA, fB, kN, kE] using hof) hnum h4 hz h5 h6 hloop (by rw [hres]; simp [h, fA, fB, kN, kE])
  · exact rr_1000 v s p t _ _ _ _ _ _ _ _ c0 c1 (by simpa [h, fA, fB, kN, kE] using hof) hnum h4 hz h5 h6 hloop (by rw [hres]; simp [h, fA, fB, kN, kE])
  · exact rr_1000 v s p t _ _ _ _ _ _ _ _ c0 c1 (by simpa [h, fA, fB, kN, kE] using hof) hnum h4 hz h5 h6 hloop (by rw [hres]; simp [h, fA, fB, kN, kE])
  · exact rr_1000 v s p t _ _ _ _ _ _ _ _ c0 c1 (by simpa [h, fA, fB, kN, kE] using hof) hnum h4 hz h5 h6 hloop (by rw [hres]; simp [h, fA, fB, kN, kE])
  · exact rr_1100 v s p t _ _ _ _ _ _ _ _ c0 c1 (by simpa [h, fA, fB, kN, kE] using hof) hnum h4 hz h5 h6 hloop (by rw [hres]; simp [h, fA, fB, kN, kE])
  · exact rr_0000 v s p t _ _ _ _ _ _ _ _ c0 c1 (by simpa [h, fA, fB, kN, kE] using hof) hnum h4 hz h5 h6 hloop (by rw [hres]; simp [h, fA, fB, kN, kE])
  · exact rr_0000 v s p t _ _ _ _ _ _ _ _ c0 c1 (by simpa [h, fA, fB, kN, kE] using hof) hnum h4 hz h5 h6 hloop (by rw [hres]; simp [h, fA, fB, kN, kE])
  · exact rr_0001 v s p t _ _ _ _ _ _ _ _ c0 c1 (by simpa [h, fA, fB, kN, kE] using hof) hnum h4 hz h5 h6 hloop (by rw [hres]; simp [h, fA, fB, kN, kE])
  · exact rr_0000 v s p t _ _ _ _ _ _ _ _ c0 c1 (by simpa [h, fA, fB, kN, kE] using hof) hnum h4 hz h5 h6 hloop (by rw [hres]; simp [h, fA, fB, kN, kE])
  · exact rr_0000 v s p t _ _ _ _ _ _ _ _ c0 c1 (by simpa [h, fA, fB, kN, kE] using hof) hnum h4 hz h5 h6 hloop (by rw [hres]; simp [h, fA, fB, kN, kE])
  · exact rr_0000 v s p t _ _ _ _ _ _ _ _ c0 c1 (by simpa [h, fA, fB, kN, kE] using hof) hnum h4 hz h5 h6 hloop (by rw [hres]; simp [h, fA, fB, kN, kE])
  · exact rr_1000 v s p t _ _ _ _ _ _ _ _ c0 c1 (by simpa [h, fA, fB, kN, kE] using hof) hnum h4 hz h5 h6 hloop (by rw [hres]; simp [h, fA, fB, kN, kE])
  · exact rr_1110 v s p t _ _ _ _ _ _ _ _ c0 c1 (by simpa [h, fA, fB, kN, kE] using hof) hnum h4 hz h5 h6 hloop (by rw [hres]; simp [h, fA, fB, kN, kE])
termination_by SizeOf.sizeOf t
decreasing_by exact Tm.lt_of_mem hz
end Go.Proofs.Ytkagfenchknjjaa
set_option linter.unusedVariables false
set_option linter.unusedSimpArgs false
namespace Go.Proofs.Ytkagfenchknjjaa
open Go Go.Am Go.RowKit


/-! ### More variables, stacks, processes do no harm -/
theorem few_one5 (r : Rw3) : few3 [r] = decide (r.sz 0 ≤ 40) := by simp [few3]
theorem lok_le (t : Tm) (n : Nat) (h : t.wt ≤ n) (hn : n ≤ 137438953472) : t.lok := Tm.lok_of_wt t (Nat.le_trans h hn)
end Go.Proofs.Ytkagfenchknjjaa
