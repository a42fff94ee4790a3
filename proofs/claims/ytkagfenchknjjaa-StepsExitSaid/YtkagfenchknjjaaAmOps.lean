import Derived.Test.YtkagfenchknjjaaAmCore
set_option linter.unusedVariables false
set_option linter.unusedSimpArgs false
namespace Go.Am
open Go.RowKit

/-! ### What the operations ask of types -/
def szOf (P : Program) (t : TypeId) : Option Nat := (P.info? t).map (·.size)
def byOf (P : Program) (t : TypeId) : Option Nat := (P.info? t).map (·.bytes)
def zeroOf (P : Program) (t : TypeId) : Option Value := (P.info? t).bind (·.zero)
def aggOf (P : Program) (t : TypeId) : Option Bool :=
  match P.underlying t with
  | some (.struct _) | some (.array _ _) => some true
  | some _ => some false
  | none => none
def fldOf (P : Program) (t : TypeId) (f : Nat) : Option (Nat × Nat) :=
  match P.underlying t with
  | some (.struct fs) => (fs[f]?).bind fun x => (szOf P x.type).map fun n => (x.offset, n)
  | _ => none
def fldAgOf (P : Program) (t : TypeId) (f : Nat) : Option Bool :=
  match P.underlying t with
  | some (.struct fs) => (fs[f]?).bind fun x => aggOf P x.type
  | _ => none
def elOf (P : Program) (t : TypeId) : Option TypeId :=
  match P.underlying t with
  | some (.slice e) => some e
  | _ => none
def arOf (P : Program) (t : TypeId) : Option (Nat × TypeId) :=
  match P.underlying t with
  | some (.array n e) => some (n, e)
  | _ => none

section
variable {P : Program} {t : TypeId} (w : World)
theorem run_sz {n : Nat} (h : szOf P t = some n) : (sizeOf t).run P w = .ok n w := by
  obtain ⟨i, hi, rfl⟩ := Option.map_eq_some_iff.1 h
  simp [sizeOf, typeInfo, hi]
theorem run_zero {z : Value} (h : zeroOf P t = some z) : (zeroValue t).run P w = .ok z w := by
  obtain ⟨i, hi, hz⟩ := Option.bind_eq_some_iff.1 h
  simp [zeroValue, typeInfo, hi, hz]
theorem run_agg {b : Bool} (h : aggOf P t = some b) : (isAgg t).run P w = .ok b w := by
  unfold aggOf at h
  cases hu : P.underlying t with
  | none => simp [hu] at h
  | some d =>
    unfold isAgg
    simp only [Sem.run_bind, run_underlying hu, Result.andThen_ok]
    rw [hu] at h
    cases d <;> simp_all
theorem elOf_iff {e : TypeId} (h : elOf P t = some e) : P.underlying t = some (.slice e) := by
  unfold elOf at h
  split at h <;> simp_all
theorem arOf_iff {n : Nat} {e : TypeId} (h : arOf P t = some (n, e)) : P.underlying t = some (.array n e) := by
  unfold arOf at h
  split at h <;> simp_all
theorem fldOf_iff {f o n : Nat} (h : fldOf P t f = some (o, n)) : ∃ fs x, P.underlying t = some (.struct fs) ∧ fs[f]? = some x ∧ szOf P x.type = some n ∧ x.offset = o := by
  unfold fldOf at h
  split at h
  · rename_i fs hu
    obtain ⟨x, hx, h2⟩ := Option.bind_eq_some_iff.1 h
    obtain ⟨k, hk, h3⟩ := Option.map_eq_some_iff.1 h2
    simp only [Prod.mk.injEq] at h3
    exact ⟨fs, x, hu, hx, by rw [hk, h3.2], h3.1⟩
  · cases h
end

/-! ### Values of constants -/
def ofVal0 : Value → AV
  | .bool b => .bool b
  | .int k n => .int k n
  | .string s => if s.size ≤ maxLen then .str s else .any
  | .slice none 0 0 => .nils
  | .pointer none => .nilp
  | .nilFunc => .nilf
  | _ => .any
def ofVal : Value → AV
  | .agg vs => .agg (vs.toList.map ofVal0)
  | .tuple vs => .tup (vs.toList.map ofVal0)
  | v => ofVal0 v

theorem R_ofVal0 (C : Ctx) (v : Value) : R C (ofVal0 v) v := by
  unfold ofVal0
  split <;> first | constructor | skip
  split
  · exact .str _ (by assumption)
  · exact .any _
theorem R_ofVals (C : Ctx) (vs : List Value) : ∀ i a, (vs.map ofVal0)[i]? = some a → R C a (vs.getD i undef) := fun i a h => by
  rw [List.getElem?_map] at h
  obtain ⟨v, hv, rfl⟩ := Option.map_eq_some_iff.1 h
  rw [List.getD_eq_getElem?_getD, hv]
  exact R_ofVal0 C v
theorem R_ofVal (C : Ctx) (v : Value) : R C (ofVal v) v := by
  unfold ofVal
  split
  · rename_i vs
    exact .agg _ vs.toList (by simp) (R_ofVals C vs.toList)
  · rename_i vs
    exact .tup _ vs.toList (by simp) (R_ofVals C vs.toList)
  · exact R_ofVal0 C _

/-! ### Cells -/
def AV.cells : AV → List AV
  | .agg cs => cs
  | a => [a]
abbrev okCells (cs : List AV) : Bool := cs.all AV.cell

theorem okCells_get {cs : List AV} (h : okCells cs = true) {i : Nat} {a : AV} (ha : cs[i]? = some a) : a.cell = true := by
  have := List.all_eq_true.1 h a (List.mem_of_getElem? ha)
  exact this

theorem R.holds {C : Ctx} {a : AV} {v : Value} (h : R C a v) (hc : okCells a.cells = true) : v.cells.size = a.cells.length ∧ Holds C v.cells a.cells := by
  by_cases hagg : ∃ cs, a = .agg cs
  · obtain ⟨cs, rfl⟩ := hagg
    cases h with
    | agg _ vs hl hh =>
      refine ⟨by simpa [Value.cells, AV.cells] using hl, fun i a ha => ?_⟩
      have hi : i < vs.length := by
        have := (List.getElem?_eq_some_iff.1 ha).1
        simp only [AV.cells] at this
        omega
      refine ⟨vs[i], by simp [Value.cells, hi], ?_, okCells_get hc ha⟩
      have := hh i a ha
      rwa [List.getD_eq_getElem?_getD, List.getElem?_eq_getElem hi] at this
  · have e : a.cells = [a] := by cases a <;> first | rfl | exact (hagg ⟨_, rfl⟩).elim
    rw [e] at hc ⊢
    have hcell : a.cell = true := by simpa [okCells] using hc
    have h1 := h.one hcell
    have ev : v.cells = #[v] := by cases v <;> first | rfl | (simp [Value.oneCell'] at h1)
    rw [ev]
    refine ⟨rfl, fun i b hb => ?_⟩
    match i, hb with
    | 0, hb =>
      simp at hb
      subst hb
      exact ⟨v, by simp, h, hcell⟩

theorem Holds.one {C : Ctx} {cs : Array Value} {cells : List AV} (h : Holds C cs cells) (hs : cs.size = cells.length) : ∀ v ∈ cs.toList, v.oneCell' = true := fun v hv => by
  obtain ⟨i, hi, rfl⟩ := List.getElem_of_mem hv
  have hi' : i < cells.length := by simpa [hs] using hi
  obtain ⟨u, h1, h2, h3⟩ := h i cells[i] (List.getElem?_eq_getElem hi')
  have : u = cs.toList[i] := by
    have h4 : cs.toList[i]? = some u := by simpa using h1
    rw [List.getElem?_eq_getElem hi] at h4
    exact (Option.some.inj h4).symm
  rw [← this]
  exact h2.one h3

/-- From an address on cells can be read. -/
def RdAt (C : Ctx) (g o : Nat) (cells : List AV) : Prop := ∃ f : Nat → Value, (∀ j, j < cells.length → C.w.cell? ⟨g, o + j, none⟩ = some (f j)) ∧ ∀ j a, cells[j]? = some a → R C a (f j)

theorem Holds.rd {C : Ctx} {g : Nat} {cs : Array Value} {t : TypeId} {fr : Nat × Nat} {cells : List AV} (h : Holds C cs cells) (hg : C.w.heap[g]? = some (.cells cs t fr)) : RdAt C g 0 cells := by
  refine ⟨fun j => cs.getD j undef, fun j hj => ?_, fun j a ha => ?_⟩
  · obtain ⟨v, hv, _⟩ := h j cells[j] (List.getElem?_eq_getElem hj)
    rw [Nat.zero_add, cell_of_row C.w g j cs t fr hg, hv]
    simp [Array.getD_eq_getD_getElem?, hv]
  · obtain ⟨v, hv, hr, _⟩ := h j a ha
    simpa [Array.getD_eq_getD_getElem?, hv] using hr

theorem RdAt.drop {C : Ctx} {g o : Nat} {cells : List AV} (h : RdAt C g o cells) (k : Nat) : RdAt C g (o + k) (cells.drop k) := by
  obtain ⟨f, h1, h2⟩ := h
  refine ⟨fun j => f (k + j), fun j hj => ?_, fun j a ha => h2 _ a (by simpa [List.getElem?_drop] using ha)⟩
  rw [List.length_drop] at hj
  rw [Nat.add_assoc]
  exact h1 (k + j) (by omega)
theorem RdAt.take {C : Ctx} {g o : Nat} {cells : List AV} (h : RdAt C g o cells) (k : Nat) : RdAt C g o (cells.take k) := by
  obtain ⟨f, h1, h2⟩ := h
  refine ⟨f, fun j hj => h1 j ?_, fun j a ha => ?_⟩
  · rw [List.length_take] at hj; omega
  · rw [List.getElem?_take] at ha
    split at ha
    · exact h2 j a ha
    · cases ha

def readA (cells : List AV) (off n : Nat) (ag : Bool) : Option AV :=
  if ag then (if off + n ≤ cells.length then some (.agg ((cells.drop off).take n)) else none) else cells[off]?

theorem run_read {C : Ctx} {P : Program} {g o off : Nat} {cells : List AV} (h : RdAt C g o cells) {t : TypeId} {n : Nat} {ag : Bool} (hn : szOf P t = some n) (ha : aggOf P t = some ag) {a : AV}
    (hr : readA cells off n ag = some a) : ∃ v, (Instr.loadAt t (.pointer (some ⟨g, o + off, none⟩))).run P C.w = .ok v C.w ∧ R C a v := by
  unfold Instr.loadAt Instr.sureAddr loadVar
  simp only [Sem.run_bind, Sem.run_pure, Result.andThen_ok, run_agg C.w ha]
  cases ag with
  | true =>
    unfold readA at hr
    simp only [if_true] at hr
    split at hr
    · rename_i hle
      cases hr
      obtain ⟨f, h1, h2⟩ := (h.drop off).take n
      have hlen : ((cells.drop off).take n).length = n := by rw [List.length_take, List.length_drop]; omega
      rw [hlen] at h1
      have hl := run_loadCells (P := P) C.w ⟨g, o + off, none⟩ n f (fun j hj => by
        have := h1 j hj
        unfold Addr.add
        split
        · rename_i e; subst e; exact this
        · exact this)
      simp only [if_true, Sem.run_bind, run_sz C.w hn, Result.andThen_ok, hl, Sem.run_pure]
      refine ⟨_, rfl, .agg _ _ (by rw [List.length_map, List.length_range, hlen]) fun i a hi => ?_⟩
      have hin : i < n := by have := (List.getElem?_eq_some_iff.1 hi).1; omega
      rw [List.getD_eq_getElem?_getD, List.getElem?_map, List.getElem?_range hin]
      exact h2 i a hi
    · cases hr
  | false =>
    simp only [readA, Bool.false_eq_true, if_false] at hr
    obtain ⟨f, h1, h2⟩ := h
    have hlt : off < cells.length := (List.getElem?_eq_some_iff.1 hr).1
    refine ⟨f off, ?_, h2 off a hr⟩
    simp [h1 off hlt]

end Go.Am
