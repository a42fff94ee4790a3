import Derived.Test.YtkagfenchknjjaaAmRel
set_option linter.unusedVariables false
set_option linter.unusedSimpArgs false
set_option linter.unusedSectionVars false
namespace Go.Am
open Go.RowKit

/-! ### Keys by other names -/
mutual
def ren (σ : Nat → Nat) : AV → AV
  | .ref k v r => .ref (σ k) v r
  | .agg cs => .agg (renL σ cs)
  | .tup cs => .tup (renL σ cs)
  | .sl rows => .sl (renLL σ rows)
  | .slt rows => .slt (renLL σ rows)
  | .elt row off => .elt (renL σ row) off
  | .func f cs => .func f (renL σ cs)
  | a => a
def renL (σ : Nat → Nat) : List AV → List AV
  | [] => []
  | c :: cs => ren σ c :: renL σ cs
def renLL (σ : Nat → Nat) : List (List AV) → List (List AV)
  | [] => []
  | r :: rs => renL σ r :: renLL σ rs
end
mutual
def okk (K : Nat → Bool) : AV → Bool
  | .ref k _ _ => K k
  | .agg cs | .tup cs | .elt cs _ | .func _ cs => okkL K cs
  | .sl rows | .slt rows => okkLL K rows
  | _ => true
def okkL (K : Nat → Bool) : List AV → Bool
  | [] => true
  | c :: cs => okk K c && okkL K cs
def okkLL (K : Nat → Bool) : List (List AV) → Bool
  | [] => true
  | r :: rs => okkL K r && okkLL K rs
end
theorem renL_map (σ : Nat → Nat) : ∀ l, renL σ l = l.map (ren σ)
  | [] => rfl
  | c :: cs => by simp [renL, renL_map σ cs]
theorem renLL_map (σ : Nat → Nat) : ∀ l, renLL σ l = l.map (renL σ)
  | [] => rfl
  | c :: cs => by simp [renLL, renLL_map σ cs]
theorem renLL_flatten (σ : Nat → Nat) : ∀ l, (renLL σ l).flatten = renL σ l.flatten
  | [] => rfl
  | c :: cs => by simp only [renLL, List.flatten_cons, renLL_flatten σ cs, renL_map, List.map_append]
theorem okkL_get {K : Nat → Bool} : ∀ {l : List AV} {i : Nat} {a : AV}, okkL K l = true → l[i]? = some a → okk K a = true
  | [], i, a, _, h => by simp at h
  | c :: cs, 0, a, h, e => by simp only [okkL, Bool.and_eq_true] at h; simp at e; rw [← e]; exact h.1
  | c :: cs, i + 1, a, h, e => by simp only [okkL, Bool.and_eq_true] at h; exact okkL_get h.2 (by simpa using e)
theorem okkLL_get {K : Nat → Bool} : ∀ {l : List (List AV)} {i : Nat} {a : List AV}, okkLL K l = true → l[i]? = some a → okkL K a = true
  | [], i, a, _, h => by simp at h
  | c :: cs, 0, a, h, e => by simp only [okkLL, Bool.and_eq_true] at h; simp at e; rw [← e]; exact h.1
  | c :: cs, i + 1, a, h, e => by simp only [okkLL, Bool.and_eq_true] at h; exact okkLL_get h.2 (by simpa using e)
theorem okkL_append {K : Nat → Bool} : ∀ {l m : List AV}, okkL K (l ++ m) = (okkL K l && okkL K m)
  | [], m => by simp [okkL]
  | c :: cs, m => by simp only [List.cons_append, okkL, okkL_append, Bool.and_assoc]
theorem okkLL_flatten {K : Nat → Bool} : ∀ {l : List (List AV)}, okkLL K l = true → okkL K l.flatten = true
  | [], _ => rfl
  | c :: cs, h => by
    simp only [okkLL, Bool.and_eq_true] at h
    rw [List.flatten_cons, okkL_append, h.1, okkLL_flatten h.2]
    rfl
mutual
theorem ren_closed (σ : Nat → Nat) : ∀ {a : AV}, closed a = true → ren σ a = a
  | .agg cs, h => by simp only [closed] at h; simp only [ren, renL_closed σ h]
  | .tup cs, h => by simp only [closed] at h; simp only [ren, renL_closed σ h]
  | .elt cs _, h => by simp only [closed] at h; simp only [ren, renL_closed σ h]
  | .func _ cs, h => by simp only [closed] at h; simp only [ren, renL_closed σ h]
  | .sl rows, h => by simp only [closed] at h; simp only [ren, renLL_closed σ h]
  | .slt rows, h => by simp only [closed] at h; simp only [ren, renLL_closed σ h]
  | .any, h => rfl
  | .int _ _, h => rfl
  | .bool _, h => rfl
  | .str _, h => rfl
  | .nils, h => rfl
  | .nilf, h => rfl
  | .nilp, h => rfl
  | .yld, h => rfl
  | .ref _ _ _, h => by simp [closed] at h
theorem renL_closed (σ : Nat → Nat) : ∀ {l : List AV}, closedL l = true → renL σ l = l
  | [], _ => rfl
  | c :: cs, h => by
    simp only [closedL, Bool.and_eq_true] at h
    simp only [renL, ren_closed σ h.1, renL_closed σ h.2]
theorem renLL_closed (σ : Nat → Nat) : ∀ {l : List (List AV)}, closedLL l = true → renLL σ l = l
  | [], _ => rfl
  | c :: cs, h => by
    simp only [closedLL, Bool.and_eq_true] at h
    simp only [renLL, renL_closed σ h.1, renLL_closed σ h.2]
end
mutual
theorem okk_closed (K : Nat → Bool) : ∀ {a : AV}, closed a = true → okk K a = true
  | .agg cs, h => by simp only [closed] at h; simp only [okk, okkL_closed K h]
  | .tup cs, h => by simp only [closed] at h; simp only [okk, okkL_closed K h]
  | .elt cs _, h => by simp only [closed] at h; simp only [okk, okkL_closed K h]
  | .func _ cs, h => by simp only [closed] at h; simp only [okk, okkL_closed K h]
  | .sl rows, h => by simp only [closed] at h; simp only [okk, okkLL_closed K h]
  | .slt rows, h => by simp only [closed] at h; simp only [okk, okkLL_closed K h]
  | .any, h => rfl
  | .int _ _, h => rfl
  | .bool _, h => rfl
  | .str _, h => rfl
  | .nils, h => rfl
  | .nilf, h => rfl
  | .nilp, h => rfl
  | .yld, h => rfl
  | .ref _ _ _, h => by simp [closed] at h
theorem okkL_closed (K : Nat → Bool) : ∀ {l : List AV}, closedL l = true → okkL K l = true
  | [], _ => rfl
  | c :: cs, h => by
    simp only [closedL, Bool.and_eq_true] at h
    simp only [okkL, okk_closed K h.1, okkL_closed K h.2, Bool.and_self]
theorem okkLL_closed (K : Nat → Bool) : ∀ {l : List (List AV)}, closedLL l = true → okkLL K l = true
  | [], _ => rfl
  | c :: cs, h => by
    simp only [closedLL, Bool.and_eq_true] at h
    simp only [okkLL, okkL_closed K h.1, okkLL_closed K h.2, Bool.and_self]
end
theorem ren_cell (σ : Nat → Nat) (a : AV) : (ren σ a).cell = a.cell := by cases a <;> rfl

def renB (σ : Nat → Nat) : Blk → Blk
  | .dead v => .dead v
  | .box v t cells => .box v t (renL σ cells)
  | .row v t sz rows => .row v t sz (renLL σ rows)
  | .froz v rows => .froz v (renLL σ rows)
  | .fbox v cells => .fbox v (renL σ cells)
  | .obj v o => .obj v o
def okB (K : Nat → Bool) : Blk → Bool
  | .dead _ | .obj _ _ => true
  | .box _ _ cells | .fbox _ cells => okkL K cells
  | .row _ _ _ rows | .froz _ rows => okkLL K rows
theorem renB_ver (σ : Nat → Nat) (b : Blk) : (renB σ b).ver = b.ver := by cases b <;> rfl
theorem renB_live (σ : Nat → Nat) (b : Blk) : (renB σ b).live = b.live := by cases b <;> rfl
theorem renLL_length (σ : Nat → Nat) (l : List (List AV)) : (renLL σ l).length = l.length := by rw [renLL_map]; simp
theorem RefVal.ren (σ : Nat → Nat) (w : World) (og : Option Nat) (b : Blk) (r : RefK) (v : Value) : RefVal w og (renB σ b) r v = RefVal w og b r v := by
  cases og <;> cases b <;> cases r <;> simp only [renB, RefVal, renLL_length]

section
variable {C C2 : Ctx} {σ : Nat → Nat} {K : Nat → Bool}
/-- What one context needs to read another one's values by other names. -/
structure RenOk (C C2 : Ctx) (σ : Nat → Nat) (K : Nat → Bool) : Prop where
  S : ∀ b, C.S b → C2.S b ∧ C2.w.heap[b]? = C.w.heap[b]?
  H : ∀ k, K k = true → ∀ blk, C.H k = some blk → ∃ blk2, C2.H (σ k) = some blk2 ∧ blk.ver ≤ blk2.ver ∧ (blk2.ver = blk.ver → ∀ r v, RefVal C.w (C.own k) blk r v → RefVal C2.w (C2.own (σ k)) blk2 r v)
  l : C2.l = C.l

theorem R.ren (h : RenOk C C2 σ K) {a : AV} {v : Value} (hr : R C a v) : okk K a = true → R C2 (Am.ren σ a) v := by
  induction hr with
  | any v => exact fun _ => .any v
  | int k n => exact fun _ => .int k n
  | bool b => exact fun _ => .bool b
  | str s hs => exact fun _ => .str s hs
  | agg cs vs hl _ ih =>
    intro hk
    simp only [okk] at hk
    simp only [Am.ren, renL_map]
    refine .agg _ vs (by simpa using hl) fun i a ha => ?_
    rw [List.getElem?_map] at ha
    obtain ⟨b, hb, rfl⟩ := Option.map_eq_some_iff.1 ha
    exact ih i b hb (okkL_get hk hb)
  | tup cs vs hl _ ih =>
    intro hk
    simp only [okk] at hk
    simp only [Am.ren, renL_map]
    refine .tup _ vs (by simpa using hl) fun i a ha => ?_
    rw [List.getElem?_map] at ha
    obtain ⟨b, hb, rfl⟩ := Option.map_eq_some_iff.1 ha
    exact ih i b hb (okkL_get hk hb)
  | sl rows A cap g off sz f hA hcap hmax hsz hc hone _ ih =>
    intro hk
    simp only [okk] at hk
    have el : (renLL σ rows).length = rows.length := renLL_length σ rows
    simp only [Am.ren]
    rw [← el] at hcap hmax hc ⊢
    refine .sl _ A cap g off sz f (fun hr => ?_) hcap hmax (fun r hr => ?_) (fun i hi j hj => ?_) hone fun i r hr j a ha => ?_
    · have hr' : rows ≠ [] := fun e => hr (by subst e; rfl)
      exact ⟨(hA hr').1, (h.S g (hA hr').2).1⟩
    · rw [renLL_map] at hr
      obtain ⟨q, hq, rfl⟩ := List.mem_map.1 hr
      rw [renL_map, List.length_map]
      exact hsz q hq
    · have hr' : rows ≠ [] := fun e => by subst e; simp [renLL] at hi
      exact (cell_same (h.S g (hA hr').2).2 _).trans (hc i hi j hj)
    · rw [renLL_map, List.getElem?_map] at hr
      obtain ⟨q, hq, rfl⟩ := Option.map_eq_some_iff.1 hr
      rw [renL_map, List.getElem?_map] at ha
      obtain ⟨b, hb, rfl⟩ := Option.map_eq_some_iff.1 ha
      exact ih i q hq j b hb (okkL_get (okkLL_get hk hq) hb)
  | slt rows g off sz f hA hmax hsz hc hone _ ih =>
    intro hk
    simp only [okk] at hk
    have el : (renLL σ rows).length = rows.length := renLL_length σ rows
    simp only [Am.ren]
    rw [← el] at hmax hc ⊢
    refine .slt _ g off sz f (h.S g hA).1 hmax (fun r hr => ?_) (fun i hi j hj => ?_) hone fun i r hr j a ha => ?_
    · rw [renLL_map] at hr
      obtain ⟨q, hq, rfl⟩ := List.mem_map.1 hr
      rw [renL_map, List.length_map]
      exact hsz q hq
    · exact (cell_same (h.S g hA).2 _).trans (hc i hi j hj)
    · rw [renLL_map, List.getElem?_map] at hr
      obtain ⟨q, hq, rfl⟩ := Option.map_eq_some_iff.1 hr
      rw [renL_map, List.getElem?_map] at ha
      obtain ⟨b, hb, rfl⟩ := Option.map_eq_some_iff.1 ha
      exact ih i q hq j b hb (okkL_get (okkLL_get hk hq) hb)
  | nils => exact fun _ => .nils
  | elt row off g o f hA hc hone _ ih =>
    intro hk
    simp only [okk] at hk
    simp only [Am.ren, renL_map]
    refine .elt _ off g o f (h.S g hA).1 (fun j hj => ?_) hone fun j a ha => ?_
    · rw [List.length_map] at hj
      exact (cell_same (h.S g hA).2 _).trans (hc j hj)
    · rw [List.getElem?_map] at ha
      obtain ⟨b, hb, rfl⟩ := Option.map_eq_some_iff.1 ha
      exact ih j b hb (okkL_get hk hb)
  | ref key ver r blk v hb hv hone hr =>
    intro hk
    simp only [okk] at hk
    obtain ⟨blk', hb', hv', hr'⟩ := h.H key hk blk hb
    refine .ref (σ key) ver r blk' v hb' (Nat.le_trans hv hv') hone fun e => ?_
    have e1 : blk'.ver = blk.ver := by omega
    exact hr' e1 r v (hr (by omega))
  | func f cs vs hl _ ih =>
    intro hk
    simp only [okk] at hk
    simp only [Am.ren, renL_map]
    refine .func f _ vs (by simpa using hl) fun i a ha => ?_
    rw [List.getElem?_map] at ha
    obtain ⟨b, hb, rfl⟩ := Option.map_eq_some_iff.1 ha
    exact ih i b hb (okkL_get hk hb)
  | nilf => exact fun _ => .nilf
  | nilp => exact fun _ => .nilp
  | yld => intro _; rw [← h.l]; exact .yld

theorem Holds.ren (h : RenOk C C2 σ K) {cs : Array Value} {cells : List AV} (hh : Holds C cs cells) (hk : okkL K cells = true) : Holds C2 cs (renL σ cells) := fun i a ha => by
  rw [renL_map, List.getElem?_map] at ha
  obtain ⟨b, hb, rfl⟩ := Option.map_eq_some_iff.1 ha
  obtain ⟨v, h1, h2, h3⟩ := hh i b hb
  exact ⟨v, h1, h2.ren h (okkL_get hk hb), by rw [ren_cell]; exact h3⟩

theorem HRel.ren (h : RenOk C C2 σ K) {og : Option Nat} {blk : Blk} (hg : ∀ g, og = some g → blk.live = true → C2.w.heap[g]? = C.w.heap[g]?) (hh : HRel C og blk) (hk : okB K blk = true) : HRel C2 og (renB σ blk) := by
  cases og with
  | none =>
    cases blk with
    | dead _ => trivial
    | box v t cells => exact hh.elim
    | fbox v cells => exact hh.elim
    | obj v ob => exact hh.elim
    | row v t sz rows =>
      obtain ⟨rfl, h2⟩ := hh
      exact ⟨rfl, h2⟩
    | froz v rows =>
      have e : rows = [] := hh
      subst e
      exact rfl
  | some g =>
    cases blk with
    | dead _ => trivial
    | box ver t cells =>
      obtain ⟨cs, h1, h2, h3⟩ := hh
      exact ⟨cs, (hg g rfl rfl).trans h1, by rw [renL_map, List.length_map]; exact h2, h3.ren h hk⟩
    | row ver t sz rows =>
      obtain ⟨cs, cap, h1, h2, h3, h4, h5, h6, h7⟩ := hh
      refine ⟨cs, cap, (hg g rfl rfl).trans h1, h2, by rw [renLL_length]; exact h3, h4, h5, fun r hr => ?_, ?_⟩
      · rw [renLL_map] at hr
        obtain ⟨q, hq, rfl⟩ := List.mem_map.1 hr
        rw [renL_map, List.length_map]
        exact h6 q hq
      · rw [renLL_flatten]; exact h7.ren h (okkLL_flatten hk)
    | froz ver rows =>
      obtain ⟨cs, t, sz, h1, h2, h3, h4, h5⟩ := hh
      refine ⟨cs, t, sz, (h.S g h2).2.trans h1, (h.S g h2).1, h3, fun r hr => ?_, ?_⟩
      · rw [renLL_map] at hr
        obtain ⟨q, hq, rfl⟩ := List.mem_map.1 hr
        rw [renL_map, List.length_map]
        exact h4 q hq
      · rw [renLL_flatten]; exact h5.ren h (okkLL_flatten hk)
    | fbox ver cells =>
      obtain ⟨cs, t, h1, h2, h3⟩ := hh
      exact ⟨cs, t, (h.S g h2).2.trans h1, (h.S g h2).1, h3.ren h hk⟩
    | obj ver ob =>
      obtain ⟨o, h1, h2⟩ := hh
      exact ⟨o, (hg g rfl rfl).trans h1, h2⟩
end

/-! ### Heaps by lists -/
def lookB : List (Nat × Blk) → Nat → Option Blk
  | [], _ => none
  | (i, v) :: l, j => if i = j then some v else lookB l j
/-- The blocks that are known; all others are dead, whatever their versions. -/
def hls (l : List (Nat × Blk)) (vs : Nat → Nat) : Heap := fun k => match lookB l k with
  | some b => some b
  | none => some (.dead (vs k))
theorem hls_some {l : List (Nat × Blk)} {vs : Nat → Nat} {k : Nat} {b : Blk} (h : lookB l k = some b) : hls l vs k = some b := by simp [hls, h]
theorem hls_none {l : List (Nat × Blk)} {vs : Nat → Nat} {k : Nat} (h : lookB l k = none) : hls l vs k = some (.dead (vs k)) := by simp [hls, h]
theorem hls_live {l : List (Nat × Blk)} {vs : Nat → Nat} {k : Nat} {b : Blk} (h : hls l vs k = some b) (hv : b.live = true) : lookB l k = some b := by
  unfold hls at h
  split at h
  · rename_i b' e; rw [e, ← h]
  · cases h; cases hv
def keys (l : List (Nat × Blk)) : List Nat := l.map (·.1)
theorem lookB_mem {l : List (Nat × Blk)} {k : Nat} {b : Blk} (h : lookB l k = some b) : (k, b) ∈ l := by
  induction l with
  | nil => cases h
  | cons p r ih =>
    obtain ⟨j, v⟩ := p
    unfold lookB at h
    by_cases e : j = k
    · subst e; rw [if_pos rfl] at h; cases h; simp
    · rw [if_neg e] at h; simp [ih h]
theorem lookB_key {l : List (Nat × Blk)} {k : Nat} {b : Blk} (h : lookB l k = some b) : k ∈ keys l := List.mem_map_of_mem (f := (·.1)) (lookB_mem h)
theorem lookB_none {l : List (Nat × Blk)} {k : Nat} (h : k ∉ keys l) : lookB l k = none := by
  cases e : lookB l k with
  | none => rfl
  | some b => exact (h (lookB_key e)).elim
theorem lookB_of_key {l : List (Nat × Blk)} {k : Nat} (h : k ∈ keys l) : ∃ b, lookB l k = some b := by
  induction l with
  | nil => simp [keys] at h
  | cons p r ih =>
    obtain ⟨j, v⟩ := p
    unfold lookB
    by_cases e : j = k
    · exact ⟨v, by rw [if_pos e]⟩
    · rw [if_neg e]
      refine ih ?_
      simp only [keys, List.map_cons, List.mem_cons] at h
      exact h.resolve_left fun h => e h.symm

/-! ### Contracts of calls that turn memory -/
def LiveC (C : Ctx) (b : Nat) : Prop := ∃ k blk, C.H k = some blk ∧ blk.live = true ∧ C.own k = some b
structure HOk (C : Ctx) : Prop where
  hS : ∀ b, C.S b → b < C.w.heap.size
  hown : ∀ k blk g, C.H k = some blk → blk.live = true → C.own k = some g → g < C.w.heap.size ∧ ¬ C.S g
  inj : ∀ k k' blk blk' g, C.H k = some blk → C.H k' = some blk' → blk.live = true → blk'.live = true → C.own k = some g → C.own k' = some g → k = k'
  heap : ∀ k blk, C.H k = some blk → HRel C (C.own k) blk
/-- What a call may turn of what it is handed. -/
structure HTr (C C' : Ctx) : Prop where
  le : C.le C'
  grows : Grows C.w C'.w (LiveC C)
  hS : ∀ b, C'.S b → C.S b ∨ LiveC C b ∨ C.w.heap.size ≤ b
  hown : ∀ k blk g, C'.H k = some blk → blk.live = true → C'.own k = some g → LiveC C g ∨ C.w.heap.size ≤ g

/-- Called with args, where the heap is H, the function hands back r and leaves the heap H', of which Q holds. -/
structure HSpec (P : Program) (f : FuncId) (args : List AV) (H : Heap) (Q : AV → Heap → Prop) : Prop where
  enters : Enters P f
  calls : ∀ (C : Ctx) (vs : List Value), C.H = H → HOk C → RL C args vs → CallsIn (FW none) 0 P f vs.toArray C.w fun e w' => ∃ v r C', e = .returned v ∧ C'.w = w' ∧ HOk C' ∧ HTr C C' ∧ R C' r v ∧ Q r C'.H
/-- By lists: the blocks l that it is lent; those that it leaves. -/
def HSpecL (P : Program) (f : FuncId) (args : List AV) (l : List (Nat × Blk)) (Q : AV → List (Nat × Blk) → Prop) : Prop :=
  ∀ vs, HSpec P f args (hls l vs) fun r H' => ∃ l' vs', H' = hls l' vs' ∧ Q r l'
theorem HSpec.mono {P : Program} {f : FuncId} {args : List AV} {H : Heap} {Q Q' : AV → Heap → Prop} (h : HSpec P f args H Q) (hq : ∀ r H', Q r H' → Q' r H') : HSpec P f args H Q' :=
  ⟨h.enters, fun C vs hH hC hR => (h.calls C vs hH hC hR).mono fun e w' ⟨v, r, C', h1, h2, h3, h4, h5, h6⟩ => ⟨v, r, C', h1, h2, h3, h4, h5, hq _ _ h6⟩⟩
theorem HSpecL.mono {P : Program} {f : FuncId} {args : List AV} {l : List (Nat × Blk)} {Q Q' : AV → List (Nat × Blk) → Prop} (h : HSpecL P f args l Q) (hq : ∀ r l', Q r l' → Q' r l') : HSpecL P f args l Q' :=
  fun vs => (h vs).mono fun r H' ⟨l', vs', h1, h2⟩ => ⟨l', vs', h1, hq _ _ h2⟩

/-! ### Blocks are lent -/
def asc : List (Nat × Nat) → Nat → Nat
  | [], k => k
  | (a, b) :: r, k => if a = k then b else asc r k
def csa : List (Nat × Nat) → Nat → Nat
  | [], k => k
  | (a, b) :: r, k => if b = k then a else csa r k
theorem asc_mem {ks : List (Nat × Nat)} (hn : (ks.map (·.1)).Nodup) {p : Nat × Nat} (h : p ∈ ks) : asc ks p.1 = p.2 := by
  induction ks with
  | nil => simp at h
  | cons q r ih =>
    obtain ⟨a, b⟩ := q
    unfold asc
    rcases List.mem_cons.1 h with rfl | h
    · simp
    · have hn' := List.nodup_cons.1 hn
      have : a ≠ p.1 := fun e => hn'.1 (e ▸ List.mem_map_of_mem (f := (·.1)) h)
      rw [if_neg this]
      exact ih hn'.2 h
theorem csa_mem {ks : List (Nat × Nat)} (hn : (ks.map (·.2)).Nodup) {p : Nat × Nat} (h : p ∈ ks) : csa ks p.2 = p.1 := by
  induction ks with
  | nil => simp at h
  | cons q r ih =>
    obtain ⟨a, b⟩ := q
    unfold csa
    rcases List.mem_cons.1 h with rfl | h
    · simp
    · have hn' := List.nodup_cons.1 hn
      have : b ≠ p.2 := fun e => hn'.1 (e ▸ List.mem_map_of_mem (f := (·.2)) h)
      rw [if_neg this]
      exact ih hn'.2 h
def inK (l : List Nat) (k : Nat) : Bool := l.contains k
theorem inK_iff {l : List Nat} {k : Nat} : inK l k = true ↔ k ∈ l := by simp [inK]
/-- The blocks that are lent, by the callee's names. -/
def lentL (L : List (Nat × Blk)) (ks lent : List (Nat × Nat)) : List (Nat × Blk) := lent.map fun p => (p.2, renB (asc ks) ((lookB L p.1).getD (.dead 0)))
def dropK (ks : List Nat) : List (Nat × Blk) → List (Nat × Blk)
  | [] => []
  | (k, b) :: r => if inK ks k = true then dropK ks r else (k, b) :: dropK ks r
def backL (ks : List (Nat × Nat)) (l : List (Nat × Blk)) : List (Nat × Blk) := l.map fun p => (csa ks p.1, renB (csa ks) p.2)
theorem lookB_dropK {ks : List Nat} {L : List (Nat × Blk)} {k : Nat} : lookB (dropK ks L) k = if k ∈ ks then none else lookB L k := by
  induction L with
  | nil => simp [dropK, lookB]
  | cons p r ih =>
    obtain ⟨j, v⟩ := p
    unfold dropK
    by_cases hj : inK ks j = true
    · rw [if_pos hj, ih]
      by_cases hk : k ∈ ks
      · simp [hk]
      · have : j ≠ k := fun e => hk (e ▸ inK_iff.1 hj)
        simp [hk, lookB, this]
    · rw [if_neg hj]
      unfold lookB
      by_cases e : j = k
      · subst e
        have : j ∉ ks := fun h => hj (inK_iff.2 h)
        simp [this]
      · rw [if_neg e, if_neg e, ih]
theorem lookB_append (l l' : List (Nat × Blk)) (k : Nat) : lookB (l ++ l') k = (lookB l k).or (lookB l' k) := by
  induction l with
  | nil => simp [lookB]
  | cons p r ih =>
    obtain ⟨j, v⟩ := p
    show (if j = k then some v else lookB (r ++ l') k) = (if j = k then some v else lookB r k).or _
    by_cases e : j = k
    · simp [e]
    · simp [e, ih]

section
variable {ks lent : List (Nat × Nat)} (h1 : (ks.map (·.1)).Nodup) (h2 : (ks.map (·.2)).Nodup)
include h1 h2
theorem csa_asc {k : Nat} (h : k ∈ ks.map (·.1)) : csa ks (asc ks k) = k := by
  obtain ⟨p, hp, rfl⟩ := List.mem_map.1 h
  rw [asc_mem h1 hp, csa_mem h2 hp]
theorem asc_csa {k : Nat} (h : k ∈ ks.map (·.2)) : asc ks (csa ks k) = k := by
  obtain ⟨p, hp, rfl⟩ := List.mem_map.1 h
  rw [csa_mem h2 hp, asc_mem h1 hp]
theorem csa_in {k : Nat} (h : k ∈ ks.map (·.2)) : csa ks k ∈ ks.map (·.1) := by
  obtain ⟨p, hp, rfl⟩ := List.mem_map.1 h
  rw [csa_mem h2 hp]
  exact List.mem_map_of_mem (f := (·.1)) hp
theorem asc_in {k : Nat} (h : k ∈ ks.map (·.1)) : asc ks k ∈ ks.map (·.2) := by
  obtain ⟨p, hp, rfl⟩ := List.mem_map.1 h
  rw [asc_mem h1 hp]
  exact List.mem_map_of_mem (f := (·.2)) hp
theorem lookB_backL {l : List (Nat × Blk)} (hk : ∀ k ∈ keys l, k ∈ ks.map (·.2)) {kc : Nat} (hc : kc ∈ ks.map (·.1)) : lookB (backL ks l) kc = (lookB l (asc ks kc)).map (renB (csa ks)) := by
  induction l with
  | nil => rfl
  | cons p r ih =>
    obtain ⟨j, v⟩ := p
    have hj : j ∈ ks.map (·.2) := hk j (by simp [keys])
    have ih := ih fun k h => hk k (by simp only [keys, List.map_cons, List.mem_cons]; exact .inr h)
    show (if csa ks j = kc then some (renB (csa ks) v) else lookB (backL ks r) kc) = (if j = asc ks kc then some v else lookB r (asc ks kc)).map _
    by_cases e : csa ks j = kc
    · have : j = asc ks kc := by rw [← e, asc_csa h1 h2 hj]
      rw [if_pos e, if_pos this]; rfl
    · have : j ≠ asc ks kc := fun e2 => e (by rw [e2, csa_asc h1 h2 hc])
      rw [if_neg e, if_neg this]; exact ih
theorem lookB_backL_none {l : List (Nat × Blk)} (hk : ∀ k ∈ keys l, k ∈ ks.map (·.2)) {kc : Nat} (hc : kc ∉ ks.map (·.1)) : lookB (backL ks l) kc = none := by
  refine lookB_none fun h => hc ?_
  simp only [keys, backL, List.map_map] at h
  obtain ⟨p, hp, rfl⟩ := List.mem_map.1 h
  exact csa_in h1 h2 (hk p.1 (List.mem_map_of_mem (f := (·.1)) hp))
end

theorem lookB_lentL {L : List (Nat × Blk)} {ks : List (Nat × Nat)} : ∀ {lent : List (Nat × Nat)}, (lent.map (·.2)).Nodup → ∀ {p : Nat × Nat}, p ∈ lent → lookB (lentL L ks lent) p.2 = some (renB (asc ks) ((lookB L p.1).getD (.dead 0)))
  | [], _, p, hp => by simp at hp
  | q :: r, hn, p, hp => by
    have hn' := List.nodup_cons.1 hn
    show (if q.2 = p.2 then some _ else lookB (lentL L ks r) p.2) = _
    rcases List.mem_cons.1 hp with rfl | hp
    · rw [if_pos rfl]
    · have : q.2 ≠ p.2 := fun e => hn'.1 (by show q.2 ∈ _; rw [e]; exact List.mem_map_of_mem (f := (·.2)) hp)
      rw [if_neg this]
      exact lookB_lentL hn'.2 hp
theorem keys_lentL {L : List (Nat × Blk)} {ks lent : List (Nat × Nat)} : keys (lentL L ks lent) = lent.map (·.2) := by simp [keys, lentL]

theorem asc_notin {ks : List (Nat × Nat)} {k : Nat} : k ∉ ks.map (·.1) → asc ks k = k := by
  induction ks with
  | nil => intro _; rfl
  | cons p r ih =>
    intro h
    simp only [List.map_cons, List.mem_cons, not_or] at h
    unfold asc
    rw [if_neg (fun e => h.1 e.symm)]
    exact ih h.2

def ver0 (H : Heap) (k : Nat) : Nat := match H k with | some b => b.ver | none => 0

section
variable {E : Env} {s : St} {a : Act} {w : World} {S : Nat → Prop} {own : Nat → Option Nat} {C D : Nat → Prop} {Ds : List Nat}

/-- The callee's context. -/
def lendC (E : Env) (L : List (Nat × Blk)) (VS : Nat → Nat) (w : World) (S : Nat → Prop) (own : Nat → Option Nat) (ks lent : List (Nat × Nat)) : Ctx :=
  ⟨hls (lentL L ks lent) (fun k => ver0 (hls L VS) (csa ks k)), fun k => if k ∈ lent.map (·.2) then own (csa ks k) else none, S, w, E.l⟩

theorem lendC_H (E : Env) (L : List (Nat × Blk)) (VS : Nat → Nat) (w : World) (S : Nat → Prop) (own : Nat → Option Nat) (ks lent : List (Nat × Nat)) (k : Nat) :
    (lendC E L VS w S own ks lent).H k = hls (lentL L ks lent) (fun k => ver0 (hls L VS) (csa ks k)) k := rfl
theorem lendC_own (E : Env) (L : List (Nat × Blk)) (VS : Nat → Nat) (w : World) (S : Nat → Prop) (own : Nat → Option Nat) (ks lent : List (Nat × Nat)) (k : Nat) :
    (lendC E L VS w S own ks lent).own k = if k ∈ lent.map (·.2) then own (csa ks k) else none := rfl
theorem RelAt.lendDown (h : RelAt E s a w S own C D Ds) {L : List (Nat × Blk)} {VS : Nat → Nat} (hH : s.H = hls L VS) {lent nw : List (Nat × Nat)}
    (h1 : ((lent ++ nw).map (·.1)).Nodup) (h2 : ((lent ++ nw).map (·.2)).Nodup) (hin : ∀ p ∈ lent, p.1 ∈ keys L) (hok : ∀ p ∈ lent, ∀ b, lookB L p.1 = some b → okB (inK (lent.map (·.1))) b = true) :
    HOk (lendC E L VS w S own (lent ++ nw) lent) ∧ RenOk (ctx E s w S own) (lendC E L VS w S own (lent ++ nw) lent) (asc (lent ++ nw)) (inK (lent.map (·.1))) := by
  have hn2 : (lent.map (·.2)).Nodup := by
    rw [List.map_append] at h2
    exact (List.nodup_append.1 h2).1
  have hren : RenOk (ctx E s w S own) (lendC E L VS w S own (lent ++ nw) lent) (asc (lent ++ nw)) (inK (lent.map (·.1))) := by
    refine ⟨fun b hb => ⟨hb, rfl⟩, fun k hk blk hb => ?_, rfl⟩
    obtain ⟨p, hp, rfl⟩ := List.mem_map.1 (inK_iff.1 hk)
    have hp' : p ∈ lent ++ nw := List.mem_append_left _ hp
    have hb : s.H p.1 = some blk := hb
    rw [hH] at hb
    obtain ⟨b0, hb0⟩ := lookB_of_key (hin p hp)
    rw [hls_some hb0] at hb
    cases hb
    rw [asc_mem h1 hp']
    refine ⟨renB (asc (lent ++ nw)) blk, ?_, ?_, fun _ r v hr => ?_⟩
    · rw [lendC_H, hls_some (lookB_lentL hn2 hp), hb0]; rfl
    · rw [renB_ver]; exact Nat.le_refl _
    · rw [RefVal.ren]
      rw [lendC_own, if_pos (List.mem_map_of_mem (f := (·.2)) hp), csa_mem h2 hp']
      exact hr
  have hlk : ∀ k blk, hls (lentL L (lent ++ nw) lent) (fun k => ver0 (hls L VS) (csa (lent ++ nw) k)) k = some blk → (∃ v, blk = .dead v) ∨ ∃ p ∈ lent, p.2 = k ∧ ∃ b, lookB L p.1 = some b ∧ blk = renB (asc (lent ++ nw)) b := fun k blk hk => by
    by_cases hm : k ∈ lent.map (·.2)
    · obtain ⟨p, hp, rfl⟩ := List.mem_map.1 hm
      obtain ⟨b0, hb0⟩ := lookB_of_key (hin p hp)
      rw [hls_some (lookB_lentL hn2 hp), hb0] at hk
      cases hk
      exact .inr ⟨p, hp, rfl, b0, hb0, rfl⟩
    · rw [hls_none (lookB_none (by rw [keys_lentL]; exact hm))] at hk
      cases hk
      exact .inl ⟨_, rfl⟩
  have hown : ∀ p ∈ lent, (lendC E L VS w S own (lent ++ nw) lent).own p.2 = own p.1 := fun p hp => by
    rw [lendC_own, if_pos (List.mem_map_of_mem (f := (·.2)) hp), csa_mem h2 (List.mem_append_left _ hp)]
  refine ⟨⟨fun b hb => (h.hS b hb).1, fun k blk g hk hl e => ?_, fun k k' blk blk' g hk hk' hl hl' e e' => ?_, fun k blk hk => ?_⟩, hren⟩
  · rcases hlk k blk hk with ⟨v, rfl⟩ | ⟨p, hp, rfl, b, hb, rfl⟩
    · cases hl
    · rw [hown p hp] at e
      obtain ⟨q1, q2, _⟩ := h.hown p.1 b g (by rw [hH]; exact hls_some hb) (by rw [← hl, renB_live]) e
      exact ⟨q1, q2⟩
  · rcases hlk k blk hk with ⟨v, rfl⟩ | ⟨p, hp, rfl, b, hb, rfl⟩
    · cases hl
    rcases hlk k' blk' hk' with ⟨v, rfl⟩ | ⟨p', hp', rfl, b', hb', rfl⟩
    · cases hl'
    rw [hown p hp] at e
    rw [hown p' hp'] at e'
    have := h.inj p.1 p'.1 b b' g (by rw [hH]; exact hls_some hb) (by rw [hH]; exact hls_some hb') (by rw [← hl, renB_live]) (by rw [← hl', renB_live]) e e'
    rw [← asc_mem h1 (List.mem_append_left nw hp), ← asc_mem h1 (List.mem_append_left nw hp'), this]
  · rcases hlk k blk hk with ⟨v, rfl⟩ | ⟨p, hp, rfl, b, hb, rfl⟩
    · cases (lendC E L VS w S own (lent ++ nw) lent).own k <;> exact trivial
    · rw [hown p hp]
      exact (h.heap p.1 b (by rw [hH]; exact hls_some hb)).ren hren (fun _ _ _ => rfl) (hok p hp b hb)

/-- The callee has come back: what it was lent is as it left it; its new blocks have names. -/
theorem RelAt.lendUp (h : RelAt E s a w S own C D Ds) (hJ : JOk E.J) {L : List (Nat × Blk)} {VS : Nat → Nat} (hH : s.H = hls L VS) {lent nw : List (Nat × Nat)}
    (h1 : ((lent ++ nw).map (·.1)).Nodup) (h2 : ((lent ++ nw).map (·.2)).Nodup) (hin : ∀ p ∈ lent, p.1 ∈ keys L)
    {C' : Ctx} (ht : HTr (lendC E L VS w S own (lent ++ nw) lent) C') (hok' : HOk C') {l' : List (Nat × Blk)} {vs' : Nat → Nat} (hH' : C'.H = hls l' vs') (hk' : ∀ k ∈ keys l', k ∈ (lent ++ nw).map (·.2))
    (hb' : ∀ p ∈ l', okB (inK (keys l')) p.2 = true) :
    ∃ own'' VS'', RelAt E { s with H := hls (dropK ((lent ++ nw).map (·.1)) L ++ backL (lent ++ nw) l') VS'' } a C'.w C'.S own'' C D Ds ∧
      RenOk C' ⟨hls (dropK ((lent ++ nw).map (·.1)) L ++ backL (lent ++ nw) l') VS'', own'', C'.S, C'.w, E.l⟩ (csa (lent ++ nw)) (inK (keys l')) ∧
      (ctx E s w S own).le ⟨hls (dropK ((lent ++ nw).map (·.1)) L ++ backL (lent ++ nw) l') VS'', own'', C'.S, C'.w, E.l⟩ := by
  obtain ⟨ks, hks⟩ : ∃ ks, ks = lent ++ nw := ⟨_, rfl⟩
  rw [← hks] at h1 h2 ht hk' ⊢
  have hn2 : (lent.map (·.2)).Nodup := by
    rw [hks, List.map_append] at h2
    exact (List.nodup_append.1 h2).1
  have hsub : ∀ p ∈ lent, p ∈ ks := fun p hp => by rw [hks]; exact List.mem_append_left _ hp
  let own'' : Nat → Option Nat := fun k => if k ∈ ks.map (·.1) then C'.own (asc ks k) else own k
  let VS'' : Nat → Nat := fun k => if k ∈ ks.map (·.1) then vs' (asc ks k) else VS k
  let H'' : Heap := hls (dropK (ks.map (·.1)) L ++ backL ks l') VS''
  have eC : ∀ k, k ∈ ks.map (·.1) → H'' k = (C'.H (asc ks k)).map (renB (csa ks)) := fun k hk => by
    show (match lookB (dropK (ks.map (·.1)) L ++ backL ks l') k with | some b => some b | none => some (.dead (VS'' k))) = _
    rw [lookB_append, lookB_dropK, if_pos hk, Option.none_or, lookB_backL h1 h2 hk' hk, hH']
    unfold hls
    cases e : lookB l' (asc ks k) with
    | some b => rfl
    | none =>
      show some (Blk.dead (VS'' k)) = some (Blk.dead _)
      have : VS'' k = vs' (asc ks k) := if_pos hk
      rw [this]
  have eO : ∀ k, k ∉ ks.map (·.1) → H'' k = s.H k := fun k hk => by
    show (match lookB (dropK (ks.map (·.1)) L ++ backL ks l') k with | some b => some b | none => some (.dead (VS'' k))) = _
    rw [lookB_append, lookB_dropK, if_neg hk, lookB_backL_none h1 h2 hk' hk, Option.or_none, hH]
    unfold hls
    have : VS'' k = VS k := if_neg hk
    rw [this]
  have oC : ∀ k, k ∈ ks.map (·.1) → own'' k = C'.own (asc ks k) := fun k hk => if_pos hk
  have oO : ∀ k, k ∉ ks.map (·.1) → own'' k = own k := fun k hk => if_neg hk
  -- the callee's live blocks are lent ones
  have hLive : ∀ b, LiveC (lendC E L VS w S own ks lent) b → ∃ k blk, k ∈ ks.map (·.1) ∧ s.H k = some blk ∧ blk.live = true ∧ own k = some b := by
    rintro b ⟨k, blk, hk, hl, e⟩
    rw [lendC_H] at hk
    rw [lendC_own] at e
    have hm : k ∈ lent.map (·.2) := by
      rw [← keys_lentL (L := L) (ks := ks)]
      exact lookB_key (hls_live hk hl)
    obtain ⟨p, hp, rfl⟩ := List.mem_map.1 hm
    rw [if_pos hm, csa_mem h2 (hsub p hp)] at e
    have hk2 := hls_live hk hl
    rw [lookB_lentL hn2 hp] at hk2
    obtain ⟨b0, hb0⟩ := lookB_of_key (hin p hp)
    rw [hb0] at hk2
    cases hk2
    exact ⟨p.1, b0, List.mem_map_of_mem (f := (·.1)) (hsub p hp), by rw [hH]; exact hls_some hb0, by rw [← hl]; exact (renB_live _ _).symm, e⟩
  have hLin : ∀ b, LiveC (lendC E L VS w S own ks lent) b → b < w.heap.size ∧ ¬ S b ∧ ¬ D b ∧ (E.X0 b ∨ E.w0.heap.size ≤ b) := fun b hb => by
    obtain ⟨k, blk, _, q2, q3, q4⟩ := hLive b hb
    exact h.hown k blk b q2 q3 q4
  have hother : ∀ k blk g, k ∉ ks.map (·.1) → s.H k = some blk → blk.live = true → own k = some g → ¬ LiveC (lendC E L VS w S own ks lent) g := fun k blk g hk hb hl e hL => by
    obtain ⟨k2, blk2, q1, q2, q3, q4⟩ := hLive g hL
    exact hk (h.inj k k2 blk blk2 g hb q2 hl q3 e q4 ▸ q1)
  have hgr : Grows w C'.w (LiveC (lendC E L VS w S own ks lent)) := ht.grows
  have hle : (ctx E s w S own).le ⟨H'', own'', C'.S, C'.w, E.l⟩ := by
    refine ⟨fun b hb => ht.le.S b hb, fun k blk hk => ?_, rfl⟩
    have hk : s.H k = some blk := hk
    by_cases hm : k ∈ ks.map (·.1)
    · obtain ⟨blk0, hb0, hv0, hr0⟩ : ∃ blk0, (lendC E L VS w S own ks lent).H (asc ks k) = some blk0 ∧ blk0.ver = blk.ver ∧ ∀ r v, RefVal w (own k) blk r v → RefVal w ((lendC E L VS w S own ks lent).own (asc ks k)) blk0 r v := by
        by_cases hml : asc ks k ∈ lent.map (·.2)
        · obtain ⟨p, hp, e⟩ := List.mem_map.1 hml
          have ek : p.1 = k := by rw [← csa_asc h1 h2 hm, ← e, csa_mem h2 (hsub p hp)]
          obtain ⟨b0, hb0⟩ := lookB_of_key (hin p hp)
          have : b0 = blk := by
            rw [hH, ← ek, hls_some hb0] at hk
            exact Option.some.inj hk
          subst this
          refine ⟨renB (asc ks) b0, ?_, renB_ver _ _, fun r v hr => ?_⟩
          · rw [← e, lendC_H, hls_some (lookB_lentL hn2 hp), hb0]; rfl
          · rw [RefVal.ren, lendC_own, if_pos hml, csa_asc h1 h2 hm]
            exact hr
        · refine ⟨.dead (ver0 (hls L VS) (csa ks (asc ks k))), (by rw [lendC_H]; exact hls_none (lookB_none (by rw [keys_lentL]; exact hml))), ?_, fun r v _ => ?_⟩
          · rw [csa_asc h1 h2 hm, ← hH]
            show ver0 s.H k = blk.ver
            unfold ver0
            rw [hk]
          · cases (lendC E L VS w S own ks lent).own (asc ks k) <;> exact trivial
      obtain ⟨blk1, hb1, hv1, hr1⟩ := ht.le.H (asc ks k) blk0 hb0
      refine ⟨renB (csa ks) blk1, ?_, ?_, fun e r v hr => ?_⟩
      · show H'' k = _
        rw [eC k hm, hb1]; rfl
      · rw [renB_ver, ← hv0]; exact hv1
      · rw [renB_ver] at e
        rw [RefVal.ren]
        show RefVal C'.w (own'' k) blk1 r v
        rw [oC k hm]
        exact hr1 (by omega) r v (hr0 r v hr)
    · refine ⟨blk, (eO k hm).trans hk, Nat.le_refl _, fun _ r v hr => ?_⟩
      show RefVal C'.w (own'' k) blk r v
      rw [oO k hm]
      exact hr.same fun g e hl => hgr.block g (h.hown k blk g hk hl e).1 (hother k blk g hm hk hl e)
  have hren : RenOk C' ⟨H'', own'', C'.S, C'.w, E.l⟩ (csa ks) (inK (keys l')) := by
    refine ⟨fun b hb => ⟨hb, rfl⟩, fun k hk blk hb => ?_, by have := ht.le.l; exact this.symm⟩
    have hm := hk' k (inK_iff.1 hk)
    refine ⟨renB (csa ks) blk, ?_, by rw [renB_ver]; exact Nat.le_refl _, fun _ r v hr => ?_⟩
    · show H'' (csa ks k) = _
      rw [eC _ (csa_in h1 h2 hm), asc_csa h1 h2 hm, hb]; rfl
    · rw [RefVal.ren]
      show RefVal C'.w (own'' (csa ks k)) blk r v
      rw [oC _ (csa_in h1 h2 hm), asc_csa h1 h2 hm]
      exact hr
  have hS3 : ∀ b, C'.S b → S b ∨ (b < w.heap.size ∧ ¬ S b ∧ ¬ D b ∧ (E.X0 b ∨ E.w0.heap.size ≤ b) ∧ LiveC (lendC E L VS w S own ks lent) b) ∨ w.heap.size ≤ b := fun b hb => by
    rcases ht.hS b hb with q | q | q
    · exact .inl q
    · obtain ⟨a1, a2, a3, a4⟩ := hLin b q
      exact .inr (.inl ⟨a1, a2, a3, a4, q⟩)
    · exact .inr (.inr q)
  have hw0 := h.fr.size
  have hcase : ∀ k blk g, k ∈ ks.map (·.1) → H'' k = some blk → blk.live = true → own'' k = some g → ∃ blk1, C'.H (asc ks k) = some blk1 ∧ blk1.live = true ∧ C'.own (asc ks k) = some g := fun k blk g hm hk hl e => by
    rw [eC k hm] at hk
    obtain ⟨b1, hb1, rfl⟩ := Option.map_eq_some_iff.1 hk
    rw [oC k hm] at e
    exact ⟨b1, hb1, by rw [← hl, renB_live], e⟩
  refine ⟨own'', VS'', ?_, hren, hle⟩
  exact {
    fr := h.fr.grows hgr fun b hb => (hLin b hb).2.2.2
    hS := fun b hb => by
      refine ⟨hok'.hS b hb, ?_⟩
      rcases hS3 b hb with q | ⟨a1, a2, a3, a4, _⟩ | q
      · exact (h.hS b q).2
      · exact ⟨fun hc => a3 (h.hC b hc).1, .inr a4⟩
      · exact ⟨fun hc => absurd (h.hD b (h.hC b hc).1) (by omega), .inr (.inr (by omega))⟩
    hS0 := fun b hb => (ht.le.S b (h.hS0 b hb)).1
    hC := h.hC
    hD := fun b hb => Nat.lt_of_lt_of_le (h.hD b hb) hgr.size
    j := hJ _ _ _ _ _ h.j (fun b hb => hgr.block b (h.hD b hb) fun hl => (hLin b hl).2.2.1 hb) hgr.size hgr.os hgr.tape hgr.output
    hown := fun k blk g hk hl e => by
      have hk : H'' k = some blk := hk
      by_cases hm : k ∈ ks.map (·.1)
      · obtain ⟨blk1, q1, q2, q3⟩ := hcase k blk g hm hk hl e
        obtain ⟨b1, b2⟩ := hok'.hown _ blk1 g q1 q2 q3
        rcases ht.hown _ blk1 g q1 q2 q3 with q | q
        · obtain ⟨a1, a2, a3, a4⟩ := hLin g q
          exact ⟨b1, b2, a3, a4⟩
        · have q : w.heap.size ≤ g := q
          exact ⟨b1, b2, fun hd => absurd (h.hD g hd) (by omega), .inr (by omega)⟩
      · rw [eO k hm] at hk
        rw [oO k hm] at e
        obtain ⟨a1, a2, a3, a4⟩ := h.hown k blk g hk hl e
        refine ⟨Nat.lt_of_lt_of_le a1 hgr.size, fun hs => ?_, a3, a4⟩
        rcases hS3 g hs with q | ⟨_, _, _, _, q⟩ | q
        · exact a2 q
        · exact hother k blk g hm hk hl e q
        · omega
    inj := fun k k' blk blk' g hk hk' hl hl' e e' => by
      have hk : H'' k = some blk := hk
      have hk' : H'' k' = some blk' := hk'
      by_cases hm : k ∈ ks.map (·.1) <;> by_cases hm' : k' ∈ ks.map (·.1)
      · obtain ⟨b1, q1, q2, q3⟩ := hcase k blk g hm hk hl e
        obtain ⟨b2, p1, p2, p3⟩ := hcase k' blk' g hm' hk' hl' e'
        have := hok'.inj _ _ b1 b2 g q1 p1 q2 p2 q3 p3
        rw [← csa_asc h1 h2 hm, ← csa_asc h1 h2 hm', this]
      · exfalso
        obtain ⟨b1, q1, q2, q3⟩ := hcase k blk g hm hk hl e
        rw [eO k' hm'] at hk'
        rw [oO k' hm'] at e'
        rcases ht.hown _ b1 g q1 q2 q3 with q | q
        · exact hother k' blk' g hm' hk' hl' e' q
        · have q : w.heap.size ≤ g := q
          have := (h.hown k' blk' g hk' hl' e').1; omega
      · exfalso
        obtain ⟨b1, q1, q2, q3⟩ := hcase k' blk' g hm' hk' hl' e'
        rw [eO k hm] at hk
        rw [oO k hm] at e
        rcases ht.hown _ b1 g q1 q2 q3 with q | q
        · exact hother k blk g hm hk hl e q
        · have q : w.heap.size ≤ g := q
          have := (h.hown k blk g hk hl e).1; omega
      · rw [eO k hm] at hk
        rw [oO k hm] at e
        rw [eO k' hm'] at hk'
        rw [oO k' hm'] at e'
        exact h.inj k k' blk blk' g hk hk' hl hl' e e'
    heap := fun k blk hk => by
      have hk : H'' k = some blk := hk
      by_cases hm : k ∈ ks.map (·.1)
      · have hk0 := hk
        rw [eC k hm] at hk0
        obtain ⟨b1, hb1, rfl⟩ := Option.map_eq_some_iff.1 hk0
        have hh := hok'.heap _ b1 hb1
        show HRel _ (own'' k) _
        rw [oC k hm]
        refine hh.ren hren (fun _ _ _ => rfl) ?_
        have hb2 := hb1
        rw [hH'] at hb2
        unfold hls at hb2
        split at hb2
        · rename_i b3 e3
          cases hb2
          exact hb' _ (lookB_mem e3)
        · cases hb2; rfl
      · rw [eO k hm] at hk
        show HRel _ (own'' k) _
        rw [oO k hm]
        exact (h.heap k blk hk).mono hle fun g e hl => hgr.block g (h.hown k blk g hk hl e).1 (hother k blk g hm hk hl e)
    tmps := fun i => (h.tmps i).mono hle
    size := h.size
    defers := h.defers
    hDs := fun d hd => by
      obtain ⟨a1, a2, a3, a4⟩ := h.hDs d hd
      have hdL : ¬ LiveC (lendC E L VS w S own ks lent) d := fun hL => by
        obtain ⟨k2, blk2, q1, q2, q3, q4⟩ := hLive d hL
        have hh := h.heap k2 blk2 q2
        rw [q4] at hh
        cases blk2 <;> first | (simp [Blk.live] at q3; done) | skip
        · obtain ⟨cs, hcs, _⟩ := hh; rw [a1] at hcs; cases hcs
        · obtain ⟨cs, cap, hcs, _⟩ := hh; rw [a1] at hcs; cases hcs
        · obtain ⟨o, hcs, ho⟩ := hh; rw [a1] at hcs; cases hcs; exact ho.not.2.1 _ rfl
      have hlt := (Array.getElem?_eq_some_iff.1 a1).1
      refine ⟨(hgr.block d hlt hdL).trans a1, a2, fun hs => ?_, a4⟩
      rcases hS3 d hs with q | ⟨_, _, _, _, q⟩ | q
      · exact a3 q
      · exact hdL q
      · omega
    nodup := h.nodup
    le := h.le.trans hle
    cd := h.cd
    fix := h.fix }
end

end Go.Am
