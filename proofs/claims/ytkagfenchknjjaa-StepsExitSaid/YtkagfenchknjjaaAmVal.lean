import Derived.Test.YtkagfenchknjjaaAmOpR
set_option linter.unusedVariables false
set_option linter.unusedSimpArgs false
namespace Go.Am
open Go.RowKit

/-! ### Closed values: no reference into the heap of an activation -/
mutual
def closed : AV → Bool
  | .any | .ref .. | .yld => false
  | .agg cs | .tup cs | .elt cs _ | .func _ cs => closedL cs
  | .sl rows | .slt rows => closedLL rows
  | _ => true
def closedL : List AV → Bool
  | [] => true
  | c :: cs => closed c && closedL cs
def closedLL : List (List AV) → Bool
  | [] => true
  | r :: rs => closedL r && closedLL rs
end
theorem closedL_get {cs : List AV} (h : closedL cs = true) : ∀ {i : Nat} {a : AV}, cs[i]? = some a → closed a = true := by
  induction cs with
  | nil => intro i a ha; simp at ha
  | cons c cs ih =>
    intro i a ha
    simp only [closedL, Bool.and_eq_true] at h
    cases i with
    | zero => simp at ha; subst ha; exact h.1
    | succ i => exact ih h.2 (by simpa using ha)
theorem closedLL_get {rows : List (List AV)} (h : closedLL rows = true) : ∀ {i : Nat} {r : List AV}, rows[i]? = some r → closedL r = true := by
  induction rows with
  | nil => intro i a ha; simp at ha
  | cons c cs ih =>
    intro i a ha
    simp only [closedLL, Bool.and_eq_true] at h
    cases i with
    | zero => simp at ha; subst ha; exact h.1
    | succ i => exact ih h.2 (by simpa using ha)
theorem closedL_mk {cs : List AV} (h : ∀ a ∈ cs, closed a = true) : closedL cs = true := by
  induction cs with
  | nil => rfl
  | cons c cs ih => simp only [closedL, Bool.and_eq_true]; exact ⟨h c (by simp), ih fun a ha => h a (by simp [ha])⟩
theorem closedLL_mk {rows : List (List AV)} (h : ∀ r ∈ rows, closedL r = true) : closedLL rows = true := by
  induction rows with
  | nil => rfl
  | cons c cs ih => simp only [closedLL, Bool.and_eq_true]; exact ⟨h c (by simp), ih fun a ha => h a (by simp [ha])⟩
theorem closedL_append {a b : List AV} : closedL (a ++ b) = (closedL a && closedL b) := by
  induction a with
  | nil => simp [closedL]
  | cons c cs ih => simp [closedL, ih, Bool.and_assoc]
theorem closedLL_append {a b : List (List AV)} : closedLL (a ++ b) = (closedLL a && closedLL b) := by
  induction a with
  | nil => simp [closedLL]
  | cons c cs ih => simp [closedLL, ih, Bool.and_assoc]
theorem closedLL_map {α : Type} {enc : α → List AV} (h : ∀ x, closedL (enc x) = true) (l : List α) : closedLL (l.map enc) = true :=
  closedLL_mk fun r hr => by obtain ⟨x, _, rfl⟩ := List.mem_map.1 hr; exact h x

/-- The context of a call's borders: no heap of one's own. -/
abbrev bare (S : Nat → Prop) (w : World) (l : Nat) : Ctx := ⟨fun _ => none, fun _ => none, S, w, l⟩

theorem R.bare {C : Ctx} {a : AV} {v : Value} (h : R C a v) (l : Nat) : closed a = true → R (bare C.S C.w l) a v := by
  induction h with
  | any v => intro h; simp [closed] at h
  | int k n => exact fun _ => .int k n
  | bool b => exact fun _ => .bool b
  | str s hs => exact fun _ => .str s hs
  | agg cs vs hl _ ih => exact fun hc => .agg cs vs hl fun i a ha => ih i a ha (closedL_get (by simpa [closed] using hc) ha)
  | tup cs vs hl _ ih => exact fun hc => .tup cs vs hl fun i a ha => ih i a ha (closedL_get (by simpa [closed] using hc) ha)
  | sl rows A cap g off sz f hA hcap hmax hsz hc hone _ ih =>
    exact fun hcl => .sl rows A cap g off sz f hA hcap hmax hsz hc hone fun i r hr j a ha => ih i r hr j a ha (closedL_get (closedLL_get (by simpa [closed] using hcl) hr) ha)
  | slt rows g off sz f hA hmax hsz hc hone _ ih =>
    exact fun hcl => .slt rows g off sz f hA hmax hsz hc hone fun i r hr j a ha => ih i r hr j a ha (closedL_get (closedLL_get (by simpa [closed] using hcl) hr) ha)
  | nils => exact fun _ => .nils
  | elt row off g o f hA hc hone _ ih => exact fun hcl => .elt row off g o f hA hc hone fun j a ha => ih j a ha (closedL_get (by simpa [closed] using hcl) ha)
  | ref key ver r blk v hb hv hone hr => intro h; simp [closed] at h
  | func f cs vs hl _ ih => exact fun hc => .func f cs vs hl fun i a ha => ih i a ha (closedL_get (by simpa [closed] using hc) ha)
  | nilf => exact fun _ => .nilf
  | nilp => exact fun _ => .nilp
  | yld => intro h; simp [closed] at h

/-- What holds bare holds in every context over the same memory. -/
theorem R.of_bare {S : Nat → Prop} {w : World} {l : Nat} {a : AV} {v : Value} (h : R (Am.bare S w l) a v) (C : Ctx) (hw : C.w = w) (hS : ∀ b, S b → C.S b) (hl : C.l = l) : R C a v := by
  refine h.mono ⟨fun b hb => ⟨hS b hb, by rw [hw]⟩, fun k blk hk => ?_, hl⟩
  cases hk

/-! ### Values that leave: what is frozen is told as what it is -/
def pur0 (H : Heap) : AV → AV
  | .slt rows => .sl rows
  | .nils => .sl []
  | .ref k ver .o => match H k with
    | some (.froz v rows) => if v = ver then .sl rows else .any
    | _ => .ref k ver .o
  | .ref k ver (.p off) => match H k with
    | some (.fbox v cells) => if v = ver then .elt cells off else .any
    | _ => .ref k ver (.p off)
  | a => a
def pur1 (H : Heap) : AV → AV
  | .agg cs => .agg (cs.map (pur0 H))
  | .func f cs => .func f (cs.map (pur0 H))
  | a => pur0 H a
def pur (H : Heap) : AV → AV
  | .tup cs => .tup (cs.map (pur1 H))
  | a => pur1 H a

theorem flatten_row {sz : Nat} : ∀ {rows : List (List AV)} (h : ∀ r ∈ rows, r.length = sz) {i : Nat} {r : List AV}, rows[i]? = some r → (rows.flatten.drop (i * sz)).take sz = r
  | [], _, i, r, hr => by simp at hr
  | x :: rows, h, 0, r, hr => by
    simp at hr
    subst hr
    have := h x (by simp)
    simp [← this]
  | x :: rows, h, i + 1, r, hr => by
    have hx := h x (by simp)
    have ih := flatten_row (rows := rows) (fun r hr => h r (by simp [hr])) (i := i) (r := r) (by simpa using hr)
    rw [List.flatten_cons, Nat.add_mul, Nat.one_mul, Nat.add_comm, ← List.drop_drop]
    rw [← hx, List.drop_left, hx]
    exact ih
theorem flatten_length {sz : Nat} : ∀ {rows : List (List AV)} (h : ∀ r ∈ rows, r.length = sz), rows.flatten.length = rows.length * sz
  | [], _ => by simp
  | x :: rows, h => by
    have hx := h x (by simp)
    have ih := flatten_length (rows := rows) (fun r hr => h r (by simp [hr]))
    simp only [List.flatten_cons, List.length_append, List.length_cons, ih, hx]
    rw [Nat.add_mul, Nat.one_mul, Nat.add_comm]
theorem flatten_get {sz : Nat} {rows : List (List AV)} (h : ∀ r ∈ rows, r.length = sz) {i : Nat} {r : List AV} (hr : rows[i]? = some r) {j : Nat} (hj : j < sz) : rows.flatten[i * sz + j]? = r[j]? := by
  have := flatten_row h hr
  rw [← this, List.getElem?_take, if_pos hj, List.getElem?_drop]

/-- A cell's value, made one that can stand in a cell where there is none. -/
def cellOr (cs : Array Value) (i : Nat) : Value := match cs[i]? with | some v => if v.oneCell' then v else .bool true | none => .bool true
theorem cellOr_one (cs : Array Value) (i : Nat) : (cellOr cs i).oneCell' = true := by
  unfold cellOr
  split
  · split
    · assumption
    · rfl
  · rfl
theorem cellOr_eq {cs : Array Value} {i : Nat} {v : Value} (h : cs[i]? = some v) (h1 : v.oneCell' = true) : cellOr cs i = v := by simp [cellOr, h, h1]

/-- A frozen block, read as a slice. -/
theorem R_froz {C : Ctx} {g : Nat} {ver : Nat} {rows : List (List AV)} (hh : HRel C (some g) (.froz ver rows)) {cap : Nat} (hcap : rows.length ≤ cap) (hmax : rows.length ≤ maxLen) : R C (.sl rows) (.slice (some ⟨g, 0, none⟩) rows.length cap) := by
  obtain ⟨cs, t, sz, h1, h2, h3, h4, h5⟩ := hh
  have key : ∀ i r, rows[i]? = some r → ∀ j a, r[j]? = some a → ∃ v, cs[i * sz + j]? = some v ∧ R C a v ∧ a.cell = true := fun i r hr j a ha => by
    have hrl := h4 r (List.mem_of_getElem? hr)
    have hj : j < sz := by have := (List.getElem?_eq_some_iff.1 ha).1; omega
    exact h5 _ a ((flatten_get h4 hr hj).trans ha)
  refine .sl rows _ cap g 0 sz (fun i j => cellOr cs (i * sz + j)) (fun _ => ⟨rfl, h2⟩) hcap hmax h4 (fun i hi j hj => ?_) (fun i j => cellOr_one _ _) fun i r hr j a ha => ?_
  · obtain ⟨v, hv, hr, hc⟩ := key i rows[i] (List.getElem?_eq_getElem hi) j (rows[i][j]'(by rw [h4 _ (List.getElem_mem hi)]; exact hj)) (List.getElem?_eq_getElem _)
    rw [Nat.zero_add, cell_of_row C.w g _ cs t (0, 0) h1, hv]
    exact congrArg some (cellOr_eq hv (hr.one hc)).symm
  · obtain ⟨v, hv, hr2, hc⟩ := key i r hr j a ha
    rw [cellOr_eq hv (hr2.one hc)]
    exact hr2
theorem R_slt_of {C : Ctx} {g : Nat} {cs : Array Value} {t : TypeId} {fr : Nat × Nat} {rows : List (List AV)} {n : Nat} (h1 : C.w.heap[g]? = some (.cells cs t fr)) (h2 : C.S g) (h5 : Holds C cs rows.flatten) (h4 : ∀ r ∈ rows, r.length = n) (hmax : rows.length ≤ maxLen) :
    R C (.slt rows) (.slice (some ⟨g, 0, none⟩) rows.length rows.length) := by
  have key : ∀ i r, rows[i]? = some r → ∀ j a, r[j]? = some a → ∃ v, cs[i * n + j]? = some v ∧ R C a v ∧ a.cell = true := fun i r hr j a ha => by
    have hrl := h4 r (List.mem_of_getElem? hr)
    have hj : j < n := by have := (List.getElem?_eq_some_iff.1 ha).1; omega
    exact h5 _ a ((flatten_get h4 hr hj).trans ha)
  refine .slt rows g 0 n (fun i j => cellOr cs (i * n + j)) h2 hmax h4 (fun i hi j hj => ?_) (fun i j => cellOr_one _ _) fun i r hr j a ha => ?_
  · obtain ⟨v, hv, hr, hc⟩ := key i rows[i] (List.getElem?_eq_getElem hi) j (rows[i][j]'(by rw [h4 _ (List.getElem_mem hi)]; exact hj)) (List.getElem?_eq_getElem _)
    rw [Nat.zero_add, cell_of_row C.w g _ cs t fr h1, hv]
    exact congrArg some (cellOr_eq hv (hr.one hc)).symm
  · obtain ⟨v, hv, hr2, hc⟩ := key i r hr j a ha
    rw [cellOr_eq hv (hr2.one hc)]
    exact hr2
theorem R_fbox {C : Ctx} {g : Nat} {ver : Nat} {cells : List AV} (hh : HRel C (some g) (.fbox ver cells)) (off : Nat) : R C (.elt cells off) (.pointer (some ⟨g, off, none⟩)) := by
  obtain ⟨cs, t, h1, h2, h5⟩ := hh
  have e : (⟨g, off, none⟩ : Addr) = ⟨g, 0 + off, none⟩ := by rw [Nat.zero_add]
  rw [e]
  refine .elt cells off g 0 (fun j => cellOr cs j) h2 (fun j hj => ?_) (fun j => cellOr_one _ _) fun j a ha => ?_
  · obtain ⟨v, hv, hr, hc⟩ := h5 j cells[j] (List.getElem?_eq_getElem hj)
    rw [Nat.zero_add, cell_of_row C.w g _ cs t (0, 0) h1, hv, cellOr_eq hv (hr.one hc)]
  · obtain ⟨v, hv, hr2, hc⟩ := h5 j a ha
    rw [cellOr_eq hv (hr2.one hc)]
    exact hr2
theorem R.loose {C : Ctx} {rows : List (List AV)} {v : Value} (h : R C (.slt rows) v) : R C (.sl rows) v := by
  cases h with
  | slt _ g off sz f hA hmax hsz hc hone hh => exact .sl rows _ _ g off sz f (fun _ => ⟨rfl, hA⟩) (Nat.le_refl _) hmax hsz hc hone hh
theorem R.nil_sl {C : Ctx} {v : Value} (h : R C .nils v) : R C (.sl []) v := by
  cases h with
  | nils => exact .sl [] none 0 0 0 0 (fun _ _ => .bool true) (fun h => (h rfl).elim) (Nat.le_refl _) (by simp [maxLen]) (fun _ h => by simp at h) (fun i hi => by simp at hi) (fun _ _ => rfl) fun i r hr => by simp at hr

section
variable {C : Ctx} (hh : ∀ k blk, C.H k = some blk → HRel C (C.own k) blk)
include hh
theorem R.pur0 {a : AV} {v : Value} (h : R C a v) : R C (pur0 C.H a) v := by
  unfold Am.pur0
  split
  · exact h.loose
  · exact h.nil_sl
  · rename_i k ver
    split
    · rename_i v' rows hk
      split
      · subst v'
        cases h with
        | ref _ _ _ blk _ hb hv hone hr =>
          rw [hk] at hb
          cases hb
          have hhk := hh k _ hk
          have hr := hr rfl
          cases hog : C.own k with
          | none =>
            rw [hog] at hhk hr
            have e : rows = [] := hhk
            subst e
            have e2 : v = .slice none 0 0 := hr
            subst e2
            exact R.nil_sl .nils
          | some g =>
            rw [hog] at hhk hr
            obtain ⟨cap, rfl, h1, h2⟩ := hr
            exact R_froz hhk h1 h2
      · exact .any _
    · exact h
  · rename_i k ver off
    split
    · rename_i v' rows hk
      split
      · subst v'
        cases h with
        | ref _ _ _ blk _ hb hv hone hr =>
          rw [hk] at hb
          cases hb
          have hhk := hh k _ hk
          have hr := hr rfl
          cases hog : C.own k with
          | none => rw [hog] at hhk; exact hhk.elim
          | some g =>
            rw [hog] at hhk hr
            have e : v = .pointer (some ⟨g, off, none⟩) := hr
            subst e
            exact R_fbox hhk off
      · exact .any _
    · exact h
  · exact h
theorem R.pur1 {a : AV} {v : Value} (h : R C a v) : R C (pur1 C.H a) v := by
  unfold Am.pur1
  split
  · rename_i cs
    cases h with
    | agg _ vs hl h =>
      refine .agg _ vs (by simpa using hl) fun i a ha => ?_
      rw [List.getElem?_map] at ha
      obtain ⟨b, hb, rfl⟩ := Option.map_eq_some_iff.1 ha
      exact (h i b hb).pur0 hh
  · rename_i f cs
    cases h with
    | func _ _ vs hl h =>
      refine .func f _ vs (by simpa using hl) fun i a ha => ?_
      rw [List.getElem?_map] at ha
      obtain ⟨b, hb, rfl⟩ := Option.map_eq_some_iff.1 ha
      exact (h i b hb).pur0 hh
  · exact h.pur0 hh
theorem R.pur {a : AV} {v : Value} (h : R C a v) : R C (pur C.H a) v := by
  unfold Am.pur
  split
  · rename_i cs
    cases h with
    | tup _ vs hl h =>
      refine .tup _ vs (by simpa using hl) fun i a ha => ?_
      rw [List.getElem?_map] at ha
      obtain ⟨b, hb, rfl⟩ := Option.map_eq_some_iff.1 ha
      exact (h i b hb).pur1 hh
  · exact h.pur1 hh
end

/-! ### Freezing -/
section
variable {E : Env} {s : St} {a : Act} {w : World} {S : Nat → Prop} {own : Nat → Option Nat} {C D : Nat → Prop} {Ds : List Nat}

/-- The block of a key as it is when nobody may write it any more. -/
def Blk.frozen : Blk → Option Blk
  | .row v _ _ rows => some (.froz v rows)
  | .box v _ cells => some (.fbox v cells)
  | _ => none

theorem RelAt.freeze (h : RelAt E s a w S own C D Ds) {k : Nat} {blk blk' : Blk} (hk : s.H k = some blk) (hf : blk.frozen = some blk') :
    RelAt E { s with H := upd s.H k (some blk') } a w (fun b => S b ∨ own k = some b) own C D Ds ∧ (ctx E s w S own).le ⟨upd s.H k (some blk'), own, fun b => S b ∨ own k = some b, w, E.l⟩ := by
  have hl : blk.live = true := by cases blk <;> first | rfl | cases hf
  have hl' : blk'.live = false := by cases blk <;> cases hf <;> rfl
  have hv : blk'.ver = blk.ver := by cases blk <;> cases hf <;> rfl
  have hhk := h.heap k blk hk
  have hle : (ctx E s w S own).le ⟨upd s.H k (some blk'), own, fun b => S b ∨ own k = some b, w, E.l⟩ := by
    refine ⟨fun b hb => ⟨.inl hb, rfl⟩, fun k0 b0 hk0 => ?_, rfl⟩
    by_cases e : k0 = k
    · subst e
      have hk0' : s.H k0 = some b0 := hk0
      rw [hk] at hk0'
      cases hk0'
      refine ⟨_, upd_same _ _ _, Nat.le_of_eq hv.symm, fun _ r v hr => ?_⟩
      have hr : RefVal w (own k0) blk r v := hr
      show RefVal w (own k0) blk' r v
      cases hog : own k0 with
      | none =>
        rw [hog] at hr
        cases blk <;> cases hf <;> cases r <;> exact hr
      | some g =>
        rw [hog] at hr hhk
        cases blk with
        | row ver t sz rows =>
          cases hf
          cases r with
          | p off => trivial
          | e i off => trivial
          | o =>
            obtain ⟨cap, hv1, hv2⟩ := hr
            obtain ⟨cs, cap', g1, g2, g3, g4, g5, g6, g7⟩ := hhk
            have e1 := hv2 cs t (0, 0) g1
            rw [g2] at e1
            have e2 : cap' = cap := Nat.eq_of_mul_eq_mul_right g5 e1
            subst e2
            exact ⟨cap', hv1, g3, Nat.le_trans g3 g4⟩
        | box ver t cells =>
          cases hf
          cases r with
          | p off => exact hr
          | e i off => trivial
          | o => trivial
        | _ => cases hf
    · exact ⟨b0, by simpa [upd, e] using hk0, Nat.le_refl _, fun _ r v hr => hr⟩
  refine ⟨?_, hle⟩
  exact {
    fr := h.fr
    hS := fun b hb => by
      rcases hb with hb | hb
      · exact h.hS b hb
      · obtain ⟨h1, h2, h3, h4⟩ := h.hown k blk b hk hl hb
        exact ⟨h1, fun hc => h3 (h.hC _ hc).1, .inr h4⟩
    hS0 := fun b hb => .inl (h.hS0 b hb)
    hC := h.hC
    hD := h.hD
    j := h.j
    hown := fun k0 b0 g hk0 hl0 eg => by
      by_cases e : k0 = k
      · subst e
        simp at hk0
        subst hk0
        rw [hl'] at hl0
        cases hl0
      · have hk' : s.H k0 = some b0 := by simpa [upd, e] using hk0
        obtain ⟨g1, g2, g3, g4⟩ := h.hown k0 b0 g hk' hl0 eg
        exact ⟨g1, fun hs => hs.elim g2 (fun e2 => e (h.inj k0 k b0 blk g hk' hk hl0 hl eg e2)), g3, g4⟩
    inj := fun k1 k2 b1 b2 g hk1 hk2 hl1 hl2 eg1 eg2 => by
      have f1 : k1 ≠ k := fun e1 => by subst e1; simp at hk1; subst hk1; rw [hl'] at hl1; cases hl1
      have f2 : k2 ≠ k := fun e1 => by subst e1; simp at hk2; subst hk2; rw [hl'] at hl2; cases hl2
      exact h.inj k1 k2 b1 b2 g (by simpa [upd, f1] using hk1) (by simpa [upd, f2] using hk2) hl1 hl2 eg1 eg2
    heap := fun k0 b0 hk0 => by
      by_cases e : k0 = k
      · subst e
        simp at hk0
        subst hk0
        cases hog : own k0 with
        | none =>
          rw [hog] at hhk
          cases blk <;> cases hf
          · exact hhk.elim
          · exact hhk.1
        | some g =>
          rw [hog] at hhk
          rw [hog] at hle
          cases blk with
          | row ver t sz rows =>
            cases hf
            obtain ⟨cs, cap', g1, g2, g3, g4, g5, g6, g7⟩ := hhk
            exact ⟨cs, t, sz, g1, .inr rfl, g5, g6, g7.mono hle⟩
          | box ver t cells =>
            cases hf
            obtain ⟨cs, g1, g2, g3⟩ := hhk
            exact ⟨cs, t, g1, .inr rfl, g3.mono hle⟩
          | _ => cases hf
      · have hk' : s.H k0 = some b0 := by simpa [upd, e] using hk0
        exact (h.heap k0 b0 hk').mono hle (fun _ _ _ => rfl)
    tmps := fun i => (h.tmps i).mono hle
    size := h.size
    defers := h.defers
    hDs := fun d hd => by
      obtain ⟨g1, g2, g3, g4⟩ := h.hDs d hd
      refine ⟨g1, g2, fun hs => hs.elim g3 (fun e => ?_), g4⟩
      rw [e] at hhk
      cases blk with
      | row ver t sz rows => obtain ⟨cs, cap', g1', _⟩ := hhk; rw [g1] at g1'; cases g1'
      | box ver t cells => obtain ⟨cs, g1', _⟩ := hhk; rw [g1] at g1'; cases g1'
      | _ => cases hf
    nodup := h.nodup
    le := h.le.trans hle
    cd := h.cd
    fix := h.fix }
end

end Go.Am
