import Derived.Test.YtkagfenchknjjaaAmExec
set_option linter.unusedVariables false
set_option linter.unusedSimpArgs false
namespace Go.Am
open Go.RowKit

section
variable {E : Env} {s : St} {a : Act} {w : World} {S : Nat → Prop} {own : Nat → Option Nat} {C D : Nat → Prop} {Ds : List Nat}

/-! ### Addresses -/
def addA (H : Heap) (n : Nat) : AV → Option AV
  | .ref k ver (.p off) => match H k with
    | some (.box v _ _) => if v = ver then some (.ref k ver (.p (off + n))) else none
    | some (.fbox v _) => if v = ver then some (.ref k ver (.p (off + n))) else none
    | _ => none
  | .ref k ver (.e i off) => match H k with
    | some (.row v _ _ rows) => if v = ver ∧ i < rows.length then some (.ref k ver (.e i (off + n))) else none
    | _ => none
  | .elt row off => some (.elt row (off + n))
  | _ => none

theorem RelAt.addA (h : RelAt E s a w S own C D Ds) {x y : AV} {vx : Value} (hx : R (ctx E s w S own) x vx) {n : Nat} (hr : addA s.H n x = some y) :
    ∃ g o, vx = .pointer (some ⟨g, o, none⟩) ∧ R (ctx E s w S own) y (.pointer (some ⟨g, o + n, none⟩)) := by
  unfold Am.addA at hr
  split at hr
  · rename_i k ver off
    split at hr
    · rename_i v t cells hk
      split at hr
      · rename_i hv
        cases hr
        obtain ⟨h1, h2⟩ := h.ref_at hx hk hv
        cases hog : own k with
        | none => rw [hog] at h2; exact h2.elim
        | some g =>
          rw [hog] at h1
          refine ⟨g, off, h1, .ref k ver _ _ _ hk (Nat.le_of_eq hv.symm) rfl fun _ => ?_⟩
          show RefVal w (own k) _ _ _
          rw [hog]; rfl
      · cases hr
    · rename_i v cells hk
      split at hr
      · rename_i hv
        cases hr
        obtain ⟨h1, h2⟩ := h.ref_at hx hk hv
        cases hog : own k with
        | none => rw [hog] at h2; exact h2.elim
        | some g =>
          rw [hog] at h1
          refine ⟨g, off, h1, .ref k ver _ _ _ hk (Nat.le_of_eq hv.symm) rfl fun _ => ?_⟩
          show RefVal w (own k) _ _ _
          rw [hog]; rfl
      · cases hr
    · cases hr
  · rename_i k ver i off
    split at hr
    · rename_i v t sz rows hk
      split at hr
      · rename_i hv
        cases hr
        obtain ⟨h1, h2⟩ := h.ref_at hx hk hv.1
        cases hog : own k with
        | none =>
          rw [hog] at h2
          have e : rows = [] := h2.1
          subst e
          simp at hv
        | some g =>
          rw [hog] at h1
          refine ⟨g, i * sz + off, h1, .ref k ver _ _ _ hk (Nat.le_of_eq hv.1.symm) rfl fun _ => ?_⟩
          show RefVal w (own k) _ _ _
          rw [hog]
          show _ = _
          rw [Nat.add_assoc]
      · cases hr
    · cases hr
  · rename_i row off
    cases hr
    cases hx with
    | elt _ _ g o f hA hc hone hh =>
      refine ⟨g, o + off, rfl, ?_⟩
      rw [Nat.add_assoc]
      exact .elt row (off + n) g o f hA hc hone hh
  · cases hr

theorem addr_add (g o n : Nat) : (⟨g, o, none⟩ : Addr).add n = ⟨g, o + n, none⟩ := by
  unfold Addr.add
  split
  · rename_i e; subst e; rfl
  · rfl

theorem run_fieldAt {P : Program} {t : TypeId} {f o n : Nat} (hf : fldOf P t f = some (o, n)) (hn : n ≠ 0) (w : World) (g off : Nat) :
    (Instr.fieldAt t (.pointer (some ⟨g, off, none⟩)) f).run P w = .ok (.pointer (some ⟨g, off + o, none⟩)) w := by
  obtain ⟨fs, x, hu, hx, hsz, ho⟩ := fldOf_iff hf
  unfold Instr.fieldAt Instr.sureAddr fieldPlace
  simp only [Sem.run_bind, run_underlying hu, Result.andThen_ok, hx, Sem.run_pure, run_sz w hsz]
  simp only [if_neg hn, ho, Sem.run_pure, Result.andThen_ok, addr_add]

theorem run_field {P : Program} {C : Ctx} {t : TypeId} {f off n : Nat} {ag : Bool} (w : World) (hf : fldOf P t f = some (off, n)) (ha : fldAgOf P t f = some ag) {cs : List AV} (us : List Value) (hl : us.length = cs.length)
    (hh : ∀ (i : Nat) (a : AV), cs[i]? = some a → R C a (us.getD i undef)) {v : AV} (hv : readA cs off n ag = some v) : ∃ u, (Instr.field t (.agg us.toArray) f).run P w = .ok u w ∧ R C v u := by
  obtain ⟨fs, x, hu, hx, hn, ho⟩ := fldOf_iff hf
  unfold fldAgOf at ha
  rw [hu] at ha
  simp only [hx, Option.bind_some] at ha
  unfold Instr.field part
  simp only [Sem.run_bind, run_underlying hu, Result.andThen_ok, hx, asAgg, Sem.run_pure, run_agg w ha]
  cases ag with
  | true =>
    unfold readA at hv
    simp only [if_true] at hv
    split at hv
    · rename_i hle
      cases hv
      simp only [if_true, Sem.run_bind, run_sz w hn, Result.andThen_ok, Sem.run_pure, ho]
      refine ⟨_, rfl, ?_⟩
      have e : us.toArray.extract off (off + n) = ((us.drop off).take n).toArray := by simp
      rw [e]
      refine .agg _ _ (by simp [hl]) fun i a hi => ?_
      rw [List.getElem?_take] at hi
      split at hi
      · rename_i hin
        rw [List.getElem?_drop] at hi
        have := hh (off + i) a hi
        rw [List.getD_eq_getElem?_getD] at this ⊢
        rw [List.getElem?_take, if_pos hin, List.getElem?_drop]
        exact this
      · cases hi
    · cases hv
  | false =>
    simp only [readA, Bool.false_eq_true, if_false] at hv
    have hlt : off < us.length := by have := (List.getElem?_eq_some_iff.1 hv).1; omega
    have := hh off v hv
    rw [List.getD_eq_getElem?_getD, List.getElem?_eq_getElem hlt] at this
    exact ⟨us[off], by simp [ho, hlt], this⟩

/-! ### Elements -/
def ixRows (rows : List (List AV)) (i : Int) (n : Nat) : Option AV :=
  if 0 ≤ i then match rows[i.toNat]? with
    | some r => if r.length = n then some (.elt r 0) else none
    | none => none
  else none
def ixA (H : Heap) (n : Nat) (i : Int) : AV → Option AV
  | .sl rows => ixRows rows i n
  | .slt rows => ixRows rows i n
  | .ref k ver .o => match H k with
    | some (.row v _ sz rows) => if v = ver ∧ sz = n ∧ 0 ≤ i ∧ i < rows.length then some (.ref k ver (.e i.toNat 0)) else none
    | some (.froz v rows) => if v = ver then ixRows rows i n else none
    | _ => none
  | _ => none

theorem run_indexAt_slice {P : Program} {t e : TypeId} {n : Nat} (he : elOf P t = some e) (hn : szOf P e = some n) (w : World) (k : IntKind) (i : Int) (g o len cap : Nat) (h0 : 0 ≤ i) (h1 : i < len) :
    (Instr.indexAt t (.slice (some ⟨g, o, none⟩) len cap) (.int k i)).run P w = .ok (.pointer (some ⟨g, o + i.toNat * n, none⟩)) w := by
  unfold Instr.indexAt asIntOf
  simp only [Sem.run_bind, Sem.run_pure, Result.andThen_ok, run_underlying (elOf_iff he)]
  rw [if_pos ⟨h0, h1⟩]
  simp only [Sem.run_bind, Sem.run_pure, Result.andThen_ok, run_sz w hn, addr_add]

theorem R_ixRows {C : Ctx} {P : Program} {t e : TypeId} {n : Nat} (he : elOf P t = some e) (hn : szOf P e = some n) {rows : List (List AV)} {v : Value} (hx : R C (.sl rows) v) (k : IntKind) {i : Int} {y : AV} (hr : ixRows rows i n = some y) :
    ∃ u, (Instr.indexAt t v (.int k i)).run P C.w = .ok u C.w ∧ R C y u := by
  unfold ixRows at hr
  split at hr
  · rename_i h0
    split at hr
    · rename_i r hri
      split at hr
      · rename_i hrl
        cases hr
        have hil : i.toNat < rows.length := (List.getElem?_eq_some_iff.1 hri).1
        cases hx with
        | sl _ A cap g off sz f hA hcap hmax hsz hc hone hh =>
          obtain ⟨rfl, hS⟩ := hA (fun e => by subst e; simp at hil)
          refine ⟨_, run_indexAt_slice he hn C.w k i g off rows.length cap h0 (by omega), ?_⟩
          have hszn : sz = n := by rw [← hsz r (List.mem_of_getElem? hri)]; exact hrl
          have := R.elt (C := C) r 0 g (off + i.toNat * n) (fun j => f i.toNat j) hS (fun j hj => by rw [← hszn]; exact hc i.toNat hil j (by omega)) (fun j => hone _ _) (fun j b hb => hh i.toNat r hri j b hb)
          rwa [Nat.add_zero] at this
      · cases hr
    · cases hr
  · cases hr

theorem RelAt.ixA (h : RelAt E s a w S own C D Ds) {x y : AV} {vx : Value} (hx : R (ctx E s w S own) x vx) {t e : TypeId} {n : Nat} (he : elOf E.P t = some e) (hn : szOf E.P e = some n) (k : IntKind) {i : Int}
    (hr : ixA s.H n i x = some y) : ∃ v, (Instr.indexAt t vx (.int k i)).run E.P w = .ok v w ∧ R (ctx E s w S own) y v := by
  unfold Am.ixA at hr
  split at hr
  · exact R_ixRows (C := ctx E s w S own) he hn hx k hr
  · exact R_ixRows (C := ctx E s w S own) he hn hx.loose k hr
  · rename_i kk ver
    split at hr
    · rename_i v t' sz rows hk
      split at hr
      · rename_i hc
        obtain ⟨hv, hsz, h0, h1⟩ := hc
        cases hr
        obtain ⟨g1, g2⟩ := h.ref_at hx hk hv
        cases hog : own kk with
        | none =>
          rw [hog] at g2
          have e : rows = [] := g2.1
          subst e
          simp at h1
          omega
        | some g =>
          rw [hog] at g1
          obtain ⟨cap, rfl, _⟩ := g1
          refine ⟨_, run_indexAt_slice he hn w k i g 0 rows.length cap h0 h1, .ref kk ver _ _ _ hk (Nat.le_of_eq hv.symm) rfl fun _ => ?_⟩
          show RefVal w (own kk) _ _ _
          rw [hog, ← hsz]
          show _ = _
          rw [Nat.zero_add, Nat.add_zero]
      · cases hr
    · rename_i v rows hk
      split at hr
      · rename_i hv
        have hp := R.pur0 (C := ctx E s w S own) h.heap hx
        have e1 : pur0 s.H (.ref kk ver .o) = .sl rows := by simp [pur0, hk, hv]
        rw [e1] at hp
        exact R_ixRows (C := ctx E s w S own) he hn hp k hr
      · cases hr
    · cases hr
  · cases hr

/-- An element of an array in memory. -/
theorem run_indexAt_array {P : Program} {t e : TypeId} {len n : Nat} (he : arOf P t = some (len, e)) (hn : szOf P e = some n) (w : World) (k : IntKind) (i : Int) (g o : Nat) (h0 : 0 ≤ i) (h1 : i < len) :
    (Instr.indexAt t (.pointer (some ⟨g, o, none⟩)) (.int k i)).run P w = .ok (.pointer (some ⟨g, o + i.toNat * n, none⟩)) w := by
  unfold Instr.indexAt asIntOf Instr.sureAddr
  simp only [Sem.run_bind, Sem.run_pure, Result.andThen_ok, run_underlying (arOf_iff he)]
  rw [if_pos ⟨h0, h1⟩]
  simp only [Sem.run_bind, Sem.run_pure, Result.andThen_ok, run_sz w hn, addr_add]

/-! ### Slices of slices -/
def lenA (H : Heap) : AV → Option Nat
  | .sl rows => some rows.length
  | .slt rows => some rows.length
  | .nils => some 0
  | .ref k ver .o => match H k with
    | some (.row v _ _ rows) => if v = ver then some rows.length else none
    | some (.froz v rows) => if v = ver then some rows.length else none
    | _ => none
  | _ => none

theorem RelAt.lenA (h : RelAt E s a w S own C D Ds) {x : AV} {vx : Value} (hx : R (ctx E s w S own) x vx) {n : Nat} (hr : lenA s.H x = some n) :
    n ≤ maxLen ∧ ∃ A cap, vx = .slice A n cap := by
  unfold Am.lenA at hr
  split at hr
  · cases hr
    cases hx with
    | sl _ A cap g off sz f hA hcap hmax hsz hc hone hh => exact ⟨hmax, A, cap, rfl⟩
  · cases hr
    cases hx with
    | slt _ g off sz f hA hmax hsz hc hone hh => exact ⟨hmax, _, _, rfl⟩
  · cases hr
    cases hx
    exact ⟨by simp [maxLen], _, _, rfl⟩
  · rename_i k ver
    split at hr
    · rename_i v t sz rows hk
      split at hr
      · rename_i hv
        cases hr
        obtain ⟨g1, g2⟩ := h.ref_at hx hk hv
        cases hog : own k with
        | none =>
          rw [hog] at g1 g2
          have e : rows = [] := g2.1
          subst e
          have e2 : vx = .slice none 0 0 := g1
          subst e2
          exact ⟨by simp [maxLen], _, _, rfl⟩
        | some g =>
          rw [hog] at g1 g2
          obtain ⟨cap, rfl, _⟩ := g1
          obtain ⟨cs, cap', q1, q2, q3, q4, q5⟩ := g2
          exact ⟨Nat.le_trans q3 q4, _, _, rfl⟩
      · cases hr
    · rename_i v rows hk
      split at hr
      · rename_i hv
        cases hr
        obtain ⟨g1, g2⟩ := h.ref_at hx hk hv
        cases hog : own k with
        | none =>
          rw [hog] at g1 g2
          have e : rows = [] := g2
          subst e
          have e2 : vx = .slice none 0 0 := g1
          subst e2
          exact ⟨by simp [maxLen], _, _, rfl⟩
        | some g =>
          rw [hog] at g1
          obtain ⟨cap, rfl, q1, q2⟩ := g1
          exact ⟨q2, _, _, rfl⟩
      · cases hr
    · cases hr
  · cases hr

def rowsA (H : Heap) : AV → Option (List (List AV))
  | .sl rows => some rows
  | .slt rows => some rows
  | .nils => some []
  | .ref k ver .o => match H k with
    | some (.froz v rows) => if v = ver then some rows else none
    | _ => none
  | _ => none

theorem RelAt.rowsA (h : RelAt E s a w S own C D Ds) {x : AV} {vx : Value} (hx : R (ctx E s w S own) x vx) {rows : List (List AV)} (hr : rowsA s.H x = some rows) : R (ctx E s w S own) (.sl rows) vx := by
  unfold Am.rowsA at hr
  split at hr
  · cases hr; exact hx
  · cases hr; exact hx.loose
  · cases hr; exact hx.nil_sl
  · rename_i k ver
    split at hr
    · rename_i v rows' hk
      split at hr
      · rename_i hv
        cases hr
        have hp := R.pur0 (C := ctx E s w S own) h.heap hx
        have e1 : pur0 s.H (.ref k ver .o) = .sl rows := by simp [pur0, hk, hv]
        rwa [e1] at hp
      · cases hr
    · cases hr
  · cases hr

theorem run_sliceBound {P : Program} (w : World) (k : IntKind) (i : Int) (y : Nat) (code : BoundsCode) (h0 : 0 ≤ i) (h1 : i ≤ y) : (Instr.sliceBound (.int k i) y code).run P w = .ok i.toNat w := by
  unfold Instr.sliceBound asIntOf
  simp only [Sem.run_bind, Sem.run_pure, Result.andThen_ok]
  rw [if_pos ⟨h0, h1⟩]
  rfl

/-- x[lo:hi] of a slice that nobody writes. -/
theorem run_slice_view {C : Ctx} {P : Program} {t e : TypeId} {n : Nat} (he : elOf P t = some e) (hn : szOf P e = some n) {rows : List (List AV)} {v : Value} (hx : R C (.sl rows) v) (hsz' : (rows.all fun r => r.length == n) = true) (lo hi : Option (IntKind × Int))
    {l h : Nat} (hl : (lo.map (·.2)).getD 0 = (l : Int)) (hh' : (hi.map (·.2)).getD (rows.length : Int) = (h : Int)) (hlh : l ≤ h) (hhr : h ≤ rows.length) :
    ∃ u, (Instr.sliceAt t v (lo.map fun p => .int p.1 p.2) (hi.map fun p => .int p.1 p.2) none).run P C.w = .ok u C.w ∧ R C (.sl ((rows.drop l).take (h - l))) u := by
  cases hx with
  | sl _ A cap g off sz f hA hcap hmax hsz hc hone hh =>
    have hb : (Instr.sliceBounds true rows.length cap (lo.map fun p => .int p.1 p.2) (hi.map fun p => .int p.1 p.2) none).run P C.w = .ok (l, h, cap) C.w := by
      cases lo with
      | none =>
        have hl0 : l = 0 := by simp at hl; omega
        subst hl0
        cases hi with
        | none =>
          have e : rows.length = h := by simp at hh'; omega
          subst e
          rfl
        | some p =>
          obtain ⟨k1, i1⟩ := p
          have e : i1 = (h : Int) := by simpa using hh'
          subst e
          simp only [Instr.sliceBounds, Option.map_some, Option.map_none, Sem.run_bind, Sem.run_pure, Result.andThen_ok, run_sliceBound C.w k1 (h : Int) cap _ (by omega) (by omega), Int.toNat_natCast]
      | some q =>
        obtain ⟨k2, i2⟩ := q
        have e2 : i2 = (l : Int) := by simpa using hl
        subst e2
        cases hi with
        | none =>
          have e : rows.length = h := by simp at hh'; omega
          subst e
          simp only [Instr.sliceBounds, Option.map_some, Option.map_none, Sem.run_bind, Sem.run_pure, Result.andThen_ok, run_sliceBound C.w k2 (l : Int) rows.length _ (by omega) (by omega), Int.toNat_natCast]
        | some p =>
          obtain ⟨k1, i1⟩ := p
          have e : i1 = (h : Int) := by simpa using hh'
          subst e
          simp only [Instr.sliceBounds, Option.map_some, Option.map_none, Sem.run_bind, Sem.run_pure, Result.andThen_ok, run_sliceBound C.w k1 (h : Int) cap _ (by omega) (by omega), Int.toNat_natCast, run_sliceBound C.w k2 (l : Int) h _ (by omega) (by omega)]
    have hlen : ((rows.drop l).take (h - l)).length = h - l := by rw [List.length_take, List.length_drop]; omega
    unfold Instr.sliceAt
    simp only [Sem.run_bind, run_underlying (elOf_iff he), Result.andThen_ok]
    unfold Instr.slice
    simp only [Sem.run_bind, run_underlying (elOf_iff he), Result.andThen_ok, hb, run_sz C.w hn, Sem.run_pure]
    refine ⟨_, rfl, ?_⟩
    have key := R.sl (C := C) ((rows.drop l).take (h - l)) (if cap = l then A else A.map (·.add (l * n))) (cap - l) g (off + l * n) n (fun i j => f (l + i) j) (fun hne => ?_) (by rw [hlen]; omega) (by rw [hlen]; omega) (fun r hr => ?_) (fun i hi j hj => ?_) (fun i j => hone _ _) (fun i r hr j b hb => ?_)
    · rwa [hlen] at key
    · have hpos : 0 < ((rows.drop l).take (h - l)).length := List.length_pos_iff.2 hne
      rw [hlen] at hpos
      obtain ⟨rfl, hS⟩ := hA (fun e => by subst e; simp at hhr; omega)
      rw [if_neg (by omega)]
      exact ⟨by simp [addr_add], hS⟩
    · have hm := List.mem_of_mem_drop (List.mem_of_mem_take hr)
      have := List.all_eq_true.1 hsz' r hm
      simpa using this
    · rw [hlen] at hi
      have hrow : l + i < rows.length := by omega
      have e1 : sz = n := by
        have h1 := hsz rows[l + i] (List.getElem_mem hrow)
        have h2 := List.all_eq_true.1 hsz' rows[l + i] (List.getElem_mem hrow)
        simp at h2
        omega
      subst e1
      have := hc (l + i) hrow j hj
      rwa [Nat.add_mul, ← Nat.add_assoc] at this
    · rw [List.getElem?_take] at hr
      split at hr
      · rw [List.getElem?_drop] at hr
        exact hh _ r hr j b hb
      · cases hr

end
end Go.Am
