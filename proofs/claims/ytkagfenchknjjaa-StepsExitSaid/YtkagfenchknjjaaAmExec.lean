import Derived.Test.YtkagfenchknjjaaAmVal
set_option linter.unusedVariables false
set_option linter.unusedSimpArgs false
namespace Go.Am
open Go.RowKit

section
variable {E : Env} {s : St} {a : Act} {w : World} {S : Nat → Prop} {own : Nat → Option Nat} {C D : Nat → Prop} {Ds : List Nat}

/-- A reference that is not stale is what its block says. -/
theorem RelAt.ref_at (h : RelAt E s a w S own C D Ds) {k ver : Nat} {r : RefK} {blk : Blk} {v : Value} (hr : R (ctx E s w S own) (.ref k ver r) v) (hk : s.H k = some blk) (hv : blk.ver = ver) :
    RefVal w (own k) blk r v ∧ HRel (ctx E s w S own) (own k) blk := by
  cases hr with
  | ref _ _ _ blk' _ hb hv' hone hh =>
    have hb : s.H k = some blk' := hb
    rw [hk] at hb
    cases hb
    exact ⟨hh hv, h.heap k blk hk⟩

/-! ### Reading -/
def rdV (H : Heap) (n : Nat) (ag : Bool) : AV → Option AV
  | .ref k ver (.p off) => match H k with
    | some (.box v _ cells) => if v = ver then readA cells off n ag else none
    | some (.fbox v cells) => if v = ver then readA cells off n ag else none
    | _ => none
  | .ref k ver (.e i off) => match H k with
    | some (.row v _ _ rows) => if v = ver then (rows[i]?).bind fun r => readA r off n ag else none
    | _ => none
  | .elt row off => readA row off n ag
  | _ => none

theorem RelAt.rdV (h : RelAt E s a w S own C D Ds) {x y : AV} {vx : Value} (hx : R (ctx E s w S own) x vx) {t : TypeId} {n : Nat} {ag : Bool} (hn : szOf E.P t = some n) (ha : aggOf E.P t = some ag)
    (hr : rdV s.H n ag x = some y) : ∃ v, (Instr.loadAt t vx).run E.P w = .ok v w ∧ R (ctx E s w S own) y v := by
  unfold Am.rdV at hr
  split at hr
  · rename_i k ver off
    split at hr
    · rename_i v t' cells hk
      split at hr
      · rename_i hv
        obtain ⟨h1, h2⟩ := h.ref_at hx hk hv
        cases hog : own k with
        | none => rw [hog] at h2; exact h2.elim
        | some g =>
          rw [hog] at h1 h2
          have e : vx = .pointer (some ⟨g, off, none⟩) := h1
          subst e
          obtain ⟨cs, g1, g2, g3⟩ := h2
          have := run_read (P := E.P) (g3.rd g1) hn ha hr
          rwa [Nat.zero_add] at this
      · cases hr
    · rename_i v cells hk
      split at hr
      · rename_i hv
        obtain ⟨h1, h2⟩ := h.ref_at hx hk hv
        cases hog : own k with
        | none => rw [hog] at h2; exact h2.elim
        | some g =>
          rw [hog] at h1 h2
          have e : vx = .pointer (some ⟨g, off, none⟩) := h1
          subst e
          obtain ⟨cs, t', g1, g2, g3⟩ := h2
          have := run_read (P := E.P) (g3.rd g1) hn ha hr
          rwa [Nat.zero_add] at this
      · cases hr
    · cases hr
  · rename_i k ver i off
    split at hr
    · rename_i v t' sz rows hk
      split at hr
      · rename_i hv
        obtain ⟨r, hri, hr⟩ := Option.bind_eq_some_iff.1 hr
        obtain ⟨h1, h2⟩ := h.ref_at hx hk hv
        cases hog : own k with
        | none =>
          rw [hog] at h2
          have e : rows = [] := h2.1
          subst e
          simp at hri
        | some g =>
          rw [hog] at h1 h2
          have e : vx = .pointer (some ⟨g, i * sz + off, none⟩) := h1
          subst e
          obtain ⟨cs, cap, g1, g2, g3, g4, g5, g6, g7⟩ := h2
          have hrd := ((g7.rd g1).drop (i * sz)).take sz
          rw [flatten_row g6 hri, Nat.zero_add] at hrd
          exact run_read (P := E.P) hrd hn ha hr
      · cases hr
    · cases hr
  · rename_i row off
    cases hx with
    | elt _ _ g o f hA hc hone hh => exact run_read (P := E.P) (C := ctx E s w S own) ⟨f, hc, hh⟩ hn ha hr
  · cases hr

/-! ### Writing -/
def wrV (H : Heap) (n : Nat) (x : List AV) : AV → Option Heap
  | .ref k ver (.p off) => match H k with
    | some (.box v t cells) => if v = ver ∧ okCells x = true ∧ x.length = n ∧ off + n ≤ cells.length then some (upd H k (some (.box v t (setL cells off x)))) else none
    | _ => none
  | .ref k ver (.e i off) => match H k with
    | some (.row v t sz rows) => match rows[i]? with
      | some r => if v = ver ∧ okCells x = true ∧ x.length = n ∧ off + n ≤ r.length then some (upd H k (some (.row v t sz (rows.set i (setL r off x))))) else none
      | none => none
    | _ => none
  | _ => none

theorem run_store_at {P : Program} {t : TypeId} {n : Nat} (hn : szOf P t = some n) {w : World} {g off : Nat} {e : TypeId} {cur : Array Value} (hg : w.heap[g]? = some (.cells cur e (0, 0))) {v : Value} (hv : v.cells.size = n) (hl : off + n ≤ cur.size)
    (h1 : ∀ u ∈ v.cells.toList, u.oneCell' = true) :
    (Instr.storeAt t (.pointer (some ⟨g, off, none⟩)) v).run P w = .ok () (w.setRow g (cur.toList.take off ++ v.cells.toList ++ cur.toList.drop (off + v.cells.toList.length)).toArray) := by
  unfold Instr.storeAt Instr.sureAddr storeVar
  simp only [Sem.run_bind, Sem.run_pure, Result.andThen_ok, run_sz w hn]
  rw [if_neg (by rw [hv]; simp)]
  have := run_storeCells_at P g off e v.cells.toList 0 cur w hg (by rw [Array.length_toList, hv]; omega) h1
  simpa using this

theorem Grows.setRow (w : World) (g : Nat) (cs : Array Value) {Y : Nat → Prop} (hY : Y g) : Grows w (w.setRow g cs) Y :=
  ⟨rfl, rfl, rfl, by simp, fun b hb hn => setRow_other w g b cs fun e => hn (e ▸ hY)⟩

theorem flatten_set {sz : Nat} : ∀ {rows : List (List AV)} (h : ∀ r ∈ rows, r.length = sz) {i : Nat} {r r' : List AV} (hr : rows[i]? = some r), (rows.set i r').flatten = rows.flatten.take (i * sz) ++ r' ++ rows.flatten.drop (i * sz + sz)
  | [], _, i, r, r', hr => by simp at hr
  | x :: rows, h, 0, r, r', hr => by
    have := h x (by simp)
    simp [← this]
  | x :: rows, h, i + 1, r, r', hr => by
    have hx := h x (by simp)
    have ih := flatten_set (rows := rows) (fun r hr => h r (by simp [hr])) (i := i) (r := r) (r' := r') (by simpa using hr)
    rw [List.set_cons_succ, List.flatten_cons, ih, List.flatten_cons, Nat.add_mul, Nat.one_mul]
    have e1 : List.take (i * sz + sz) (x ++ rows.flatten) = x ++ rows.flatten.take (i * sz) := by
      rw [List.take_append, List.take_of_length_le (by omega)]
      congr 2
      omega
    have e2 : List.drop (i * sz + sz + sz) (x ++ rows.flatten) = rows.flatten.drop (i * sz + sz) := by
      rw [List.drop_append, List.drop_of_length_le (by omega), List.nil_append]
      congr 1
      omega
    rw [e1, e2, List.append_assoc, List.append_assoc, List.append_assoc]

theorem RelAt.wrV (h : RelAt E s a w S own C D Ds) (hJ : JOk E.J) {x y : AV} {vx vy : Value} (hx : R (ctx E s w S own) x vx) (hy : R (ctx E s w S own) y vy) {t : TypeId} {n : Nat} (hn : szOf E.P t = some n)
    {H' : Heap} (hr : wrV s.H n y.cells x = some H') {d : Option Nat} (hd : ∀ k, d = some k → k < E.n) :
    ∃ w', (Instr.storeAt t vx vy).run E.P w = .ok () w' ∧ Rel E (s.put d (.tup []) H') (a.put d undef) w' := by
  have hundef : ∀ C : Ctx, R C (.tup []) undef := fun C => .tup [] [] rfl fun i a hi => by simp at hi
  unfold Am.wrV at hr
  split at hr
  · rename_i k ver off
    split at hr
    · rename_i v t' cells hk
      split at hr
      · rename_i hc
        obtain ⟨hv, hok, hxl, hle⟩ := hc
        cases hr
        obtain ⟨h1, h2⟩ := h.ref_at hx hk hv
        cases hog : own k with
        | none => rw [hog] at h2; exact h2.elim
        | some g =>
          rw [hog] at h1 h2
          have e : vx = .pointer (some ⟨g, off, none⟩) := h1
          subst e
          obtain ⟨cs, g1, g2, g3⟩ := h2
          obtain ⟨hs, hh⟩ := hy.holds hok
          rw [hxl] at hs
          refine ⟨_, run_store_at hn g1 hs (by omega) (hh.one (by omega)), S, upd own k (some g), C, D, Ds, h.key hJ k (some g) (.box v t' (setL cells off y.cells)) (Grows.setRow w g _ ⟨_, hk, rfl, hog⟩) (fun blk hk' => ?_)
            (fun g' e => by cases e; exact .inr ⟨_, hk, rfl, hog⟩) (fun hle' => ?_) (put_size a _ _) (put_defers a _ _) fun hle' => ?_⟩
          · rw [hk] at hk'
            cases hk'
            refine ⟨Nat.le_refl _, fun _ r u hu => ?_⟩
            rw [hog] at hu
            cases r <;> exact hu
          · refine ⟨_, setRow_heap w g cs _ t' (0, 0) g1, ?_, (Holds.set g3 (us := vy.cells.toList) (by rw [Array.length_toList]; omega) (by simpa using hh) (by omega) (by omega)).mono hle'⟩
            simp only [List.size_toArray, List.length_append, List.length_take, List.length_drop, Array.length_toList]
            rw [setL_length _ _ _ (by omega)]
            omega
          · exact R_put (fun i => (h.tmps i).mono hle') h.size hd (hundef _)
      · cases hr
    · cases hr
  · rename_i k ver i off
    split at hr
    · rename_i v t' sz rows hk
      split at hr
      · rename_i r hri
        split at hr
        · rename_i hc
          obtain ⟨hv, hok, hxl, hle⟩ := hc
          cases hr
          obtain ⟨h1, h2⟩ := h.ref_at hx hk hv
          cases hog : own k with
          | none =>
            rw [hog] at h2
            have e : rows = [] := h2.1
            subst e
            simp at hri
          | some g =>
            rw [hog] at h1 h2
            have e : vx = .pointer (some ⟨g, i * sz + off, none⟩) := h1
            subst e
            obtain ⟨cs, cap, g1, g2, g3, g4, g5, g6, g7⟩ := h2
            obtain ⟨hs, hh⟩ := hy.holds hok
            rw [hxl] at hs
            have hrl := g6 r (List.mem_of_getElem? hri)
            have hil : i < rows.length := (List.getElem?_eq_some_iff.1 hri).1
            have hfl : rows.flatten.length = rows.length * sz := flatten_length g6
            have hi1 : i * sz + sz ≤ rows.length * sz := by
              have : (i + 1) * sz ≤ rows.length * sz := Nat.mul_le_mul_right _ hil
              rwa [Nat.add_mul, Nat.one_mul] at this
            have hcap : rows.length * sz ≤ cap * sz := Nat.mul_le_mul_right _ g3
            have hset : (rows.set i (setL r off y.cells)).flatten = setL rows.flatten (i * sz + off) y.cells := by
              rw [flatten_set g6 hri, setL_eq _ _ _ (by omega), setL_eq _ _ _ (by omega)]
              have e1 := flatten_row g6 hri
              rw [← e1]
              rw [List.take_take, Nat.min_eq_left (by omega), List.drop_take, List.drop_drop]
              simp only [List.append_assoc]
              rw [← List.append_assoc, ← List.take_add, ]
              congr 2
              have : List.drop (i * sz + (off + y.cells.length)) rows.flatten = List.take (sz - (off + y.cells.length)) (List.drop (i * sz + (off + y.cells.length)) rows.flatten) ++ List.drop (i * sz + sz) rows.flatten := by
                conv => lhs; rw [← List.take_append_drop (sz - (off + y.cells.length)) (List.drop (i * sz + (off + y.cells.length)) rows.flatten)]
                rw [List.drop_drop]
                congr 2
                omega
              rw [← this, Nat.add_assoc]
            refine ⟨_, run_store_at hn g1 hs (by omega) (hh.one (by omega)), S, upd own k (some g), C, D, Ds, h.key hJ k (some g) (.row v t' sz (rows.set i (setL r off y.cells))) (Grows.setRow w g _ ⟨_, hk, rfl, hog⟩) (fun blk hk' => ?_)
              (fun g' e => by cases e; exact .inr ⟨_, hk, rfl, hog⟩) (fun hle' => ?_) (put_size a _ _) (put_defers a _ _) fun hle' => ?_⟩
            · rw [hk] at hk'
              cases hk'
              refine ⟨Nat.le_refl _, fun _ r u hu => ?_⟩
              rw [hog] at hu
              cases r with
              | p off => exact hu
              | e i off => exact hu
              | o =>
                obtain ⟨cap', e1, e2⟩ := hu
                refine ⟨cap', by rw [List.length_set]; exact e1, fun cs' t'' fr hh' => ?_⟩
                rw [setRow_heap w g cs _ t' (0, 0) g1] at hh'
                cases hh'
                have := e2 cs t' (0, 0) g1
                simp only [List.size_toArray, List.length_append, List.length_take, List.length_drop, Array.length_toList]
                omega
            · refine ⟨_, cap, setRow_heap w g cs _ t' (0, 0) g1, ?_, by rw [List.length_set]; exact g3, g4, g5, fun r' hr' => ?_, ?_⟩
              · simp only [List.size_toArray, List.length_append, List.length_take, List.length_drop, Array.length_toList]
                omega
              · rcases List.mem_or_eq_of_mem_set hr' with hm | rfl
                · exact g6 r' hm
                · rw [setL_length _ _ _ (by omega)]; exact hrl
              · rw [hset]
                exact (Holds.set g7 (us := vy.cells.toList) (by rw [Array.length_toList]; omega) (by simpa using hh) (by omega) (by omega)).mono hle'
            · exact R_put (fun i => (h.tmps i).mono hle') h.size hd (hundef _)
        · cases hr
      · cases hr
    · cases hr
  · cases hr

end
end Go.Am
