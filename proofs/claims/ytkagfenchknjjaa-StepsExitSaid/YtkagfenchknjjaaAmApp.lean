import Derived.Test.YtkagfenchknjjaaAmMake
set_option linter.unusedVariables false
set_option linter.unusedSimpArgs false
namespace Go.Am
open Go.RowKit

/-- What is appended: the rows of a slice as they stand in memory. -/
def Src (C : Ctx) (v : Value) (n : Nat) (rows : List (List AV)) : Prop :=
  ∃ (A : Option Addr) (cap : Nat) (news : List Value), v = .slice A rows.length cap ∧ news.length = rows.length * n ∧ (∀ ad, A = some ad → ∀ j u, news[j]? = some u → C.w.cell? (ad.add j) = some u) ∧ (rows ≠ [] → A ≠ none) ∧ Holds C news.toArray rows.flatten ∧ (∀ u ∈ news, u.oneCell' = true) ∧
    (∀ r ∈ rows, r.length = n)

theorem Holds.src {C : Ctx} {g : Nat} {cs : Array Value} {t : TypeId} {fr : Nat × Nat} {rows : List (List AV)} {n cap : Nat} (hg : C.w.heap[g]? = some (.cells cs t fr)) (hh : Holds C cs rows.flatten) (hr : ∀ r ∈ rows, r.length = n) :
    Src C (.slice (some ⟨g, 0, none⟩) rows.length cap) n rows := by
  have hfl := flatten_length hr
  have hle : rows.flatten.length ≤ cs.size := by
    rcases Nat.eq_zero_or_pos rows.flatten.length with h0 | h0
    · omega
    · obtain ⟨v, hv, _⟩ := hh (rows.flatten.length - 1) rows.flatten[rows.flatten.length - 1] (List.getElem?_eq_getElem (by omega))
      have := (Array.getElem?_eq_some_iff.1 hv).1
      omega
  have key : ∀ j, j < rows.flatten.length → (cs.toList.take rows.flatten.length)[j]? = cs[j]? := fun j hj => by rw [List.getElem?_take, if_pos hj, Array.getElem?_toList]
  have hH : Holds C (cs.toList.take rows.flatten.length).toArray rows.flatten := fun i a ha => by
    obtain ⟨v, hv, h2⟩ := hh i a ha
    exact ⟨v, by rw [List.getElem?_toArray, key i (List.getElem?_eq_some_iff.1 ha).1, hv], h2⟩
  have e3 : cs.toList.length = cs.size := by simp
  refine ⟨some ⟨g, 0, none⟩, cap, cs.toList.take rows.flatten.length, rfl, by rw [List.length_take, ← hfl]; omega, fun ad e j u hj => ?_, fun _ => by simp, hH, ?_, hr⟩
  · cases e
    have hlt : j < rows.flatten.length := by
      have := (List.getElem?_eq_some_iff.1 hj).1
      rw [List.length_take] at this
      omega
    rw [addr_add, Nat.zero_add, cell_of_row C.w g j cs t fr hg, ← key j hlt]
    exact hj
  · have := hH.one (by rw [List.size_toArray, List.length_take]; omega)
    simpa using this

section
variable {E : Env} {s : St} {a : Act} {w : World} {S : Nat → Prop} {own : Nat → Option Nat} {C D : Nat → Prop} {Ds : List Nat}

def srcA (H : Heap) (n : Nat) : AV → Option (List (List AV))
  | .sl rows => if (rows.all fun r => r.length == n && okCells r) then some rows else none
  | .slt rows => if (rows.all fun r => r.length == n && okCells r) then some rows else none
  | .nils => some []
  | .ref k ver .o => match H k with
    | some (.row v _ sz rows) => if v = ver ∧ sz = n then some rows else none
    | some (.froz v rows) => if v = ver ∧ (rows.all fun r => r.length == n && okCells r) = true then some rows else none
    | _ => none
  | _ => none

theorem R.src {C : Ctx} {rows : List (List AV)} {v : Value} (h : R C (.sl rows) v) {n : Nat} (ha : (rows.all fun r => r.length == n && okCells r) = true) : Src C v n rows := by
  have hr : ∀ r ∈ rows, r.length = n ∧ okCells r = true := fun r hr => by simpa using List.all_eq_true.1 ha r hr
  cases h with
  | sl _ A cap g off sz f hA hcap hmax hsz hc hone hh =>
    have e1 : rows ≠ [] → sz = n := fun hne => by
      obtain ⟨r, hm⟩ := List.exists_mem_of_ne_nil rows hne
      rw [← hsz r hm, (hr r hm).1]
    have hfl : rows.flatten.length = rows.length * n := flatten_length fun r h => (hr r h).1
    have hH : Holds C ((List.range (rows.length * n)).map fun k => f (k / n) (k % n)).toArray rows.flatten := fun i b hb => by
      have hlt : i < rows.length * n := by have := (List.getElem?_eq_some_iff.1 hb).1; omega
      have hn0 : 0 < n := by
        rcases Nat.eq_zero_or_pos n with h0 | h0
        · rw [h0] at hlt; simp at hlt
        · exact h0
      have hi : i / n < rows.length := by rwa [Nat.div_lt_iff_lt_mul hn0]
      have hj : i % n < n := Nat.mod_lt _ hn0
      have hd : i = i / n * n + i % n := by rw [Nat.mul_comm]; exact (Nat.div_add_mod i n).symm
      have hrow : rows[i / n]? = some rows[i / n] := List.getElem?_eq_getElem hi
      have hb' := hb
      rw [hd, flatten_get (fun r h => (hr r h).1) hrow hj] at hb'
      refine ⟨f (i / n) (i % n), ?_, hh _ _ hrow _ _ hb', okCells_get (hr _ (List.getElem_mem hi)).2 hb'⟩
      rw [List.getElem?_toArray, List.getElem?_map, List.getElem?_range hlt]
      rfl
    refine ⟨A, cap, (List.range (rows.length * n)).map fun k => f (k / n) (k % n), rfl, by simp, fun ad e j u hj => ?_, fun hne => by rw [(hA hne).1]; simp, hH, fun u hu => ?_, fun r h => (hr r h).1⟩
    · have hlt : j < rows.length * n := by
        have := (List.getElem?_eq_some_iff.1 hj).1
        simpa using this
      have hne : rows ≠ [] := fun e => by subst e; simp at hlt
      have hn0 : 0 < n := by
        rcases Nat.eq_zero_or_pos n with h0 | h0
        · rw [h0] at hlt; simp at hlt
        · exact h0
      rw [List.getElem?_map, List.getElem?_range hlt] at hj
      cases hj
      rw [(hA hne).1] at e
      cases e
      have hd : j = j / n * n + j % n := by rw [Nat.mul_comm]; exact (Nat.div_add_mod j n).symm
      have := hc (j / n) (by rwa [Nat.div_lt_iff_lt_mul hn0]) (j % n) (by rw [e1 hne]; exact Nat.mod_lt _ hn0)
      rw [e1 hne, Nat.add_assoc, ← hd] at this
      rw [addr_add]
      exact this
    · obtain ⟨k, _, rfl⟩ := List.mem_map.1 hu
      exact hone _ _

theorem RelAt.srcA (h : RelAt E s a w S own C D Ds) {x : AV} {vx : Value} (hx : R (ctx E s w S own) x vx) {n : Nat} {rows : List (List AV)} (hr : srcA s.H n x = some rows) : Src (ctx E s w S own) vx n rows := by
  unfold Am.srcA at hr
  split at hr
  · split at hr
    · cases hr; exact hx.src (by assumption)
    · cases hr
  · split at hr
    · cases hr; exact hx.loose.src (by assumption)
    · cases hr
  · cases hr; exact hx.nil_sl.src (by simp)
  · rename_i k ver
    split at hr
    · rename_i v t sz rows' hk
      split at hr
      · rename_i hv
        cases hr
        obtain ⟨g1, g2⟩ := h.ref_at hx hk hv.1
        cases hog : own k with
        | none =>
          rw [hog] at g1 g2
          have e : rows = [] := g2.1
          subst e
          have e2 : vx = .slice none 0 0 := g1
          subst e2
          exact (R.nil_sl .nils).src (by simp)
        | some g =>
          rw [hog] at g1 g2
          obtain ⟨cap, rfl, _⟩ := g1
          obtain ⟨cs, cap', q1, q2, q3, q4, q5, q6, q7⟩ := g2
          exact Holds.src q1 q7 (fun r hr => by rw [q6 r hr, hv.2])
      · cases hr
    · rename_i v rows' hk
      split at hr
      · rename_i hv
        cases hr
        have hp := R.pur0 (C := ctx E s w S own) h.heap hx
        have e1 : pur0 s.H (.ref k ver .o) = .sl rows := by simp [pur0, hk, hv.1]
        rw [e1] at hp
        exact hp.src hv.2
      · cases hr
    · cases hr
  · cases hr
end

/-! ### append onto a row of one's own, whatever the source -/
theorem run_append_of_nil {P : Program} (w : World) (base : Nat) (t ty e : TypeId) (i : TypeInfo) (size : Nat) (ht : P.underlying t = some (.slice e)) (hi : P.info? e = some i)
    (v : Value) (n : Nat) (xs : List Value) (hown : w.ownsRow base e size v n xs) (c : Nat) : (Builtin.append_ #[t, t] ty #[v, .slice none 0 c]).run P w = .ok v w := by
  rcases hown.2 with ⟨rfl, rfl⟩ | ⟨g, cap, cur, rfl, _, _, hnc, _⟩
  · simp [Builtin.append_, run_underlying ht, sizeOf, typeInfo, hi, Builtin.lenOf, Builtin.firstCells]
  · simp [Builtin.append_, run_underlying ht, sizeOf, typeInfo, hi, Builtin.lenOf, Builtin.firstCells, hnc, storeCells]

/-- What is known of an element's type where one appends. -/
def elemOk (P : Program) (e : TypeId) (n b : Nat) : Bool := match P.info? e with
  | some i => i.size == n && i.bytes == b && decide (0 < n) && decide (0 < b) && (match i.zero with | some z => z.cells.size == n | none => false)
  | none => false

theorem run_append_any {P : Program} {C : Ctx} (t ty e : TypeId) {n b : Nat} (he : elOf P t = some e) (hok : elemOk P e n b = true) {v vx : Value} {m : Nat} {xs : List Value} (hown : C.w.ownsRow 0 e n v m xs)
    {rows : List (List AV)} (hs : Src C vx n rows) (hb : (m + rows.length) * b ≤ 140737488355328) :
    ∃ v' w' news, (Builtin.append_ #[t, t] ty #[v, vx]).run P C.w = .ok v' w' ∧ w'.ownsRow 0 e n v' (m + rows.length) (xs ++ news) ∧ C.w.grownBy w' v.ownBlock ∧ (v'.ownBlock = v.ownBlock ∨ v'.ownBlock = some C.w.heap.size) ∧
      Holds C news.toArray rows.flatten ∧ news.length = rows.length * n := by
  obtain ⟨A, cap, news, rfl, h1, h2, h3, h4, h5, h6⟩ := hs
  unfold elemOk at hok
  cases hi : P.info? e with
  | none => rw [hi] at hok; cases hok
  | some i =>
    rw [hi] at hok
    dsimp only at hok
    cases hz : i.zero with
    | none => rw [hz] at hok; simp at hok
    | some z =>
      rw [hz] at hok
      simp only [Bool.and_eq_true, beq_iff_eq, decide_eq_true_eq] at hok
      obtain ⟨⟨⟨⟨q1, q2⟩, q3⟩, q4⟩, q5⟩ := hok
      cases A with
      | none =>
        have hr : rows = [] := Classical.byContradiction fun hne => h3 hne rfl
        subst hr
        have hn : news = [] := List.eq_nil_of_length_eq_zero (by simpa using h1)
        subst hn
        exact ⟨v, C.w, [], run_append_of_nil C.w 0 t ty e i n (elOf_iff he) hi v m xs hown cap, by simpa using hown, World.grownBy.refl C.w _, .inl rfl, h4, by simp⟩
      | some ad =>
        have hm : m + rows.length ≤ maxLen := by
          have : m + rows.length ≤ (m + rows.length) * b := Nat.le_mul_of_pos_right _ q4
          simp only [maxLen]
          omega
        obtain ⟨v', w', r1, r2, r3, _, r5⟩ := run_append_own_at (P := P) C.w 0 t ty e i z n b (elOf_iff he) hi hz q1 q2 q5 q3 v m xs hown ad rows.length cap news h1 (h2 ad rfl) h5 hm hb (Nat.zero_le _)
        exact ⟨v', w', news, r1, r2, r3, r5, h4, h1⟩

section
variable {E : Env} {s : St} {a : Act} {w : World} {S : Nat → Prop} {own : Nat → Option Nat} {C D : Nat → Prop} {Ds : List Nat}

/-- A row of one's own under a key, in the words of the kit. -/
theorem RelAt.owns (h : RelAt E s a w S own C D Ds) {k ver : Nat} {t : TypeId} {n : Nat} {rows : List (List AV)} {v : Value} (hr : R (ctx E s w S own) (.ref k ver .o) v) (hk : s.H k = some (.row ver t n rows)) :
    ∃ xs : List Value, w.ownsRow 0 t n v rows.length xs ∧ Holds (ctx E s w S own) xs.toArray rows.flatten ∧ v.ownBlock = own k ∧ xs.length = rows.flatten.length ∧ (∀ r ∈ rows, r.length = n) ∧ 0 < n := by
  obtain ⟨g1, g2⟩ := h.ref_at hr hk rfl
  cases hog : own k with
  | none =>
    rw [hog] at g1 g2
    obtain ⟨e, hn⟩ := g2
    subst e
    have e2 : v = .slice none 0 0 := g1
    subst e2
    exact ⟨[], ⟨by simp, .inl ⟨rfl, rfl⟩⟩, fun i a hi => by simp at hi, rfl, rfl, by simp, hn⟩
  | some g =>
    rw [hog] at g1 g2
    obtain ⟨cap, rfl, hcap⟩ := g1
    obtain ⟨cs, cap', q1, q2, q3, q4, q5, q6, q7⟩ := g2
    have e1 := hcap cs t (0, 0) q1
    rw [q2] at e1
    have e2 : cap' = cap := Nat.eq_of_mul_eq_mul_right q5 e1
    subst e2
    have hfl : rows.flatten.length = rows.length * n := flatten_length q6
    have hle : rows.length * n ≤ cap' * n := Nat.mul_le_mul_right _ q3
    have e3 : cs.toList.length = cs.size := by simp
    refine ⟨cs.toList.take (rows.length * n), ⟨by rw [List.length_take]; omega, .inr ⟨g, cap', cs, rfl, Nat.zero_le _, q1, q3, q4, q2, rfl⟩⟩, fun i a hi => ?_, rfl, by rw [List.length_take]; omega, q6, q5⟩
    obtain ⟨u, h1, h2⟩ := q7 i a hi
    refine ⟨u, ?_, h2⟩
    rw [List.getElem?_toArray, List.getElem?_take, if_pos (by have := (List.getElem?_eq_some_iff.1 hi).1; omega), Array.getElem?_toList, h1]

theorem Holds.append {C : Ctx} {xs ys : List Value} {as bs : List AV} (h1 : Holds C xs.toArray as) (h2 : Holds C ys.toArray bs) (hl : xs.length = as.length) : Holds C (xs ++ ys).toArray (as ++ bs) := fun i a ha => by
  rw [List.getElem?_append] at ha
  simp only [List.getElem?_toArray]
  rw [List.getElem?_append, hl]
  split at ha
  · rename_i hi
    rw [if_pos hi]
    obtain ⟨v, h3, h4⟩ := h1 i a ha
    exact ⟨v, by simpa using h3, h4⟩
  · rename_i hi
    rw [if_neg hi]
    obtain ⟨v, h3, h4⟩ := h2 _ a ha
    exact ⟨v, by simpa using h3, h4⟩

theorem flatten_append' (a b : List (List AV)) : (a ++ b).flatten = a.flatten ++ b.flatten := List.flatten_append

/-- append onto the row of a key, or onto nil (a new key). -/
theorem RelAt.append (h : RelAt E s a w S own C D Ds) (hJ : JOk E.J) {k : Nat} {t ty e : TypeId} {n b : Nat} (he : elOf E.P t = some e) (hok : elemOk E.P e n b = true) {base src : AV} {v vx : Value} {rows new : List (List AV)} {ver : Nat}
    (hv : R (ctx E s w S own) base v) (hx : R (ctx E s w S own) src vx) (hsrc : Am.srcA s.H n src = some new) (hb : (rows.length + new.length) * b ≤ 140737488355328)
    (hbase : (base = .ref k ver .o ∧ s.H k = some (.row ver e n rows)) ∨ (base = .nils ∧ rows = [] ∧ ver + 1 = nv s.H k + 1)) {d : Option Nat} (hd : ∀ k, d = some k → k < E.n) :
    ∃ v' w', (Builtin.append_ #[t, t] ty #[v, vx]).run E.P w = .ok v' w' ∧
      Rel E (s.put d (.ref k (nv s.H k) .o) (upd s.H k (some (.row (nv s.H k) e n (rows ++ new))))) (a.put d v') w' := by
  have hs := h.srcA hx hsrc
  have hn : 0 < n := by
    unfold elemOk at hok
    split at hok
    · simp only [Bool.and_eq_true, decide_eq_true_eq] at hok
      exact hok.1.1.2
    · cases hok
  have hnew : ∀ r ∈ new, r.length = n := by obtain ⟨_, _, _, _, _, _, _, _, _, h6⟩ := hs; exact h6
  obtain ⟨xs, hown, hh, hob, hxl, hrl⟩ : ∃ xs : List Value, w.ownsRow 0 e n v rows.length xs ∧ Holds (ctx E s w S own) xs.toArray rows.flatten ∧ (∀ g, v.ownBlock = some g → LiveAt s own k g) ∧ xs.length = rows.flatten.length ∧ (∀ r ∈ rows, r.length = n) := by
    rcases hbase with ⟨rfl, hk⟩ | ⟨rfl, rfl, _⟩
    · obtain ⟨xs, h1, h2, h3, h4, h5, _⟩ := h.owns hv hk
      exact ⟨xs, h1, h2, fun g hg => ⟨_, hk, rfl, by rw [← h3, hg]⟩, h4, h5⟩
    · cases hv
      exact ⟨[], ⟨by simp, .inl ⟨rfl, rfl⟩⟩, fun i a hi => by simp at hi, fun g hg => by simp [Value.ownBlock] at hg, rfl, by simp⟩
  obtain ⟨v', w', news, r1, r2, r3, r4, r5, r6⟩ := run_append_any (C := ctx E s w S own) t ty e he hok hown hs hb
  have hgr : Grows w w' (LiveAt s own k) := Grows.of_grownBy r3 _ fun g hg => hob g hg
  have hall : ∀ r ∈ rows ++ new, r.length = n := fun r hr => by
    rcases List.mem_append.1 hr with hr | hr
    · exact hrl r hr
    · exact hnew r hr
  have hlen : (rows ++ new).length = rows.length + new.length := List.length_append
  have hg' : ∀ g, v'.ownBlock = some g → (w.heap.size ≤ g ∧ g < w'.heap.size) ∨ LiveAt s own k g := fun g hg => by
    rcases r4 with r4 | r4
    · exact .inr (hob g (r4 ▸ hg))
    · rw [r4] at hg
      cases hg
      rcases r2.2 with ⟨rfl, _⟩ | ⟨g', cap, cur, rfl, _, hg2, _⟩
      · simp [Value.ownBlock] at r4
      · have : g' = w.heap.size := by simpa [Value.ownBlock] using r4
        subst this
        exact .inl ⟨Nat.le_refl _, (Array.getElem?_eq_some_iff.1 hg2).1⟩
  refine ⟨v', w', r1, S, upd own k v'.ownBlock, C, D, Ds, h.key hJ k v'.ownBlock (.row (nv s.H k) e n (rows ++ new)) hgr (fun blk hk => ?_) hg' (fun hle => ?_) (put_size a _ _) (put_defers a _ _) fun hle => ?_⟩
  · have := nv_gt hk
    exact ⟨Nat.le_of_lt this, fun e => by have e2 : nv s.H k = blk.ver := e; omega⟩
  · rcases r2.2 with ⟨rfl, h0⟩ | ⟨g, cap, cur, rfl, _, q1, q2, q3, q4, q5⟩
    · have : rows ++ new = [] := List.eq_nil_of_length_eq_zero (by rw [hlen]; exact h0)
      exact ⟨this, hn⟩
    · refine ⟨cur, cap, q1, q4, by rw [hlen]; exact q2, q3, hn, hall, fun i b hbi => ?_⟩
      rw [flatten_append'] at hbi
      obtain ⟨u, hu, hu2, hu3⟩ := (Holds.append hh r5 hxl) i b hbi
      refine ⟨u, ?_, hu2.mono hle, hu3⟩
      rw [List.getElem?_toArray, ← q5, List.getElem?_take] at hu
      split at hu
      · simpa using hu
      · cases hu
  · refine R_put (fun i => (h.tmps i).mono hle) h.size hd ?_
    refine .ref k (nv s.H k) .o _ _ (upd_same _ _ _) (Nat.le_refl _) ?_ fun _ => ?_
    · rcases r2.2 with ⟨rfl, h0⟩ | ⟨g, cap, cur, rfl, _⟩ <;> rfl
    · show RefVal w' (upd own k v'.ownBlock k) _ _ _
      rw [upd_same]
      rcases r2.2 with ⟨rfl, h0⟩ | ⟨g, cap, cur, rfl, _, q1, q2, q3, q4, q5⟩
      · rfl
      · refine ⟨cap, by rw [hlen], fun cs t' fr hcs => ?_⟩
        rw [q1] at hcs
        cases hcs
        exact q4

end
end Go.Am
