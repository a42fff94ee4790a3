import Derived.Test.YtkagfenchknjjaaAmPtr
set_option linter.unusedVariables false
set_option linter.unusedSimpArgs false
namespace Go.Am
open Go.RowKit

/-! ### Filling cells -/
theorem foldl_set (vs : List Value) : ∀ (k off : Nat) (cs : Array Value), off + k + vs.length ≤ cs.size →
    ((vs.zipIdx k).foldl (fun cs (p : Value × Nat) => cs.setIfInBounds (off + p.2) p.1) cs).toList = cs.toList.take (off + k) ++ vs ++ cs.toList.drop (off + k + vs.length) := by
  induction vs with
  | nil => intro k off cs h; simp
  | cons v vs ih =>
    intro k off cs h
    simp only [List.length_cons] at h
    rw [List.zipIdx_cons, List.foldl_cons, ih (k + 1) off _ (by simp; omega)]
    simp only [Array.toList_setIfInBounds, List.length_cons]
    have hlt : off + k < cs.toList.length := by simp; omega
    have e1 : (cs.toList.set (off + k) v).take (off + (k + 1)) = cs.toList.take (off + k) ++ [v] := by
      rw [← Nat.add_assoc, List.take_succ_eq_append_getElem (by simpa using hlt), List.take_set_of_le (by omega)]
      simp
    have e2 : (cs.toList.set (off + k) v).drop (off + (k + 1) + vs.length) = cs.toList.drop (off + k + (vs.length + 1)) := by
      rw [List.drop_set_of_lt (by omega)]
      congr 1
      omega
    rw [e1, e2]
    simp

def fillA (place : Nat → Option (Nat × Nat)) : List AV → List (Nat × AV) → Option (List AV)
  | cells, [] => some cells
  | cells, (i, x) :: rest => match place i with
    | none => none
    | some (o, n) => if okCells x.cells = true ∧ x.cells.length = n ∧ o + n ≤ cells.length then fillA place (setL cells o x.cells) rest else none

theorem fillA_sound {C : Ctx} (place : Nat → Option (Nat × Nat)) : ∀ (ps : List (Nat × AV)) (qs : List (Nat × Value)) (cells cells' : List AV) (cs : Array Value), cs.size = cells.length → Holds C cs cells →
    qs.map (·.1) = ps.map (·.1) → (∀ (i : Nat) (p : Nat × AV) (q : Nat × Value), ps[i]? = some p → qs[i]? = some q → R C p.2 q.2) → fillA place cells ps = some cells' →
    ∃ cs', Instr.fill place cs qs = some cs' ∧ cs'.size = cells'.length ∧ Holds C cs' cells'
  | [], qs, cells, cells', cs, hs, hh, he, _, hf => by
    cases qs with
    | nil => cases hf; exact ⟨cs, rfl, hs, hh⟩
    | cons q qs => simp at he
  | (i, x) :: ps, qs, cells, cells', cs, hs, hh, he, hR, hf => by
    cases qs with
    | nil => simp at he
    | cons q qs =>
      obtain ⟨j, v⟩ := q
      simp only [List.map_cons, List.cons.injEq] at he
      obtain ⟨rfl, he⟩ := he
      unfold fillA at hf
      cases hp : place j with
      | none => rw [hp] at hf; cases hf
      | some on =>
        obtain ⟨o, n⟩ := on
        rw [hp] at hf
        dsimp only at hf
        split at hf
        · rename_i hc
          obtain ⟨hok, hxl, hle⟩ := hc
          have hx : R C x v := hR 0 _ _ rfl rfl
          obtain ⟨g1, g2⟩ := hx.holds hok
          have hset : (v.cells.zipIdx.foldl (fun cs (p : Value × Nat) => cs.setIfInBounds (o + p.2) p.1) cs) = (cs.toList.take o ++ v.cells.toList ++ cs.toList.drop (o + v.cells.toList.length)).toArray := by
            apply Array.toList_inj.1
            have := foldl_set v.cells.toList 0 o cs (by rw [Array.length_toList]; omega)
            simp only [Nat.add_zero] at this
            rw [← this, ← Array.foldl_toList, Array.toList_zipIdx]
          obtain ⟨cs', r1, r2, r3⟩ := fillA_sound place ps qs _ cells' (cs.toList.take o ++ v.cells.toList ++ cs.toList.drop (o + v.cells.toList.length)).toArray
            (by simp only [List.size_toArray, List.length_append, List.length_take, List.length_drop, Array.length_toList]; rw [setL_length _ _ _ (by omega)]; omega)
            (Holds.set hh (us := v.cells.toList) (by rw [Array.length_toList]; omega) (by simpa using g2) (by omega) (by omega)) he (fun i p q hp hq => hR (i + 1) p q hp hq) hf
          refine ⟨cs', ?_, r2, r3⟩
          unfold Instr.fill
          rw [hp]
          dsimp only
          have hnb : (decide (v.cells.size ≠ n) || decide (o + v.cells.size > cs.size)) = false := by
            rw [Bool.or_eq_false_iff]
            exact ⟨decide_eq_false (by omega), decide_eq_false (by omega)⟩
          rw [hnb]
          simp only [Bool.false_eq_true, if_false]
          rw [← r1, ← hset]
        · cases hf

theorem R_agg_of {C : Ctx} {cs : Array Value} {cells : List AV} (hs : cs.size = cells.length) (hh : Holds C cs cells) : R C (.agg cells) (.agg cs) := by
  have := R.agg (C := C) cells cs.toList (by simpa using hs) (fun i a ha => by
    obtain ⟨v, hv, hr, _⟩ := hh i a ha
    rw [List.getD_eq_getElem?_getD, Array.getElem?_toList, hv]
    exact hr)
  simpa using this

def placeOf (P : Program) (t : TypeId) : Nat → Option (Nat × Nat) := fun i => match arOf P t with
  | some (_, e) => (szOf P e).map fun n => (i * n, n)
  | none => fldOf P t i

theorem mapM_fields {P : Program} (w : World) (l : List Field) (h : ∀ x ∈ l, ∃ n, szOf P x.type = some n) :
    (l.mapM fun f => (do pure (f.offset, ← sizeOf f.type) : Sem (Nat × Nat))).run P w = .ok (l.map fun f => (f.offset, (szOf P f.type).getD 0)) w := by
  induction l with
  | nil => rfl
  | cons x l ih =>
    obtain ⟨n, hn⟩ := h x (by simp)
    rw [List.mapM_cons]
    simp only [Sem.run_bind, run_sz w hn, Result.andThen_ok, Sem.run_pure, ih fun y hy => h y (by simp [hy])]
    simp [hn]

/-- All fields of a struct have a size. -/
def fldsOk (P : Program) (t : TypeId) : Bool := match P.underlying t with
  | some (.struct fs) => fs.toList.all fun f => (szOf P f.type).isSome
  | some (.array _ e) => (szOf P e).isSome
  | _ => false

theorem run_build {P : Program} {t : TypeId} {z : Value} (hz : zeroOf P t = some z) (hok : fldsOk P t = true) {C : Ctx} (hzc : okCells (ofVal z).cells = true) {ps : List (Nat × AV)} {qs : Array (Nat × Value)} {cells : List AV}
    (he : qs.toList.map (·.1) = ps.map (·.1)) (hR : ∀ (i : Nat) (p : Nat × AV) (q : Nat × Value), ps[i]? = some p → qs.toList[i]? = some q → R C p.2 q.2) (hf : fillA (placeOf P t) (ofVal z).cells ps = some cells) :
    ∃ u, (Instr.build t qs).run P C.w = .ok u C.w ∧ R C (.agg cells) u := by
  obtain ⟨g1, g2⟩ := (R_ofVal C z).holds hzc
  obtain ⟨cs', r1, r2, r3⟩ := fillA_sound (placeOf P t) ps qs.toList _ cells z.cells g1 g2 he hR hf
  refine ⟨.agg cs', ?_, R_agg_of r2 r3⟩
  unfold Instr.build
  simp only [Sem.run_bind, run_zero C.w hz, Result.andThen_ok]
  unfold fldsOk at hok
  split at hok
  · rename_i fs hu
    obtain ⟨l, rfl⟩ : ∃ l : List Field, fs = l.toArray := ⟨fs.toList, by simp⟩
    have har : arOf P t = none := by simp [arOf, hu]
    simp only [run_underlying hu, Result.andThen_ok]
    have hok' : ∀ x ∈ l, ∃ n, szOf P x.type = some n := fun x hx => Option.isSome_iff_exists.1 (List.all_eq_true.1 hok x (by simpa using hx))
    have hm : (l.toArray.mapM fun f => (do pure (f.offset, ← sizeOf f.type) : Sem (Nat × Nat))).run P C.w = .ok (l.map fun f => (f.offset, (szOf P f.type).getD 0)).toArray C.w := by
      rw [List.mapM_toArray]
      simp only [Sem.run_map, mapM_fields C.w l hok', Result.andThen_ok]
    simp only [Sem.run_bind, hm, Result.andThen_ok]
    have hpl : (fun i => ((l.map fun f => (f.offset, (szOf P f.type).getD 0)).toArray)[i]?) = placeOf P t := by
      funext i
      unfold placeOf
      rw [har]
      unfold fldOf
      rw [hu]
      simp only [List.getElem?_toArray, List.getElem?_map]
      cases hx : l[i]? with
      | none => rfl
      | some x =>
        obtain ⟨n, hn⟩ := hok' x (List.mem_of_getElem? hx)
        simp [hn]
    rw [hpl, r1]
    rfl
  · rename_i len e hu
    obtain ⟨n, hn⟩ := Option.isSome_iff_exists.1 hok
    simp only [run_underlying hu, Result.andThen_ok, Sem.run_bind, run_sz C.w hn]
    have hpl : (fun i => some (i * n, n)) = placeOf P t := by
      funext i
      simp [placeOf, arOf, hu, hn]
    rw [hpl, r1]
    rfl
  · cases hok

/-! ### Rows -/
def fillR (n : Nat) : List (List AV) → List (Nat × AV) → Option (List (List AV))
  | rows, [] => some rows
  | rows, (i, x) :: rest => if okCells x.cells = true ∧ x.cells.length = n ∧ i < rows.length then fillR n (rows.set i x.cells) rest else none

theorem fillR_fillA {n : Nat} : ∀ (ps : List (Nat × AV)) (rows rows' : List (List AV)), (∀ r ∈ rows, r.length = n) → fillR n rows ps = some rows' →
    fillA (fun i => some (i * n, n)) rows.flatten ps = some rows'.flatten ∧ (∀ r ∈ rows', r.length = n) ∧ rows'.length = rows.length
  | [], rows, rows', h, hf => by cases hf; exact ⟨rfl, h, rfl⟩
  | (i, x) :: ps, rows, rows', h, hf => by
    unfold fillR at hf
    split at hf
    · rename_i hc
      obtain ⟨hok, hxl, hi⟩ := hc
      have hri : rows[i]? = some rows[i] := List.getElem?_eq_getElem hi
      have hfl : rows.flatten.length = rows.length * n := flatten_length h
      have hle : i * n + n ≤ rows.length * n := by
        have : (i + 1) * n ≤ rows.length * n := Nat.mul_le_mul_right _ hi
        rwa [Nat.add_mul, Nat.one_mul] at this
      have h' : ∀ r ∈ rows.set i x.cells, r.length = n := fun r hr => by
        rcases List.mem_or_eq_of_mem_set hr with hm | rfl
        · exact h r hm
        · exact hxl
      obtain ⟨q1, q2, q3⟩ := fillR_fillA ps _ rows' h' hf
      refine ⟨?_, q2, by rw [q3, List.length_set]⟩
      unfold fillA
      dsimp only
      rw [if_pos ⟨hok, hxl, by omega⟩]
      rw [← q1, flatten_set h hri, setL_eq _ _ _ (by omega), hxl]
    · cases hf

theorem replicate_flatten_zero (z : List AV) (len : Nat) : (List.replicate len z).flatten.length = len * z.length := by
  rw [flatten_length (sz := z.length) (fun r hr => by rw [(List.mem_replicate.1 hr).2]), List.length_replicate]

/-- The cells of len zero values. -/
def zeroRow (z : Array Value) (len : Nat) : Array Value := (Array.range (len * z.size)).map (z[· % z.size]!)

theorem zeroRow_holds {C : Ctx} {z : Value} (hz : okCells (ofVal z).cells = true) (len : Nat) : (zeroRow z.cells len).size = (List.replicate len (ofVal z).cells).flatten.length ∧ Holds C (zeroRow z.cells len) (List.replicate len (ofVal z).cells).flatten := by
  obtain ⟨g1, g2⟩ := (R_ofVal C z).holds hz
  have hsz : (zeroRow z.cells len).size = len * z.cells.size := by simp [zeroRow]
  refine ⟨by rw [hsz, replicate_flatten_zero, g1], fun i a ha => ?_⟩
  have hlt : i < len * z.cells.size := by
    have := (List.getElem?_eq_some_iff.1 ha).1
    rwa [replicate_flatten_zero, ← g1] at this
  have hpos : 0 < z.cells.size := by
    rcases Nat.eq_zero_or_pos z.cells.size with h0 | h0
    · rw [h0] at hlt; simp at hlt
    · exact h0
  have hd : i = i / z.cells.size * z.cells.size + i % z.cells.size := by rw [Nat.mul_comm]; exact (Nat.div_add_mod i z.cells.size).symm
  have hdl : i / z.cells.size < len := by rwa [Nat.div_lt_iff_lt_mul hpos]
  have hm : i % z.cells.size < z.cells.size := Nat.mod_lt _ hpos
  have hu : ∀ r ∈ List.replicate len (ofVal z).cells, r.length = z.cells.size := fun r hr => by rw [(List.mem_replicate.1 hr).2, g1]
  have hrow : (List.replicate len (ofVal z).cells)[i / z.cells.size]? = some (ofVal z).cells := by rw [List.getElem?_replicate, if_pos hdl]
  rw [hd, flatten_get hu hrow hm] at ha
  obtain ⟨v, h1, h2, h3⟩ := g2 _ a ha
  refine ⟨v, ?_, h2, h3⟩
  have e1 : (zeroRow z.cells len)[i]? = some (z.cells[i % z.cells.size]!) := by
    unfold zeroRow
    rw [Array.getElem?_map, Array.getElem?_range, if_pos hlt]
    rfl
  rw [e1, getElem!_pos z.cells _ hm]
  rw [Array.getElem?_eq_getElem hm] at h1
  exact h1

theorem flatten_replicate_prefix (z : List AV) {l c : Nat} (h : l ≤ c) {i : Nat} {a : AV} (ha : (List.replicate l z).flatten[i]? = some a) : (List.replicate c z).flatten[i]? = some a := by
  obtain ⟨k, rfl⟩ := Nat.exists_eq_add_of_le h
  rw [← List.replicate_append_replicate, List.flatten_append, List.getElem?_append_left (List.getElem?_eq_some_iff.1 ha).1]
  exact ha
theorem run_makeSlice {P : Program} {t e : TypeId} {n b len cap : Nat} {z : Value} (he : elOf P t = some e) (hn : szOf P e = some n) (hb : byOf P e = some b) (hz : zeroOf P e = some z) (hzc : okCells (ofVal z).cells = true) (hzn : (ofVal z).cells.length = n)
    (kl kc : IntKind) (hlc : len ≤ cap) (hlim : b * cap ≤ 281474976710656) (h63 : cap ≤ maxLen) {C : Ctx} :
    ∃ cs, (Instr.makeSlice t (.int kl len) (.int kc cap)).run P C.w = .ok (.slice (some ⟨C.w.heap.size, 0, none⟩) len cap) (C.w.alloc (.cells cs e)) ∧ cs.size = cap * n ∧ Holds C cs (List.replicate len (ofVal z).cells).flatten := by
  obtain ⟨i, hi, hzi⟩ := Option.bind_eq_some_iff.1 hz
  have hni : i.size = n := by unfold szOf at hn; rw [hi] at hn; simpa using hn
  have hbi : i.bytes = b := by unfold byOf at hb; rw [hi] at hb; simpa using hb
  obtain ⟨g3, _⟩ := (R_ofVal C z).holds hzc
  have hzs : z.cells.size = n := by rw [g3, hzn]
  obtain ⟨g1, g2⟩ := zeroRow_holds (C := C) hzc cap
  have h1 : (i.bytes : Int) * (cap : Int) ≤ 281474976710656 := by
    rw [hbi]
    have h : ((b * cap : Nat) : Int) ≤ 281474976710656 := by omega
    rwa [Int.natCast_mul] at h
  have h2 : (cap : Int) ≤ 9223372036854775807 := by
    simp [maxLen] at h63
    omega
  have hr := run_make (P := P) C.w t e i z (elOf_iff he) hi hzi kl kc len cap (by omega) (by omega) h1 h2
  simp only [Int.toNat_natCast] at hr
  have e1 : madeCells z.cells (cap * i.size) = zeroRow z.cells cap := by
    unfold madeCells zeroRow
    rw [hni, hzs]
  rw [e1] at hr
  exact ⟨_, hr, by rw [g1, replicate_flatten_zero, hzn], fun j a ha => g2 j a (flatten_replicate_prefix _ hlc ha)⟩

theorem run_buildSlice {P : Program} {t e : TypeId} {n len : Nat} {z : Value} (he : elOf P t = some e) (hn : szOf P e = some n) (hz : zeroOf P e = some z) (hzc : okCells (ofVal z).cells = true) (hzn : (ofVal z).cells.length = n) (hlim : len * n ≤ 2 ^ 24) {C : Ctx}
    {ps : List (Nat × AV)} {qs : Array (Nat × Value)} {rows : List (List AV)} (hq : qs.toList.map (·.1) = ps.map (·.1)) (hR : ∀ (i : Nat) (p : Nat × AV) (q : Nat × Value), ps[i]? = some p → qs.toList[i]? = some q → R C p.2 q.2)
    (hf : fillR n (List.replicate len (ofVal z).cells) ps = some rows) :
    ∃ cs, (Instr.buildSlice t len qs).run P C.w = .ok (.slice (some ⟨C.w.heap.size, 0, none⟩) len len) (C.w.alloc (.cells cs e)) ∧ cs.size = len * n ∧ Holds C cs rows.flatten ∧ (∀ r ∈ rows, r.length = n) ∧ rows.length = len := by
  obtain ⟨q1, q2, q3⟩ := fillR_fillA ps _ rows (fun r hr => by rw [(List.mem_replicate.1 hr).2, hzn]) hf
  obtain ⟨g1, g2⟩ := zeroRow_holds (C := C) hzc len
  obtain ⟨g3, g4⟩ := (R_ofVal C z).holds hzc
  obtain ⟨cs, r1, r2, r3⟩ := fillA_sound _ ps qs.toList _ _ _ g1 g2 hq hR q1
  refine ⟨cs, ?_, by rw [r2, flatten_length q2, q3, List.length_replicate], r3, q2, by rw [q3, List.length_replicate]⟩
  unfold Instr.buildSlice
  simp only [Sem.run_bind, run_underlying (elOf_iff he), Result.andThen_ok, run_sz C.w hn]
  rw [if_neg (by omega)]
  have hzs : z.cells.size = n := by rw [g3, hzn]
  by_cases h0 : len * n = 0
  · rw [if_pos h0]
    have hcells : ((Array.range (len * n)).map ((#[] : Array Value)[· % (#[] : Array Value).size]!)) = zeroRow z.cells len := by
      unfold zeroRow
      rw [hzs]
      simp [h0]
    simp only [Sem.run_bind, Sem.run_pure, Result.andThen_ok, hcells, r1]
    simp [newRow, newObj, Sem.run]
  · rw [if_neg h0]
    have hcells : ((Array.range (len * n)).map (z.cells[· % z.cells.size]!)) = zeroRow z.cells len := by
      unfold zeroRow
      rw [hzs]
    simp only [Sem.run_bind, run_zero C.w hz, Sem.run_pure, Result.andThen_ok, hcells, r1]
    simp [newRow, newObj, Sem.run]

end Go.Am
