import Derived.Test.YtkagfenchknjjaaAmVal
import Derived.Laws.StructEq
import Derived.ChangeKeysEq
set_option linter.unusedVariables false
set_option linter.unusedSimpArgs false
namespace Go.Am
open Go.RowKit

/-! ### Structs and arrays compared: leaf by leaf -/
inductive LK where
  | int | str | bool
def eqFs (P : Program) (rec : TypeId → Option (List (Nat × LK))) : List Field → Option (List (Nat × LK))
  | [] => some []
  | f :: fs => if f.name = "_" then none else match szOf P f.type, rec f.type, eqFs P rec fs with
    | some sz, some p, some r => if p.all fun q => decide (q.1 < sz) then some ((p.map fun q => (f.offset + q.1, q.2)) ++ r) else none
    | _, _, _ => none
def eqP (P : Program) : Nat → TypeId → Option (List (Nat × LK))
  | 0, _ => none
  | d + 1, t => match P.underlying t with
    | some (.int _) => some [(0, .int)]
    | some .string => some [(0, .str)]
    | some .bool => some [(0, .bool)]
    | some (.struct fs) => if P.stoodInHeld t then none else eqFs P (eqP P d) fs.toList
    | some (.array n e) => match szOf P e, eqP P d e with
      | some sz, some p => if p.all fun q => decide (q.1 < sz) then some ((List.range n).flatMap fun i => p.map fun q => (i * sz + q.1, q.2)) else none
      | _, _ => none
    | _ => none
def leafV : LK → Value → Value → Option Bool
  | .int, .int k a, .int k' b => if k = k' then some (decide (a = b)) else none
  | .str, .string a, .string b => some (decide (a = b))
  | .bool, .bool a, .bool b => some (a == b)
  | _, _, _ => none
/-- The cells of a value of a type. -/
def cellsT (ag : Bool) (v : Value) (o : Nat) : Option Value := if ag then (match v with | .agg cs => cs[o]? | _ => none) else if o = 0 then some v else none
/-- Are all leaves of a plan alike? -/
inductive PlanV (x y : Nat → Option Value) : List (Nat × LK) → Bool → Prop
  | nil : PlanV x y [] true
  | cons {o : Nat} {k : LK} {u v : Value} {b c : Bool} {p : List (Nat × LK)} (hx : x o = some u) (hy : y o = some v) (h : leafV k u v = some b) (hp : PlanV x y p c) : PlanV x y ((o, k) :: p) (b && c)
theorem PlanV.split {x y : Nat → Option Value} : ∀ {p r : List (Nat × LK)} {b : Bool}, PlanV x y (p ++ r) b → ∃ b1 b2, PlanV x y p b1 ∧ PlanV x y r b2 ∧ b = (b1 && b2)
  | [], r, b, h => ⟨true, b, .nil, h, by simp⟩
  | (o, k) :: p, r, b, h => by
    cases h with
    | cons hx hy hl hp =>
      obtain ⟨b1, b2, h1, h2, rfl⟩ := hp.split
      exact ⟨_, b2, .cons hx hy hl h1, h2, by simp [Bool.and_assoc]⟩
theorem PlanV.shift {x y x' y' : Nat → Option Value} {off sz : Nat} (hx : ∀ o, o < sz → x' o = x (off + o)) (hy : ∀ o, o < sz → y' o = y (off + o)) : ∀ {p : List (Nat × LK)} {b : Bool}, (p.all fun q => decide (q.1 < sz)) = true → PlanV x y (p.map fun q => (off + q.1, q.2)) b → PlanV x' y' p b
  | [], b, _, h => by cases h; exact .nil
  | (o, k) :: p, b, ha, h => by
    simp only [List.all_cons, Bool.and_eq_true, decide_eq_true_eq] at ha
    cases h with
    | cons h1 h2 hl hp => exact .cons ((hx o ha.1).trans h1) ((hy o ha.1).trans h2) hl (PlanV.shift hx hy ha.2 hp)

section
variable {P : Program} (w : World)
theorem eqP_ag {d : Nat} {t : TypeId} {p : List (Nat × LK)} (h : eqP P d t = some p) : aggOf P t = some true ∨ (aggOf P t = some false ∧ ∃ k, p = [(0, k)]) := by
  cases d with
  | zero => simp [eqP] at h
  | succ d =>
    unfold eqP at h
    unfold aggOf
    split at h
    · rename_i hu; rw [hu]; cases h; exact .inr ⟨rfl, _, rfl⟩
    · rename_i hu; rw [hu]; cases h; exact .inr ⟨rfl, _, rfl⟩
    · rename_i hu; rw [hu]; cases h; exact .inr ⟨rfl, _, rfl⟩
    · rename_i hu; rw [hu]; exact .inl rfl
    · rename_i hu; rw [hu]; exact .inl rfl
    · cases h

/-- A part of an aggregate, for a plan. -/
theorem run_part_ok {d : Nat} {t : TypeId} {xs ys : Array Value} {off sz : Nat} {p : List (Nat × LK)} {b : Bool} (hsz : szOf P t = some sz) (hp : eqP P d t = some p) (hall : (p.all fun q => decide (q.1 < sz)) = true)
    (h : PlanV (fun o => xs[o]?) (fun o => ys[o]?) (p.map fun q => (off + q.1, q.2)) b) :
    ∃ ag vx vy, aggOf P t = some ag ∧ (part t xs off).run P w = .ok vx w ∧ (part t ys off).run P w = .ok vy w ∧ (ag = true → (∃ cs, vx = .agg cs) ∧ ∃ cs, vy = .agg cs) ∧ PlanV (cellsT ag vx) (cellsT ag vy) p b := by
  rcases eqP_ag hp with ha | ⟨ha, k, rfl⟩
  · refine ⟨true, .agg (xs.extract off (off + sz)), .agg (ys.extract off (off + sz)), ha, ?_, ?_, fun _ => ⟨⟨_, rfl⟩, _, rfl⟩, PlanV.shift (sz := sz) (fun o ho => ?_) (fun o ho => ?_) hall h⟩
    · unfold part
      simp only [Sem.run_bind, run_agg w ha, Result.andThen_ok, if_true, run_sz w hsz, Sem.run_pure]
    · unfold part
      simp only [Sem.run_bind, run_agg w ha, Result.andThen_ok, if_true, run_sz w hsz, Sem.run_pure]
    · show (xs.extract off (off + sz))[o]? = _
      rw [Array.getElem?_extract]
      by_cases h2 : o < min (off + sz) xs.size - off
      · rw [if_pos h2]
      · rw [if_neg h2, Array.getElem?_eq_none (by omega)]
    · show (ys.extract off (off + sz))[o]? = _
      rw [Array.getElem?_extract]
      by_cases h2 : o < min (off + sz) ys.size - off
      · rw [if_pos h2]
      · rw [if_neg h2, Array.getElem?_eq_none (by omega)]
  · cases h with
    | cons hx hy hl hq =>
      rename_i u v b1 c1
      cases hq
      have hx : xs[off]? = some u := hx
      have hy : ys[off]? = some v := hy
      refine ⟨false, u, v, ha, ?_, ?_, (fun e => by cases e), .cons (u := u) (v := v) rfl rfl hl .nil⟩
      · unfold part
        simp only [Sem.run_bind, run_agg w ha, Result.andThen_ok, Bool.false_eq_true, if_false, hx, Sem.run_pure]
      · unfold part
        simp only [Sem.run_bind, run_agg w ha, Result.andThen_ok, Bool.false_eq_true, if_false, hy, Sem.run_pure]

theorem run_equal_ok : ∀ (d : Nat) (t : TypeId) (p : List (Nat × LK)), eqP P d t = some p → ∀ (D : Nat) (ag : Bool) (vx vy : Value) (b : Bool), d ≤ D → aggOf P t = some ag → (ag = true → (∃ cs, vx = .agg cs) ∧ ∃ cs, vy = .agg cs) →
    PlanV (cellsT ag vx) (cellsT ag vy) p b → (Op.equalIn D t vx vy).run P w = .ok b w
  | 0, t, p, h, _, _, _, _, _, _, _, _, _ => by simp [eqP] at h
  | d + 1, t, p, h, 0, _, _, _, _, hD, _, _, _ => by omega
  | d + 1, t, p, h, D + 1, ag, vx, vy, b, hD, hag, hsh, hpl => by
    unfold eqP at h
    have leaf : ∀ k, aggOf P t = some false → p = [(0, k)] → leafV k vx vy = some b := fun k ha hp => by
      rw [ha] at hag
      cases hag
      subst hp
      cases hpl with
      | cons hx hy hl hq =>
        cases hq
        cases hx
        cases hy
        simpa using hl
    split at h
    · rename_i k hu
      cases h
      have hl := leaf .int (by unfold aggOf; rw [hu]) rfl
      unfold leafV at hl
      split at hl <;> first | (cases hl; done) | skip
      · split at hl
        · rename_i e
          subst e
          cases hl
          rw [run_equalIn_int w D t _ k _ _ hu]
          rfl
        · cases hl
      · simp_all
      · simp_all
    · rename_i hu
      cases h
      have hl := leaf .str (by unfold aggOf; rw [hu]) rfl
      unfold leafV at hl
      split at hl <;> first | (cases hl; done) | skip
      · simp_all
      · cases hl
        rw [run_equalIn_string w D t _ _ hu, toList_eq_iff]
      · simp_all
    · rename_i hu
      cases h
      have hl := leaf .bool (by unfold aggOf; rw [hu]) rfl
      unfold leafV at hl
      split at hl <;> first | (cases hl; done) | skip
      · simp_all
      · simp_all
      · cases hl
        rw [run_equalIn_bool' w D t _ _ hu]
    · rename_i fs hu
      split at h
      · cases h
      · rename_i hst
        have ha : aggOf P t = some true := by unfold aggOf; rw [hu]
        rw [ha] at hag
        cases hag
        obtain ⟨⟨xs, rfl⟩, ys, rfl⟩ := hsh rfl
        have hfs : P.fieldsOf t = fs := by unfold Program.fieldsOf; rw [hu]
        rw [run_equalIn_struct w D t xs ys (by rw [hfs]; exact hu) (by simpa using hst), hfs]
        have hpl : PlanV (fun o => xs[o]?) (fun o => ys[o]?) p b := hpl
        clear hu hfs hst ha hsh leaf
        have go : ∀ (l : List Field) (p : List (Nat × LK)) (b : Bool), eqFs P (eqP P d) l = some p → PlanV (fun o => xs[o]?) (fun o => ys[o]?) p b → (Op.eqFields D xs ys l).run P w = .ok b w := by
          intro l
          induction l with
          | nil => intro p b h hpl; simp [eqFs] at h; subst h; cases hpl; simp [Op.eqFields]
          | cons f l ih =>
            intro p b h hpl
            unfold eqFs at h
            split at h
            · cases h
            · rename_i hname
              split at h
              · rename_i sz q r e1 e2 e3
                split at h
                · rename_i hall
                  cases h
                  obtain ⟨b1, b2, h1, h2, rfl⟩ := hpl.split
                  obtain ⟨ag, ux, uy, hag, r1, r2, hsh, hq⟩ := run_part_ok w e1 e2 hall h1
                  have hrun := run_equal_ok d f.type q e2 D ag ux uy b1 (by omega) hag hsh hq
                  unfold Op.eqFields
                  rw [if_pos (by simpa using hname)]
                  simp only [Sem.run_bind, r1, r2, hrun, Result.andThen_ok]
                  cases b1
                  · simp
                  · simpa using ih r b2 e3 h2
                · cases h
              · cases h
        exact go _ _ _ h hpl
    · rename_i n e hu
      split at h
      · rename_i sz q e1 e2
        split at h
        · rename_i hall
          cases h
          have ha : aggOf P t = some true := by unfold aggOf; rw [hu]
          rw [ha] at hag
          cases hag
          obtain ⟨⟨xs, rfl⟩, ys, rfl⟩ := hsh rfl
          obtain ⟨i, hi, hisz⟩ := Option.map_eq_some_iff.1 e1
          have hcells : P.cellsOf e = sz := by
            unfold Program.cellsOf
            simp [hi, hisz]
          rw [run_equalIn_array w D xs ys hu hi, hcells]
          have hpl : PlanV (fun o => xs[o]?) (fun o => ys[o]?) ((List.range n).flatMap fun i => q.map fun r => (i * sz + r.1, r.2)) b := hpl
          clear hu hsh leaf ha
          have go : ∀ (l : List Nat) (b : Bool), PlanV (fun o => xs[o]?) (fun o => ys[o]?) (l.flatMap fun i => q.map fun r => (i * sz + r.1, r.2)) b → (Op.eqItems D e sz xs ys l).run P w = .ok b w := by
            intro l
            induction l with
            | nil => intro b hpl; cases hpl; simp [Op.eqItems]
            | cons i l ih =>
              intro b hpl
              rw [List.flatMap_cons] at hpl
              obtain ⟨b1, b2, h1, h2, rfl⟩ := hpl.split
              obtain ⟨ag, ux, uy, hag, r1, r2, hsh, hq⟩ := run_part_ok w e1 e2 hall h1
              have hrun := run_equal_ok d e q e2 D ag ux uy b1 (by omega) hag hsh hq
              unfold Op.eqItems
              simp only [Sem.run_bind, r1, r2, hrun, Result.andThen_ok]
              cases b1
              · simp
              · simpa using ih b2 h2
          exact go _ _ hpl
        · cases h
      · cases h
    · cases h
end

theorem eqP_guard {P : Program} : ∀ (d : Nat) (t : TypeId) (p : List (Nat × LK)), eqP P d t = some p → ∀ D, d ≤ D → P.eqGuardType D t = false
  | 0, t, p, h, _, _ => by simp [eqP] at h
  | d + 1, t, p, h, 0, hD => by omega
  | d + 1, t, p, h, D + 1, hD => by
    unfold eqP at h
    unfold Program.eqGuardType
    split at h
    · rename_i hu; rw [hu]
    · rename_i hu; rw [hu]
    · rename_i hu; rw [hu]
    · rename_i fs hu
      rw [hu]
      split at h
      · cases h
      · have go : ∀ (l : List Field) (p : List (Nat × LK)), eqFs P (eqP P d) l = some p → ∀ f ∈ l, P.eqGuardType D f.type = false := by
          intro l
          induction l with
          | nil => intro p h f hf; simp at hf
          | cons g l ih =>
            intro p h f hf
            unfold eqFs at h
            split at h
            · cases h
            · split at h
              · rename_i sz q r e1 e2 e3
                rcases List.mem_cons.1 hf with rfl | hf
                · exact eqP_guard d _ q e2 D (by omega)
                · exact ih r e3 f hf
              · cases h
        dsimp only
        rw [Array.any_eq_false]
        intro i hi
        have := go fs.toList _ h fs[i] (Array.getElem_mem_toList hi)
        simp [this]
    · rename_i n e hu
      rw [hu]
      split at h
      · rename_i sz q e1 e2
        exact eqP_guard d e q e2 D (by omega)
      · cases h
    · cases h
theorem depth_ge (P : Program) : 8 ≤ P.depth := by unfold Program.depth Made.depth; omega

/-! Abstract values. -/
def leafA : LK → AV → AV → Option Bool
  | .int, .int k a, .int k' b => if k = k' then some (decide (a = b)) else none
  | .str, .str a, .str b => some (decide (a = b))
  | .bool, .bool a, .bool b => some (a == b)
  | _, _, _ => none
def planA (x y : List AV) : List (Nat × LK) → Option Bool
  | [] => some true
  | (o, k) :: p => (x[o]?).bind fun u => (y[o]?).bind fun v => (leafA k u v).bind fun b => (planA x y p).map fun c => b && c
def eqPlan (P : Program) (op : BinOp) (t : TypeId) : Option (Bool × List (Nat × LK)) := match op with
  | .eql => if aggOf P t = some true then (eqP P 8 t).map fun p => (false, p) else none
  | .neq => if aggOf P t = some true then (eqP P 8 t).map fun p => (true, p) else none
  | _ => none
def eqA (ng : Bool) (p : List (Nat × LK)) : AV → AV → Option AV
  | .agg x, .agg y => (planA x y p).map fun b => .bool (b != ng)
  | _, _ => none
theorem planA_sound {C : Ctx} {x y : List AV} {vx vy : List Value} (hx : ∀ i a, x[i]? = some a → R C a (vx.getD i undef)) (hlx : vx.length = x.length) (hy : ∀ i a, y[i]? = some a → R C a (vy.getD i undef)) (hly : vy.length = y.length) :
    ∀ {p : List (Nat × LK)} {b : Bool}, planA x y p = some b → PlanV (fun o => vx.toArray[o]?) (fun o => vy.toArray[o]?) p b
  | [], b, h => by cases h; exact .nil
  | (o, k) :: p, b, h => by
    unfold planA at h
    obtain ⟨u, hu, h⟩ := Option.bind_eq_some_iff.1 h
    obtain ⟨v, hv, h⟩ := Option.bind_eq_some_iff.1 h
    obtain ⟨b1, h1, h⟩ := Option.bind_eq_some_iff.1 h
    obtain ⟨c, h2, rfl⟩ := Option.map_eq_some_iff.1 h
    have hou : o < vx.length := by have := (List.getElem?_eq_some_iff.1 hu).1; omega
    have hov : o < vy.length := by have := (List.getElem?_eq_some_iff.1 hv).1; omega
    have ru := hx o u hu
    have rv := hy o v hv
    rw [List.getD_eq_getElem?_getD, List.getElem?_eq_getElem hou] at ru
    rw [List.getD_eq_getElem?_getD, List.getElem?_eq_getElem hov] at rv
    refine .cons (u := vx[o]) (v := vy[o]) (by simp [hou]) (by simp [hov]) ?_ (planA_sound hx hlx hy hly h2)
    generalize hgu : (some vx[o]).getD undef = gu at ru
    generalize hgv : (some vy[o]).getD undef = gv at rv
    have e1 : vx[o] = gu := hgu
    have e2 : vy[o] = gv := hgv
    rw [e1, e2]
    unfold leafA at h1
    split at h1 <;> first | (cases h1; done) | skip
    · cases ru; cases rv; simpa [leafV] using h1
    · cases ru; cases rv; simpa [leafV] using h1
    · cases ru; cases rv; simpa [leafV] using h1
theorem eqA_sound {P : Program} {C : Ctx} {t : TypeId} {op : BinOp} {ng : Bool} {p : List (Nat × LK)} {x y v : AV} {vx vy : Value} (ox oy : Operand) (hp : eqPlan P op t = some (ng, p)) (hx : R C x vx) (hy : R C y vy) (h : eqA ng p x y = some v) (w : World) :
    ∃ u, (do eqGuard op t ox oy vx vy; binOp op t vx vy : Sem Value).run P w = .ok u w ∧ R C v u := by
  unfold eqA at h
  split at h
  case h_2 => cases h
  obtain ⟨b, hb, rfl⟩ := Option.map_eq_some_iff.1 h
  cases hx with
  | agg _ us hlu hu =>
    cases hy with
    | agg _ ws hlw hw =>
      have hpl := planA_sound hu hlu hw hlw hb
      unfold eqPlan at hp
      split at hp
      · split at hp
        · rename_i hc
          obtain ⟨q, hq, e⟩ := Option.map_eq_some_iff.1 hp
          cases e
          have hr := run_equal_ok (P := P) w 8 t p hq 10000 true (.agg us.toArray) (.agg ws.toArray) b (by omega) hc (fun _ => ⟨⟨_, rfl⟩, _, rfl⟩) hpl
          refine ⟨.bool b, ?_, by simpa using R.bool (C := C) b⟩
          simp only [Sem.run_bind, run_eqGuard_agg w .eql t ox oy _ _ (eqP_guard 8 t p hq _ (depth_ge P)), Result.andThen_ok, run_eql_struct, hr]
        · cases hp
      · split at hp
        · rename_i hc
          obtain ⟨q, hq, e⟩ := Option.map_eq_some_iff.1 hp
          cases e
          have hr := run_equal_ok (P := P) w 8 t p hq 10000 true (.agg us.toArray) (.agg ws.toArray) b (by omega) hc (fun _ => ⟨⟨_, rfl⟩, _, rfl⟩) hpl
          refine ⟨.bool (!b), ?_, by simpa using R.bool (C := C) (!b)⟩
          simp only [Sem.run_bind, run_eqGuard_agg w .neq t ox oy _ _ (eqP_guard 8 t p hq _ (depth_ge P)), Result.andThen_ok, run_neq_struct, hr]
        · cases hp
      · cases hp
end Go.Am
