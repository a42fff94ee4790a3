import Derived.Test.YtkagfenchknjjaaAmOps
set_option linter.unusedVariables false
set_option linter.unusedSimpArgs false
namespace Go.Am
open Go.RowKit

def FW (ro : Option Nat) : Fence := { fn := fun _ => True, depth := none, alive := false, round := ro }
def Op.isDefer : Op → Bool
  | .defer _ => true
  | _ => false

section
variable {P : Program} {ro : Option Nat} {o : Oper} {a : Act} {w w' : World} {next : Act → World → Prop} {Q : Exit → Act → World → Prop}
theorem semAt_plain (h : Op.isDefer o.op = false) (ρ : Operand → Value) : o.semAt ro ρ = execOp ρ o :=
  Oper.semAt_eq ro ρ o fun c e => by rw [e] at h; cases h
theorem wpIn_value {v : Value} (hd : Op.isDefer o.op = false) (h : (execOp a.eval o).run P w = .ok (.value v) w') (hn : next (a.put o.dst v) w') : o.wpIn (FW ro) 0 P a w next Q := by
  refine ⟨fun _ _ => trivial, ?_⟩
  rw [semAt_plain hd, h]
  exact hn
theorem wpIn_none (hd : Op.isDefer o.op = false) (h : (execOp a.eval o).run P w = .ok .skip w') (hn : next (a.put o.dst undef) w') : o.wpIn (FW ro) 0 P a w next Q := by
  refine ⟨fun _ _ => trivial, ?_⟩
  rw [semAt_plain hd, h]
  exact hn
theorem wpIn_enter {f : FuncId} {args : Array Value} (hd : Op.isDefer o.op = false) (h : (execOp a.eval o).run P w = .ok (.enter f args) w')
    (hc : CallsIn (FW none) 0 P f args w' fun e w'' => ∃ v, e = .returned v ∧ next (a.put o.dst v) w'') : o.wpIn (FW ro) 0 P a w next Q := by
  refine ⟨fun _ _ => trivial, ?_⟩
  rw [semAt_plain hd, h, Oper.uponIn_enter]
  refine ⟨fun h => by simp [FW] at h, ?_⟩
  have hc' : CallsIn (FW ro) 0 P f args w' fun e w'' => ∃ v, e = .returned v ∧ next (a.put o.dst v) w'' := hc
  refine hc'.mono fun e w'' ⟨v, he, hn⟩ => ?_
  subst he
  exact hn
end

def updO (τ : Nat → AV) : Option Nat → AV → (Nat → AV)
  | some d, v => upd τ d v
  | none, _ => τ

theorem put_size (a : Act) (d : Option Nat) (v : Value) : (a.put d v).tmps.size = a.tmps.size := by cases d <;> simp [Act.put]
theorem put_defers (a : Act) (d : Option Nat) (v : Value) : (a.put d v).defers = a.defers := by cases d <;> rfl

theorem R_put {C : Ctx} {τ : Nat → AV} {a : Act} {n : Nat} (h : ∀ i, R C (τ i) (a.tmps.getD i undef)) (hn : a.tmps.size = n) {d : Option Nat} (hd : ∀ k, d = some k → k < n) {x : AV} {v : Value} (hv : R C x v) :
    ∀ i, R C (updO τ d x i) ((a.put d v).tmps.getD i undef) := by
  intro i
  cases d with
  | none => exact h i
  | some k =>
    have hk := hd k rfl
    simp only [updO, Act.put]
    by_cases e : i = k
    · subst e
      rw [upd_same]
      simpa [Array.getD_eq_getD_getElem?, hn, hk] using hv
    · rw [upd_other _ _ _ _ e]
      have := h i
      simpa [Array.getD_eq_getD_getElem?, Array.getElem?_setIfInBounds_ne (Ne.symm e)] using this

/-- The abstract value of an operand. -/
def ev (τ : Nat → AV) : Operand → AV
  | .tmp t => τ t
  | .const v => ofVal v
  | .func f => .func f []
  | .global _ => .any

theorem R_ev {C : Ctx} {τ : Nat → AV} {a : Act} (h : ∀ i, R C (τ i) (a.tmps.getD i undef)) (x : Operand) : R C (ev τ x) (a.eval x) := by
  cases x with
  | tmp t => exact h t
  | const v => exact R_ofVal C v
  | func f => exact .func f [] [] rfl (fun i a hi => by simp at hi)
  | global g => exact .any _

section
variable {E : Env} {s : St} {a : Act} {w : World} {S : Nat → Prop} {own : Nat → Option Nat} {C D : Nat → Prop} {Ds : List Nat}

def St.put (s : St) (d : Option Nat) (v : AV) (H : Heap) : St := { s with τ := updO s.τ d v, H := H }

/-- A value that was already there goes into a slot. -/
theorem RelAt.putOld (h : RelAt E s a w S own C D Ds) (hJ : JOk E.J) {d : Option Nat} (hd : ∀ k, d = some k → k < E.n) {x : AV} {v : Value} (hv : R (ctx E s w S own) x v) {w' : World} (hg : Grows w w' fun _ => False) :
    Rel E (s.put d x s.H) (a.put d v) w' :=
  ⟨fun b => S b ∨ False, own, C, D, Ds, h.quiet hJ hg (fun _ => False) (fun _ hb => hb.elim) (put_size a d v) (put_defers a d v) fun hle => R_put (fun i => (h.tmps i).mono hle) h.size hd (hv.mono hle)⟩

/-- A value whose memory is new goes into a slot. -/
theorem RelAt.putNew (h : RelAt E s a w S own C D Ds) (hJ : JOk E.J) {d : Option Nat} (hd : ∀ k, d = some k → k < E.n) {x : AV} {v : Value} {w' : World} (hg : Grows w w' fun _ => False)
    (hv : R (ctx E s w' (fun b => S b ∨ (w.heap.size ≤ b ∧ b < w'.heap.size)) own) x v) : Rel E (s.put d x s.H) (a.put d v) w' :=
  ⟨_, own, C, D, Ds, h.quiet hJ hg (fun b => w.heap.size ≤ b ∧ b < w'.heap.size) (fun _ hb => hb) (put_size a d v) (put_defers a d v) fun hle => R_put (fun i => (h.tmps i).mono hle) h.size hd hv⟩

def nv (H : Heap) (k : Nat) : Nat := match H k with | none => 0 | some b => b.ver + 1

theorem nv_gt {H : Heap} {k : Nat} {b : Blk} (h : H k = some b) : b.ver < nv H k := by simp [nv, h]

/-- A variable is made: a block of its own under a key. -/
theorem RelAt.putBox (h : RelAt E s a w S own C D Ds) (hJ : JOk E.J) {d : Nat} (hd : d < E.n) (t : TypeId) {cells : List AV} {cs : Array Value} (hs : cs.size = cells.length) (hh : Holds (ctx E s w S own) cs cells) :
    Rel E (s.put (some d) (.ref d (nv s.H d) (.p 0)) (upd s.H d (some (.box (nv s.H d) t cells)))) (a.put (some d) (.pointer (some ⟨w.heap.size, 0, none⟩))) (w.alloc (.cells cs t)) := by
  refine ⟨S, upd own d (some w.heap.size), C, D, Ds, h.key hJ d (some w.heap.size) (.box (nv s.H d) t cells) (Grows.alloc w _ _) (fun blk hk => ?_) (fun g e => .inl (by cases e; exact ⟨Nat.le_refl _, by simp⟩)) (fun hle => ?_) (put_size a _ _) (put_defers a _ _) fun hle => ?_⟩
  · have := nv_gt hk
    exact ⟨Nat.le_of_lt this, fun e => by have e2 : nv s.H d = blk.ver := e; omega⟩
  · exact ⟨cs, heap_alloc_new w _, hs, hh.mono hle⟩
  · refine R_put (fun i => (h.tmps i).mono hle) h.size (fun k e => by cases e; exact hd) ?_
    exact .ref d (nv s.H d) (.p 0) _ _ (upd_same _ _ _) (Nat.le_refl _) rfl fun _ => by simp [RefVal, upd]

/-- What stands in a block is written over. -/
def setL (cells : List AV) (off : Nat) (vs : List AV) : List AV :=
  if off = 0 ∧ vs.length = cells.length then vs else cells.take off ++ vs ++ cells.drop (off + vs.length)
theorem setL_eq (cells : List AV) (off : Nat) (vs : List AV) (h : off + vs.length ≤ cells.length) : setL cells off vs = cells.take off ++ vs ++ cells.drop (off + vs.length) := by
  unfold setL
  split
  · rename_i e
    obtain ⟨rfl, e⟩ := e
    simp [e]
  · rfl
theorem setL_length (cells : List AV) (off : Nat) (vs : List AV) (h : off + vs.length ≤ cells.length) : (setL cells off vs).length = cells.length := by
  rw [setL_eq _ _ _ h]
  simp only [List.length_append, List.length_take, List.length_drop]
  omega
theorem okCells_setL {cells vs : List AV} (off : Nat) (h1 : okCells cells = true) (h2 : okCells vs = true) : okCells (setL cells off vs) = true := by
  unfold setL
  split
  · exact h2
  · simp only [okCells, List.all_append, Bool.and_eq_true]
    exact ⟨⟨List.all_eq_true.2 fun x hx => List.all_eq_true.1 h1 x (List.mem_of_mem_take hx), h2⟩, List.all_eq_true.2 fun x hx => List.all_eq_true.1 h1 x (List.mem_of_mem_drop hx)⟩

theorem Holds.set {C : Ctx} {cs : Array Value} {cells : List AV} (h : Holds C cs cells) {off : Nat} {vs : List AV} {us : List Value} (hu : us.length = vs.length) (hv : Holds C us.toArray vs) (hl : off + vs.length ≤ cells.length) (hcs : cells.length ≤ cs.size) :
    Holds C (cs.toList.take off ++ us ++ cs.toList.drop (off + us.length)).toArray (setL cells off vs) := by
  rw [setL_eq _ _ _ hl]
  intro i a ha
  have hl2 : cs.toList.length = cs.size := rfl
  rw [List.append_assoc, List.getElem?_append] at ha
  rw [List.append_assoc]
  simp only [List.getElem?_toArray]
  rw [List.getElem?_append]
  have e1 : (cells.take off).length = off := by rw [List.length_take]; omega
  have e2 : (cs.toList.take off).length = off := by rw [List.length_take]; omega
  rw [e1] at ha
  rw [e2]
  split at ha
  · rename_i hi
    rw [if_pos hi, List.getElem?_take, if_pos hi]
    rw [List.getElem?_take, if_pos hi] at ha
    obtain ⟨v, h1, h2⟩ := h i a ha
    exact ⟨v, by simpa using h1, h2⟩
  · rename_i hi
    rw [if_neg hi, List.getElem?_append, hu]
    rw [List.getElem?_append] at ha
    split at ha
    · rename_i hj
      rw [if_pos hj]
      obtain ⟨v, h1, h2⟩ := hv _ a ha
      exact ⟨v, by simpa using h1, h2⟩
    · rename_i hj
      rw [if_neg hj, List.getElem?_drop]
      rw [List.getElem?_drop] at ha
      obtain ⟨v, h1, h2⟩ := h _ a ha
      exact ⟨v, by simpa using h1, h2⟩

end
end Go.Am
