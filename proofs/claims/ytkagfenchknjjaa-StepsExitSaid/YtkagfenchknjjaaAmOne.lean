import Derived.Test.YtkagfenchknjjaaAmWp
import Derived.Test.YtkagfenchknjjaaAmYield
set_option linter.unusedVariables false
set_option linter.unusedSimpArgs false
namespace Go.Am
open Go.RowKit

/-! ### Ways -/
def condW : AV → Prop → Prop → Prop
  | .bool true, A, _ => A
  | .bool false, _, B => B
  | _, _, _ => False
@[simp] theorem condW_true (A B : Prop) : condW (.bool true) A B = A := rfl
@[simp] theorem condW_false (A B : Prop) : condW (.bool false) A B = B := rfl
@[congr] theorem condW_congr {c c' : AV} {A B : Prop} (h : c = c') : condW c A B = condW c' A B := by rw [h]
theorem condW_of {b : Bool} {A B : Prop} (h1 : b = true → A) (h2 : b = false → B) : condW (.bool b) A B := by cases b <;> simp_all
theorem condW_dec {p : Prop} [Decidable p] {A B : Prop} (h1 : p → A) (h2 : ¬ p → B) : condW (.bool (decide p)) A B := by
  by_cases h : p
  · simpa [h] using h1 h
  · simpa [h] using h2 h
theorem condW_inv {c : AV} {A B : Prop} (h : condW c A B) : (c = .bool true ∧ A) ∨ (c = .bool false ∧ B) := by
  unfold condW at h
  split at h
  · exact .inl ⟨rfl, h⟩
  · exact .inr ⟨rfl, h⟩
  · exact h.elim

def isTup0 : AV → Bool
  | .tup [] => true
  | _ => false
def guardOf (v : AV) (want : Bool) : AV := match v with
  | .bool b => .bool (b == want)
  | .tup [] => .bool false
  | _ => .any
def guardV (ops : Array Oper) (τ : Nat → AV) : Option (Nat × Bool) → AV
  | none => .bool true
  | some (j, want) => match (ops[j]?).bind (·.dst) with
    | some d => guardOf (τ d) want
    | none => .any

/-- A call that turns nothing; what it is handed is frozen, unless it hands back a value without memory. -/
def callP (P : Program) (f : FuncId) (args caps : List AV) (d : Option Nat) (s : St) (K : St → Prop) : Prop :=
  ∃ r, closedL ((args ++ caps).map (pur (frzs s.H args))) = true ∧ Spec P f ((args ++ caps).map (pur (frzs s.H args))) r ∧ (K (s.put d r (frzs s.H args)) ∨ flat r = true ∧ K (s.put d r s.H))

def callOf : Op → Option (Operand × Call)
  | .call c => match c.callee with
    | .value f => some (f, c)
    | _ => none
  | _ => none
theorem callOf_some {o : Op} {f : Operand} {c : Call} (h : callOf o = some (f, c)) : o = .call c ∧ c.callee = .value f := by
  unfold callOf at h
  split at h
  · rename_i c'
    split at h
    · rename_i g hg
      cases h
      exact ⟨rfl, hg⟩
    · cases h
  · cases h

def isAppend (d : Nat) : Op → Bool
  | .call c => match c.callee, c.args.toList with
    | .builtin .append, .tmp t :: _ => t == d
    | _, _ => false
  | _ => false
def ownLit (rest : List Oper) : Option Nat → Bool
  | some d => rest.any fun o => isAppend d o.op
  | none => false

abbrev Stp := Option (AV × Heap)
def cOp (d : Option Nat) (r : Stp) (s : St) (K : St → Prop) : Prop := bindO r fun r => K (s.put d r.1 r.2)
/-- A call that hands back a row of its own making. -/
def callR (P : Program) (f : FuncId) (args caps : List AV) (d : Option Nat) (s : St) (K : St → Prop) : Prop :=
  ∃ t sz rows k, d = some k ∧ closedL ((args ++ caps).map (pur (frzs s.H args))) = true ∧ RowSpec P f ((args ++ caps).map (pur (frzs s.H args))) t sz rows ∧
    K (s.put (some k) (.ref k (nv (frzs s.H args) k) .o) (upd (frzs s.H args) k (some (.row (nv (frzs s.H args) k) t sz rows))))
/-- A call that yields nothing. -/
def cCall0 (P : Program) (f : AV) (args : List AV) (d : Option Nat) (s : St) (K : St → Prop) : Prop := match f with
  | .func fid caps => callP P fid args caps d s K ∨ callR P fid args caps d s K
  | _ => False
def hasY (l : List AV) : Bool := l.any fun | .yld => true | _ => false
def specYW (P : Program) (f : FuncId) (args : List AV) (H : Heap) (d : Option Nat) (s : St) (K : St → Prop) : Prop :=
  ∃ xs rest rt rf, s.g = ⟨xs ++ rest, false⟩ ∧ args.all okY = true ∧ SpecY P f args xs rt rf ∧ K ⟨updO s.τ d rt, H, ⟨rest, false⟩⟩ ∧ ∀ t, K ⟨updO s.τ d rf, H, ⟨t, true⟩⟩
def yieldW (args : List AV) (H : Heap) (d : Option Nat) (s : St) (K : St → Prop) : Prop := ∃ rest, s.g = ⟨args :: rest, false⟩ ∧ closedL args = true ∧ ∀ b : Bool, K ⟨updO s.τ d (.bool b), H, ⟨rest, !b⟩⟩
/-- A call that turns what it is lent. -/
def callH (P : Program) (f : FuncId) (args : List AV) (d : Option Nat) (s : St) (K : St → Prop) : Prop :=
  ∃ L VS lent nw Q, s.H = hls L VS ∧ lendOk L lent nw args = true ∧ HSpecL P f (args.map (ren (asc (lent ++ nw)))) (lentL L (lent ++ nw) lent) Q ∧
    ∀ r l' VS', Q r l' → retOk (lent ++ nw) r l' = true ∧ K ⟨updO s.τ d (ren (csa (lent ++ nw)) r), hls (dropK ((lent ++ nw).map (·.1)) L ++ backL (lent ++ nw) l') VS', s.g⟩
def cCall (P : Program) (f : AV) (args : List AV) (d : Option Nat) (s : St) (K : St → Prop) : Prop := match f with
  | .func fid caps => (callP P fid args caps d s K ∨ callR P fid args caps d s K) ∨ callH P fid (args ++ caps) d s K ∨ specYW P fid ((args ++ caps).map (pur (frzs s.H args))) (frzs s.H args) d s K
  | .yld => yieldW (args.map (pur (frzs s.H args))) (frzs s.H args) d s K
  | _ => False
section
variable {P : Program} {f : FuncId} {args caps args' : List AV} {d : Option Nat} {s : St} {K : St → Prop} {r : AV}
theorem call0_pure (h : Spec P f args' r) (e : (args ++ caps).map (pur (frzs s.H args)) = args') (hc : closedL args' = true) (k : K (s.put d r (frzs s.H args))) : cCall0 P (.func f caps) args d s K :=
  .inl ⟨r, by rw [e]; exact hc, by rw [e]; exact h, .inl k⟩
theorem call0_flat (h : Spec P f args' r) (e : (args ++ caps).map (pur (frzs s.H args)) = args') (hc : closedL args' = true) (hf : flat r = true) (k : K (s.put d r s.H)) : cCall0 P (.func f caps) args d s K :=
  .inl ⟨r, by rw [e]; exact hc, by rw [e]; exact h, .inr ⟨hf, k⟩⟩
theorem call0_row {k : Nat} {t : TypeId} {sz : Nat} {rows : List (List AV)} (h : RowSpec P f args' t sz rows) (e : (args ++ caps).map (pur (frzs s.H args)) = args') (hc : closedL args' = true)
    (kk : K (s.put (some k) (.ref k (nv (frzs s.H args) k) .o) (upd (frzs s.H args) k (some (.row (nv (frzs s.H args) k) t sz rows))))) : cCall0 P (.func f caps) args (some k) s K :=
  .inr ⟨t, sz, rows, k, rfl, by rw [e]; exact hc, by rw [e]; exact h, kk⟩
theorem call_row {k : Nat} {t : TypeId} {sz : Nat} {rows : List (List AV)} (h : RowSpec P f args' t sz rows) (e : (args ++ caps).map (pur (frzs s.H args)) = args') (hc : closedL args' = true)
    (kk : K (s.put (some k) (.ref k (nv (frzs s.H args) k) .o) (upd (frzs s.H args) k (some (.row (nv (frzs s.H args) k) t sz rows))))) : cCall P (.func f caps) args (some k) s K :=
  .inl (call0_row h e hc kk)
theorem call_pure (h : Spec P f args' r) (e : (args ++ caps).map (pur (frzs s.H args)) = args') (hc : closedL args' = true) (k : K (s.put d r (frzs s.H args))) : cCall P (.func f caps) args d s K :=
  .inl (call0_pure h e hc k)
theorem call_flat (h : Spec P f args' r) (e : (args ++ caps).map (pur (frzs s.H args)) = args') (hc : closedL args' = true) (hf : flat r = true) (k : K (s.put d r s.H)) : cCall P (.func f caps) args d s K :=
  .inl (call0_flat h e hc hf k)
theorem call_heap {L : List (Nat × Blk)} {VS : Nat → Nat} {τ : Nat → AV} {g : G} (lent nw : List (Nat × Nat)) {l0 : List (Nat × Blk)} {Q : AV → List (Nat × Blk) → Prop} (h : HSpecL P f args' l0 Q)
    (e : (args ++ caps).map (ren (asc (lent ++ nw))) = args') (el : lentL L (lent ++ nw) lent = l0) (hok : lendOk L lent nw (args ++ caps) = true)
    (k : ∀ r l' VS', Q r l' → retOk (lent ++ nw) r l' = true ∧ K ⟨updO τ d (ren (csa (lent ++ nw)) r), hls (dropK ((lent ++ nw).map (·.1)) L ++ backL (lent ++ nw) l') VS', g⟩) :
    cCall P (.func f caps) args d ⟨τ, hls L VS, g⟩ K := by
  subst e el
  exact .inr (.inl ⟨L, VS, lent, nw, Q, rfl, hok, h, k⟩)
theorem call_ylds {xs : List (List AV)} {rt rf : AV} (rest : List (List AV)) (h : SpecY P f args' xs rt rf) (e : (args ++ caps).map (pur (frzs s.H args)) = args') (hg : s.g = ⟨xs ++ rest, false⟩) (hc : args'.all okY = true)
    (k1 : K ⟨updO s.τ d rt, frzs s.H args, ⟨rest, false⟩⟩) (k2 : ∀ t, K ⟨updO s.τ d rf, frzs s.H args, ⟨t, true⟩⟩) : cCall P (.func f caps) args d s K :=
  .inr (.inr ⟨xs, rest, rt, rf, hg, by rw [e]; exact hc, by rw [e]; exact h, k1, k2⟩)
theorem call_yield {args : List AV} (rest : List (List AV)) (e : args.map (pur (frzs s.H args)) = args') (hg : s.g = ⟨args' :: rest, false⟩) (hc : closedL args' = true) (k : ∀ b : Bool, K ⟨updO s.τ d (.bool b), frzs s.H args, ⟨rest, !b⟩⟩) : cCall P .yld args d s K := by
  subst e
  exact ⟨rest, hg, hc, k⟩
end
/-- A slice against nil. -/
def nilOf (P : Program) : Op → Option (Bool × Operand)
  | .binOp op t x (.const (.slice none 0 0)) _ => match op with
    | .eql => oif (elOf P t).isSome (some (false, x))
    | .neq => oif (elOf P t).isSome (some (true, x))
    | _ => none
  | _ => none
theorem nilOf_some {P : Program} {o : Op} {ng : Bool} {x : Operand} (h : nilOf P o = some (ng, x)) : ∃ t yt e, o = .binOp (if ng then .neq else .eql) t x (.const (.slice none 0 0)) yt ∧ P.underlying t = some (.slice e) := by
  unfold nilOf at h
  split at h
  · rename_i op t y yt
    split at h
    · obtain ⟨h1, h2⟩ := oif_eq_some h
      cases h2
      obtain ⟨e, he⟩ := Option.isSome_iff_exists.1 h1
      exact ⟨t, yt, e, rfl, elOf_iff he⟩
    · obtain ⟨h1, h2⟩ := oif_eq_some h
      cases h2
      obtain ⟨e, he⟩ := Option.isSome_iff_exists.1 h1
      exact ⟨t, yt, e, rfl, elOf_iff he⟩
    · cases h
  · cases h
def cNil (ng : Bool) (x : AV) (d : Option Nat) (s : St) (K : St → Prop) : Prop := nilK s.H (fun b => K (s.put d (.bool (b != ng)) s.H)) x
@[congr] theorem cNil_congr {ng : Bool} {x x' : AV} {d : Option Nat} {s s' : St} {K : St → Prop} (h : x = x') (h2 : s = s') : cNil ng x d s K = cNil ng x' d s' K := by rw [h, h2]
/-- One operation, then K; opW0: it yields nothing. -/
abbrev opW0 (P : Program) (own : Bool) (o : Oper) (s : St) (K : St → Prop) : Prop := match callOf o.op with
  | some (f, c) => cCall0 P (ev s.τ f) (c.args.toList.map (ev s.τ)) o.dst s K
  | none => cOp o.dst (stepV P s.τ s.H own o.dst o.op) s K
abbrev opW (P : Program) (own : Bool) (o : Oper) (s : St) (K : St → Prop) : Prop := match callOf o.op with
  | some (f, c) => cCall P (ev s.τ f) (c.args.toList.map (ev s.τ)) o.dst s K
  | none => match nilOf P o.op with
    | some (ng, x) => cNil ng (ev s.τ x) o.dst s K
    | none => cOp o.dst (stepV P s.τ s.H own o.dst o.op) s K

theorem opW0_OpR {P : Program} {s : St} {own : Bool} {o : Oper} {K : St → Prop} (h : opW0 P own o s K) : ∃ v H', OpR P s.τ s.H o v H' ∧ K (s.put o.dst v H') := by
  unfold opW0 at h
  split at h
  · rename_i f c hc
    unfold cCall0 at h
    obtain ⟨e1, e2⟩ := callOf_some hc
    split at h
    · rename_i fid caps hf
      obtain ⟨r, h1, h2, h3 | ⟨h3, h4⟩⟩ | ⟨t, sz, rows, k, h1, h2, h3, h4⟩ := h
      · exact ⟨r, _, .call f c fid caps r _ e1 e2 hf rfl h1 h2, h3⟩
      · exact ⟨r, _, .callFlat f c fid caps r _ e1 e2 hf rfl h1 h2 h3, h4⟩
      · exact ⟨_, _, .callRow f c fid caps _ t sz rows k e1 e2 hf rfl h2 h1 h3, by rw [h1]; exact h4⟩
    · exact h.elim
  · unfold cOp at h
    cases hs : stepV P s.τ s.H own o.dst o.op with
    | none => rw [hs] at h; exact h.elim
    | some r => rw [hs] at h; exact ⟨r.1, r.2, stepV_sound hs, h⟩
theorem opW_StepR {P : Program} {s : St} {own : Bool} {o : Oper} {K : St → Prop} (h : opW P own o s K) : StepR P s o K := by
  unfold opW at h
  split at h
  · rename_i f c hc
    unfold cCall at h
    obtain ⟨e1, e2⟩ := callOf_some hc
    split at h
    · rename_i fid caps hf
      rcases h with (⟨r, h1, h2, h3 | ⟨h3, h4⟩⟩ | ⟨t, sz, rows, k, h1, h2, h3, h4⟩) | ⟨L, VS, lent, nw, Q, h1, h2, h3, h4⟩ | ⟨xs, rest, rt, rf, hg, hcl, hs, k1, k2⟩
      · exact .op r _ (.call f c fid caps r _ e1 e2 hf rfl h1 h2) h3
      · exact .op r _ (.callFlat f c fid caps r _ e1 e2 hf rfl h1 h2 h3) h4
      · exact .op _ _ (.callRow f c fid caps _ t sz rows k e1 e2 hf rfl h2 h1 h3) (by rw [h1]; exact h4)
      · exact .hcall f c fid caps L VS lent nw Q e1 e2 hf h1 h2 h3 h4
      · exact .call f c fid caps xs rest rt rf e1 e2 hf hg hcl hs k1 k2
    · rename_i hf
      obtain ⟨rest, hg, hcl, k⟩ := h
      have e : callArgs s.τ (frzs s.H (c.args.toList.map (ev s.τ))) c [] = (c.args.toList.map (ev s.τ)).map (pur (frzs s.H (c.args.toList.map (ev s.τ)))) := by unfold callArgs; rw [List.append_nil]
      exact .yld f c rest e1 e2 hf (by rw [e]; exact hg) (by rw [e]; exact hcl) k
    · exact h.elim
  · split at h
    · rename_i ng x hn
      obtain ⟨tt, yt, e, h1, h2⟩ := nilOf_some hn
      exact .eqNil ng tt yt e x h1 h2 h
    · unfold cOp at h
      cases hs : stepV P s.τ s.H own o.dst o.op with
      | none => rw [hs] at h; exact h.elim
      | some r => rw [hs] at h; exact .op r.1 r.2 (stepV_sound hs) h

/-- An operation under a guard. -/
def cGrd (g : AV) (d : Option Nat) (one : St → (St → Prop) → Prop) (s : St) (K : St → Prop) : Prop := condW g (one s K) (K (s.put d (.tup []) s.H))
@[congr] theorem cGrd_congr {g g' : AV} {d : Option Nat} {one : St → (St → Prop) → Prop} {s s' : St} {K : St → Prop} (h : g = g') (h2 : s = s') : cGrd g d one s K = cGrd g' d one s' K := by rw [h, h2]
/-- An operation, guarded or not. -/
abbrev grdW0 (P : Program) (ops : Array Oper) (own : Bool) (o : Oper) (s : St) (K : St → Prop) : Prop := match o.guard with
  | none => opW0 P own o s K
  | some g => cGrd (guardV ops s.τ (some g)) o.dst (fun s K => opW0 P own o s K) s K
abbrev grdW (P : Program) (ops : Array Oper) (own : Bool) (o : Oper) (s : St) (K : St → Prop) : Prop := match o.guard with
  | none => opW P own o s K
  | some g => cGrd (guardV ops s.τ (some g)) o.dst (fun s K => opW P own o s K) s K
/-- Operations in the text's order. -/
noncomputable abbrev awpOps (P : Program) (ops : Array Oper) (l : List Oper) : St → (St → Prop) → Prop :=
  List.rec (motive := fun _ => St → (St → Prop) → Prop) (fun s K => K s) (fun o rest ih s K => grdW P ops (ownLit rest o.dst) o s fun s => ih s K) l
@[congr] theorem awpOps_congr {P : Program} {ops : Array Oper} {l : List Oper} {s s' : St} {K : St → Prop} (h : s = s') : awpOps P ops l s K = awpOps P ops l s' K := by rw [h]
theorem grdW0_inv {P : Program} {ops : Array Oper} {own : Bool} {o : Oper} {s : St} {K : St → Prop} (h : grdW0 P ops own o s K) :
    (guardV ops s.τ o.guard = .bool true ∧ ∃ v H', OpR P s.τ s.H o v H' ∧ K (s.put o.dst v H')) ∨ (guardV ops s.τ o.guard = .bool false ∧ K (s.put o.dst (.tup []) s.H)) := by
  unfold grdW0 at h
  split at h
  · rename_i hg
    rw [hg]
    exact .inl ⟨rfl, opW0_OpR h⟩
  · rename_i g hg
    rw [hg]
    rcases condW_inv h with ⟨hc, h⟩ | ⟨hc, h⟩
    · exact .inl ⟨hc, opW0_OpR h⟩
    · exact .inr ⟨hc, h⟩
theorem grdW_inv {P : Program} {ops : Array Oper} {own : Bool} {o : Oper} {s : St} {K : St → Prop} (h : grdW P ops own o s K) :
    (guardV ops s.τ o.guard = .bool true ∧ StepR P s o K) ∨ (guardV ops s.τ o.guard = .bool false ∧ K (s.put o.dst (.tup []) s.H)) := by
  unfold grdW at h
  split at h
  · rename_i hg
    rw [hg]
    exact .inl ⟨rfl, opW_StepR h⟩
  · rename_i g hg
    rw [hg]
    rcases condW_inv h with ⟨hc, h⟩ | ⟨hc, h⟩
    · exact .inl ⟨hc, opW_StepR h⟩
    · exact .inr ⟨hc, h⟩
theorem StepR.mono {P : Program} {s : St} {o : Oper} {K K' : St → Prop} (h : StepR P s o K) (hk : ∀ s, K s → K' s) : StepR P s o K' := by
  cases h with
  | op v H' h k => exact .op v H' h (hk _ k)
  | yld f c rest h hc hf hg hcl k => exact .yld f c rest h hc hf hg hcl fun b => hk _ (k b)
  | call f c fid caps xs rest rt rf h hc hf hg hcl hs k1 k2 => exact .call f c fid caps xs rest rt rf h hc hf hg hcl hs (hk _ k1) fun t => hk _ (k2 t)
  | eqNil ng t yt e x h ht k =>
    refine .eqNil ng t yt e x h ht ?_
    unfold nilK at k ⊢
    split at k
    · exact ⟨hk _ k.1, fun e => hk _ (k.2 e)⟩
    · exact hk _ k
    · exact hk _ k
    · split at k
      · exact ⟨k.1, hk _ k.2.1, fun e => hk _ (k.2.2 e)⟩
      · exact ⟨k.1, hk _ k.2.1, fun e => hk _ (k.2.2 e)⟩
      · exact k.elim
    · exact k.elim
  | hcall f c fid caps L VS lent nw Q h hc hf hH hok hs k => exact .hcall f c fid caps L VS lent nw Q h hc hf hH hok hs fun r l' VS' hq => ⟨(k r l' VS' hq).1, hk _ (k r l' VS' hq).2⟩

/-- Operations by their numbers, in some order. -/
def awpIdx (P : Program) (ops : Array Oper) : List Nat → St → (St → Prop) → Prop
  | [], s, K => K s
  | i :: rest, s, K => match ops[i]? with
    | none => False
    | some o => condW (guardV ops s.τ o.guard) (StepR P s o fun s' => awpIdx P ops rest s' K) (awpIdx P ops rest (s.put o.dst (.tup []) s.H) K)

theorem awpOps_idx {P : Program} {ops : Array Oper} : ∀ (l : List Oper) (i : Nat) (s : St) (K : St → Prop), l = ops.toList.drop i → awpOps P ops l s K → awpIdx P ops (List.range' i (ops.size - i)) s K
  | [], i, s, K, hl, h => by
    have : ops.size - i = 0 := by
      have := congrArg List.length hl
      simp at this
      omega
    rw [this]
    exact h
  | o :: rest, i, s, K, hl, h => by
    have hi : i < ops.size := by
      have := congrArg List.length hl
      simp at this
      omega
    have h2 : ops.size - i = (ops.size - (i + 1)) + 1 := by omega
    have ho : ops[i]? = some o := by
      have : (ops.toList.drop i)[0]? = some o := by rw [← hl]; rfl
      rw [List.getElem?_drop] at this
      simpa using this
    have hr : rest = ops.toList.drop (i + 1) := by
      rw [← List.drop_drop, ← hl]
      rfl
    rw [h2, List.range'_succ]
    unfold awpIdx
    rw [ho]
    dsimp only
    rcases grdW_inv h with ⟨hg, h3⟩ | ⟨hg, h⟩
    · rw [hg]
      exact h3.mono fun s' h4 => awpOps_idx rest (i + 1) _ K hr h4
    · rw [hg]
      exact awpOps_idx rest (i + 1) _ K hr h

section
variable {E : Env} {s : St} {a : Act} {w : World} {ro : Option Nat}

theorem Rel.guard (h : Rel E s a w) {ops : Array Oper} {o : Oper} {b : Bool} (hg : guardV ops s.τ o.guard = .bool b) : Region.wanted o (yielded ops a.tmps) = b := by
  obtain ⟨S, own, C, D, Ds, h⟩ := h
  unfold Region.wanted
  cases hgd : o.guard with
  | none => rw [hgd] at hg; cases hg; rfl
  | some p =>
    obtain ⟨j, want⟩ := p
    rw [hgd] at hg
    unfold guardV at hg
    dsimp only at hg ⊢
    split at hg
    · rename_i d hd
      have hR := h.tmps d
      unfold yielded
      rw [hd]
      unfold guardOf at hg
      split at hg
      · rename_i b' hb'
        cases hg
        rw [hb'] at hR
        generalize hz : a.tmps.getD d undef = z at hR
        cases hR
        rw [Array.getD_eq_getD_getElem?] at hz
        have : a.tmps[d]? = some (.bool b') := by
          cases hq : a.tmps[d]? with
          | none => rw [hq] at hz; cases hz
          | some x => rw [hq] at hz; simp at hz; rw [hz]
        simp [this]
      · rename_i hb'
        cases hg
        rw [hb'] at hR
        generalize hz : a.tmps.getD d undef = z at hR
        cases hR with
        | tup _ us hl _ =>
          rw [Array.getD_eq_getD_getElem?] at hz
          have : a.tmps[d]? = none ∨ ∃ x, a.tmps[d]? = some (.tuple x) := by
            cases hq : a.tmps[d]? with
            | none => exact .inl rfl
            | some x => rw [hq] at hz; simp at hz; exact .inr ⟨_, by rw [hz]⟩
          rcases this with h1 | ⟨x, h1⟩ <;> simp [h1]
      · cases hg
    · cases hg

def opsOk (n : Nat) (ops : Array Oper) : Bool := ops.all fun o => match o.dst with | some d => decide (d < n) | none => true
theorem opsOk_dst {n : Nat} {ops : Array Oper} (h : opsOk n ops = true) {i : Nat} {o : Oper} (ho : ops[i]? = some o) : ∀ d, o.dst = some d → d < n := fun d hd => by
  obtain ⟨hi, rfl⟩ := Array.getElem?_eq_some_iff.1 ho
  have := Array.all_eq_true.1 h i hi
  rw [hd] at this
  simpa using this

theorem awpIdx_sound (hJ : JOk E.J) (hY : YOk E.P E.J E.l E.T) {ops : Array Oper} (hok : opsOk E.n ops = true) {K : St → Prop} {Q : Exit → Act → World → Prop} (hQ : ∀ s a w, K s → Rel E s a w → Q .normal a w) : ∀ (l : List Nat) (s : St) (a : Act) (w : World),
    awpIdx E.P ops l s K → Rel E s a w → wpOpsIn (FW ro) 0 E.P ops Q l a w
  | [], s, a, w, h, hr => hQ s a w h hr
  | i :: rest, s, a, w, h, hr => by
    unfold awpIdx at h
    unfold wpOpsIn
    split at h
    · exact h.elim
    · rename_i o ho
      rw [ho]
      dsimp only
      have hd := opsOk_dst hok ho
      rcases condW_inv h with ⟨hg, h1⟩ | ⟨hg, h1⟩
      · rw [if_pos (hr.guard hg)]
        exact h1.sound hJ hY hd hr fun s' a' w' h2 hr' => awpIdx_sound hJ hY hok hQ rest _ a' w' h2 hr'
      · rw [if_neg (by rw [hr.guard hg]; simp)]
        refine ⟨fun _ _ => trivial, awpIdx_sound hJ hY hok hQ rest _ _ w h1 ?_⟩
        obtain ⟨S, own, C, D, Ds, hr⟩ := hr
        exact hr.putOld hJ hd (.tup [] [] rfl fun i a hi => by simp at hi) (Grows.refl w _)
end

end Go.Am
