import Derived.Test.YtkagfenchknjjaaAmStep
set_option linter.unusedVariables false
set_option linter.unusedSimpArgs false
namespace Go.Am
open Go.RowKit

theorem toList_eq_iff (a b : ByteArray) : (a.toList == b.toList) = decide (a = b) := by
  rw [ByteArray.toList_eq, ByteArray.toList_eq]
  by_cases h : a = b
  · subst h; simp
  · have : a.data.toList ≠ b.data.toList := fun e => h (by
      cases a; cases b
      exact congrArg ByteArray.mk (Array.toList_inj.1 e))
    rw [decide_eq_false h]
    exact beq_eq_false_iff_ne.2 this

/-! ### Operators -/
def binV (isb : Bool) : BinOp → AV → AV → Option AV
  | .add, .int k a, .int k' b => if k = k' then some (.int k (k.wrap (a + b))) else none
  | .sub, .int k a, .int k' b => if k = k' then some (.int k (k.wrap (a - b))) else none
  | .mul, .int k a, .int k' b => if k = k' then some (.int k (k.wrap (a * b))) else none
  | .quo, .int k a, .int k' b => if k = k' ∧ b ≠ 0 then some (.int k (k.wrap (a.tdiv b))) else none
  | .rem, .int k a, .int k' b => if k = k' ∧ b ≠ 0 then some (.int k (a.tmod b)) else none
  | .shl, .int k a, .int _ b => if b < 0 then none else some (.int k (k.wrap (a * 2 ^ min b.toNat k.bits)))
  | .shr, .int k a, .int _ b => if b < 0 then none else some (.int k (a.fdiv (2 ^ min b.toNat k.bits)))
  | .eql, .int k a, .int k' b => if k = k' then some (.bool (decide (a = b))) else none
  | .neq, .int k a, .int k' b => if k = k' then some (.bool (!decide (a = b))) else none
  | .lss, .int k a, .int k' b => if k = k' then some (.bool (decide (a < b))) else none
  | .leq, .int k a, .int k' b => if k = k' then some (.bool (decide (a ≤ b))) else none
  | .gtr, .int k a, .int k' b => if k = k' then some (.bool (decide (b < a))) else none
  | .geq, .int k a, .int k' b => if k = k' then some (.bool (decide (b ≤ a))) else none
  | .add, .str a, .str b => if a.size + b.size ≤ maxLen then some (.str (a ++ b)) else none
  | .eql, .str a, .str b => some (.bool (decide (a = b)))
  | .neq, .str a, .str b => some (.bool (!decide (a = b)))
  | .eql, .bool a, .bool b => if isb then some (.bool (a == b)) else none
  | .neq, .bool a, .bool b => if isb then some (.bool (!(a == b))) else none
  | _, _, _ => none

def boolOf (P : Program) (t : TypeId) : Bool := match P.underlying t with | some .bool => true | _ => false

theorem boolOf_iff {P : Program} {t : TypeId} (h : boolOf P t = true) : P.underlying t = some .bool := by
  unfold boolOf at h
  split at h
  · assumption
  · cases h

section
variable {P : Program} {t : TypeId} {op : BinOp} (ox oy : Operand) (w : World)
theorem guard_int (k k' : IntKind) (a b : Int) : (eqGuard op t ox oy (.int k a) (.int k' b)).run P w = .ok () w := by cases op <;> rfl
theorem guard_str (a b : ByteArray) : (eqGuard op t ox oy (.string a) (.string b)).run P w = .ok () w := by cases op <;> rfl
theorem guard_bool (a b : Bool) : (eqGuard op t ox oy (.bool a) (.bool b)).run P w = .ok () w := by cases op <;> rfl
theorem run_guarded {x y u : Value} {w' : World} (hg : (eqGuard op t ox oy x y).run P w = .ok () w) (hb : (binOp op t x y).run P w = .ok u w') : (do eqGuard op t ox oy x y; binOp op t x y : Sem Value).run P w = .ok u w' := by
  simp only [Sem.run_bind, hg, Result.andThen_ok, hb]
end

theorem binV_sound {P : Program} {C : Ctx} {t : TypeId} {op : BinOp} {x y v : AV} {vx vy : Value} (ox oy : Operand) (hx : R C x vx) (hy : R C y vy) (h : binV (boolOf P t) op x y = some v) (w : World) :
    ∃ u, (do eqGuard op t ox oy vx vy; binOp op t vx vy : Sem Value).run P w = .ok u w ∧ R C v u := by
  unfold binV at h
  split at h
  all_goals first | (cases h; done) | skip
  all_goals cases hx; cases hy
  case h_1 k a k' b => split at h; (next e => (subst e; cases h; exact ⟨_, run_guarded ox oy w (guard_int ox oy w ..) (by simp [binOp, Op.intArith]), .int _ _⟩)); (next => cases h)
  case h_2 k a k' b => split at h; (next e => (subst e; cases h; exact ⟨_, run_guarded ox oy w (guard_int ox oy w ..) (by simp [binOp, Op.intArith]), .int _ _⟩)); (next => cases h)
  case h_3 k a k' b => split at h; (next e => (subst e; cases h; exact ⟨_, run_guarded ox oy w (guard_int ox oy w ..) (by simp [binOp, Op.intArith]), .int _ _⟩)); (next => cases h)
  case h_4 k a k' b => split at h; (next e => (obtain ⟨rfl, e⟩ := e; cases h; exact ⟨_, run_guarded ox oy w (guard_int ox oy w ..) (by simp [binOp, Op.intDiv, e]), .int _ _⟩)); (next => cases h)
  case h_5 k a k' b => split at h; (next e => (obtain ⟨rfl, e⟩ := e; cases h; exact ⟨_, run_guarded ox oy w (guard_int ox oy w ..) (by simp [binOp, Op.intDiv, e]), .int _ _⟩)); (next => cases h)
  case h_6 k a k' b => split at h; (next e => cases h); (next e => (cases h; exact ⟨_, run_guarded ox oy w (guard_int ox oy w ..) (by simp [binOp, Op.shift, e]), .int _ _⟩))
  case h_7 k a k' b => split at h; (next e => cases h); (next e => (cases h; exact ⟨_, run_guarded ox oy w (guard_int ox oy w ..) (by simp [binOp, Op.shift, e]), .int _ _⟩))
  case h_8 k a k' b => split at h; (next e => (subst e; cases h; exact ⟨_, run_guarded ox oy w (guard_int ox oy w ..) (by simp [binOp, Op.intCmp]; rfl), .bool _⟩)); (next => cases h)
  case h_9 k a k' b => split at h; (next e => (subst e; cases h; exact ⟨_, run_guarded ox oy w (guard_int ox oy w ..) (by simp [binOp, Op.intCmp]; rfl), .bool _⟩)); (next => cases h)
  case h_10 k a k' b => split at h; (next e => (subst e; cases h; exact ⟨_, run_guarded ox oy w (guard_int ox oy w ..) (by simp [binOp, Op.intCmp]), .bool _⟩)); (next => cases h)
  case h_11 k a k' b => split at h; (next e => (subst e; cases h; exact ⟨_, run_guarded ox oy w (guard_int ox oy w ..) (by simp [binOp, Op.intCmp]), .bool _⟩)); (next => cases h)
  case h_12 k a k' b => split at h; (next e => (subst e; cases h; exact ⟨_, run_guarded ox oy w (guard_int ox oy w ..) (by simp [binOp, Op.intCmp]), .bool _⟩)); (next => cases h)
  case h_13 k a k' b => split at h; (next e => (subst e; cases h; exact ⟨_, run_guarded ox oy w (guard_int ox oy w ..) (by simp [binOp, Op.intCmp]), .bool _⟩)); (next => cases h)
  case h_14 a b h1 h2 =>
    split at h
    next e =>
      cases h
      refine ⟨_, run_guarded ox oy w (guard_str ox oy w ..) ?_, .str _ (by simpa using e)⟩
      have e1 : ¬ (((a.size + b.size : Nat) : Int) > IntKind.i64.max) := by
        simp only [maxLen] at e
        have : IntKind.i64.max = 9223372036854775807 := by decide
        omega
      show (Op.stringOp .add a b).run P w = _
      unfold Op.stringOp
      simp only [if_neg e1, Sem.run_pure]
    next => cases h
  case h_15 a b _ _ => cases h; exact ⟨_, run_guarded ox oy w (guard_str ox oy w ..) (by show (Op.stringOp .eql a b).run P w = _; simp only [Op.stringOp, Sem.run_pure, toList_eq_iff]), .bool _⟩
  case h_16 a b _ _ => cases h; exact ⟨_, run_guarded ox oy w (guard_str ox oy w ..) (by show (Op.stringOp .neq a b).run P w = _; simp only [Op.stringOp, Sem.run_pure, toList_eq_iff]), .bool _⟩
  case h_17 a b =>
    split at h
    next e =>
      cases h
      refine ⟨_, run_guarded ox oy w (guard_bool ox oy w ..) ?_, .bool _⟩
      show (do pure (.bool (← Op.equal t (.bool a) (.bool b))) : Sem Value).run P w = _
      unfold Op.equal Op.maxDepth Op.equalIn
      simp [run_underlying (boolOf_iff e)]
    next => cases h
  case h_18 a b =>
    split at h
    next e =>
      cases h
      refine ⟨_, run_guarded ox oy w (guard_bool ox oy w ..) ?_, .bool _⟩
      show (do pure (.bool (!(← Op.equal t (.bool a) (.bool b)))) : Sem Value).run P w = _
      unfold Op.equal Op.maxDepth Op.equalIn
      simp [run_underlying (boolOf_iff e)]
    next => cases h

end Go.Am
