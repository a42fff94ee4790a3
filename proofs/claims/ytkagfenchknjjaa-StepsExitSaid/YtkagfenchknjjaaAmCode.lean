import Derived.Test.YtkagfenchknjjaaAmLast
import Derived.Test.YtkagfenchknjjaaAmRange
set_option linter.unusedVariables false
set_option linter.unusedSimpArgs false
namespace Go.Am
open Go.RowKit

/-! ### Code -/
abbrev blkK (id : Nat) (Φ : Exit → St → Prop) : Exit → St → Prop
  | .exit id', s => if id' = id then Φ .normal s else Φ (.exit id') s
  | e, s => Φ e s
/-- Jumps to labels. -/
abbrev gotoK (J : Nat → St → Prop) (Φ : Exit → St → Prop) : Exit → St → Prop
  | .goto l, s => J l s
  | e, s => Φ e s
abbrev Pd := (Exit → St → Prop) → St → Prop
def lookR : List (Nat × ((Nat → St → Prop) → St → Prop)) → Nat → (Nat → St → Prop) → St → Prop
  | [], _, _, _ => False
  | (l, k) :: r, l', J, s => if l = l' then k J s else lookR r l' J s
/-- A scope: B: its code; R: what stands behind each label. -/
def cScope (B : (Nat → St → Prop) → St → Prop) (R : List (Nat × ((Nat → St → Prop) → St → Prop))) (s : St) : Prop :=
  ∃ I : Nat → Nat → St → Prop, B (fun l s' => ∃ m s'', s'.le s'' ∧ I l m s'') s ∧ ∀ l m s, I l m s → lookR R l (fun l' s' => ∃ m' s'', m' < m ∧ s'.le s'' ∧ I l' m' s'') s
@[congr] theorem cScope_congr {B : (Nat → St → Prop) → St → Prop} {R : List (Nat × ((Nat → St → Prop) → St → Prop))} {s s' : St} (h : s = s') : cScope B R s = cScope B R s' := by rw [h]
/-- A scope in which nothing jumps. -/
theorem cScope_straight {B : (Nat → St → Prop) → St → Prop} {R : List (Nat × ((Nat → St → Prop) → St → Prop))} {s : St} (h : ∀ J, B J s) : cScope B R s :=
  ⟨fun _ _ _ => False, h _, fun _ _ _ h => h.elim⟩

noncomputable abbrev awp2 (P : Program) (c : Code) : Pd × List (Nat × Pd) :=
  Code.rec (motive := fun _ => Pd × List (Nat × Pd))
    (fun Φ s => Φ .normal s, [])
    (fun _ ops draw => (match draw with
      | false => fun Φ s => awpOps P ops ops.toList s (Φ .normal)
      | true => fun Φ s => awpDrawX P ops s (Φ .normal), []))
    (fun _ _ ia ib => (fun Φ s => ia.1 (thenK (ib.1 Φ) Φ) s, ia.2.map (fun p => (p.1, fun Φ s => p.2 (thenK (ib.1 Φ) Φ) s)) ++ ib.2))
    (fun c _ _ ix iy => (fun Φ s => condW (ev s.τ c) (ix.1 Φ s) (iy.1 Φ s), []))
    (fun id _ ic => (fun Φ s => ic.1 (blkK id Φ) s, []))
    (fun _ ic => (fun Φ s => ∃ (I : Nat → St → Prop) (k : Nat) (s0 : St), s.le s0 ∧ I k s0 ∧ ∀ k s, I k s → ic.1 (thenK (fun s' => ∃ k' s'', k' < k ∧ s'.le s'' ∧ I k' s'') Φ) s, []))
    (fun f ps _ _ ia ib => (fun Φ s => cRange P (ev s.τ f) ps.toList (fun Φ s => ia.1 (thenK (ib.1 Φ) fun _ _ => False) s) Φ s, []))
    (fun id => (fun Φ s => Φ (.exit id) s, []))
    (fun _ ic => (fun Φ s => cScope (fun J s => ic.1 (gotoK J Φ) s) (ic.2.map fun p => (p.1, fun J s => p.2 (gotoK J Φ) s)) s, []))
    (fun l => (fun Φ s => Φ .normal s, [(l, fun Φ s => Φ .normal s)]))
    (fun l => (fun Φ s => Φ (.goto l) s, []))
    (fun Φ s => Φ .ret s, [])
    (fun _ => (fun _ _ => False, []))
    c
noncomputable abbrev awp (P : Program) (c : Code) : Pd := (awp2 P c).1
@[congr] theorem awp_congr {P : Program} {c : Code} {Φ : Exit → St → Prop} {s s' : St} (h : s = s') : awp P c Φ s = awp P c Φ s' := by rw [h]

def codeOk (n : Nat) : Code → Bool
  | .region _ ops _ => opsOk n ops
  | .seq a b | .cond _ a b => codeOk n a && codeOk n b
  | .block _ c | .loop c | .scope c => codeOk n c
  | .rangeFunc _ ps a b => ps.toList.all (fun p => decide (p < n)) && (codeOk n a && codeOk n b && (noRange a && noRange b))
  | _ => true
where noRange : Code → Bool
  | .seq a b | .cond _ a b => noRange a && noRange b
  | .block _ c | .loop c | .scope c => noRange c
  | .rangeFunc .. => false
  | _ => true

/-! A scope, walked. -/
section
variable {F : Fence} {n : Nat} {P : Program} {Q : Exit → Act → World → Prop} {a : Act} {w : World}
def Exit.jumps (J : Nat → Act → World → Prop) (Q : Exit → Act → World → Prop) : Exit → Act → World → Prop
  | .goto l, a, w => J l a w
  | e, a, w => Q e a w
theorem stepR_scope {b : Frame} {k : List Item} {cs : List Frame} {c : Code} : step P (lone (b.atR a (.code (.scope c) :: k)) cs w) = .next (lone (b.atR a (.code c :: .inScope c :: k)) cs w) :=
  step_lone_go (by simp [stepG, stepG.exec, Frame.atR])
theorem stepR_inScope {b : Frame} {k : List Item} {cs : List Frame} {c : Code} : step P (lone (b.atR a (.inScope c :: k)) cs w) = .next (lone (b.atR a k) cs w) :=
  step_lone_go (by simp [stepG, stepG.exec, Frame.atR])
theorem wpIn_scope {c : Code} (J : Nat → Nat → Act → World → Prop) (first : c.wpIn F n P (Exit.jumps (fun l a w => ∃ m, J l m a w) Q) a w)
    (pass : ∀ l m a w, J l m a w → ∃ rest, findLabel c l = some rest ∧ rest.wpIn F n P (Exit.jumps (fun l' a' w' => ∃ m', m' < m ∧ J l' m' a' w') Q) a w) : (Code.scope c).wpIn F n P Q a w := by
  intro b k cs hro hb hr
  have h0 : (lone (b.atR a (.code (.scope c) :: k)) cs w).fenced P F := fenced_calm hb hr rfl
  have hexit : ∀ id, exitTo id (.inScope c :: k) = exitTo id k := fun id => by simp [exitTo]
  have key : ∀ m l a w, J l m a w → ∃ rest, findLabel c l = some rest ∧ ∃ e a' w', Q e a' w' ∧ ArrivesIn (Machine.fenced P F) P (lone (b.atR a (.code rest :: .inScope c :: k)) cs w) b k cs e a' w' := by
    intro m
    induction m using Nat.strongRecOn with
    | _ m ih =>
      intro l a w hJ
      obtain ⟨rest, hrest, hw⟩ := pass l m a w hJ
      refine ⟨rest, hrest, ?_⟩
      obtain ⟨e, a₁, w₁, hq, harr⟩ := hw b (.inScope c :: k) cs hro hb hr
      cases e with
      | normal => exact ⟨.normal, a₁, w₁, hq, StepsIn.trans harr (.one (fenced_calm hb hr rfl) stepR_inScope)⟩
      | exit id => exact ⟨.exit id, a₁, w₁, hq, fun k' hk => harr.1 k' (by rw [hexit]; exact hk), fun hr' hk => harr.2 hr' (by rw [hexit]; exact hk)⟩
      | goto l' =>
        obtain ⟨m', hlt, hJ'⟩ := hq
        obtain ⟨rest', hrest', e₂, a₂, w₂, hq₂, harr₂⟩ := ih m' hlt l' a₁ w₁ hJ'
        exact ⟨e₂, a₂, w₂, hq₂, .of_steps (harr.1 _ (by simp [gotoIn, hrest'])) harr₂⟩
      | ret => exact ⟨_, a₁, w₁, hq, harr⟩
      | panic ch => exact ⟨_, a₁, w₁, hq, harr⟩
      | outgrown => exact ⟨_, a₁, w₁, hq, harr⟩
  obtain ⟨e, a₁, w₁, hq, harr⟩ := first b (.inScope c :: k) cs hro hb hr
  cases e with
  | normal => exact ⟨.normal, a₁, w₁, hq, .head h0 stepR_scope (StepsIn.trans harr (.one (fenced_calm hb hr rfl) stepR_inScope))⟩
  | exit id => exact ⟨.exit id, a₁, w₁, hq, fun k' hk => .head h0 stepR_scope (harr.1 k' (by rw [hexit]; exact hk)), fun hr' hk => let ⟨k₁, h1, h2⟩ := harr.2 hr' (by rw [hexit]; exact hk); ⟨k₁, h1, .head h0 stepR_scope h2⟩⟩
  | goto l' =>
    obtain ⟨m', hJ'⟩ := hq
    obtain ⟨rest', hrest', e₂, a₂, w₂, hq₂, harr₂⟩ := key m' l' a₁ w₁ hJ'
    exact ⟨e₂, a₂, w₂, hq₂, .of_steps (.head h0 stepR_scope (harr.1 _ (by simp [gotoIn, hrest']))) harr₂⟩
  | ret => exact ⟨_, a₁, w₁, hq, .of_steps (.one h0 stepR_scope) harr⟩
  | panic ch => exact ⟨_, a₁, w₁, hq, .of_steps (.one h0 stepR_scope) harr⟩
  | outgrown => exact ⟨_, a₁, w₁, hq, .of_steps (.one h0 stepR_scope) harr⟩
end

def lookP : List (Nat × Pd) → Nat → Option Pd
  | [], _ => none
  | (l, k) :: r, l' => if l = l' then some k else lookP r l'
theorem lookP_append (a b : List (Nat × Pd)) (l : Nat) : lookP (a ++ b) l = (lookP a l).or (lookP b l) := by
  induction a with
  | nil => simp [lookP]
  | cons p r ih =>
    obtain ⟨i, k⟩ := p
    show (if i = l then some k else lookP (r ++ b) l) = (if i = l then some k else lookP r l).or _
    by_cases e : i = l <;> simp [e, ih]
theorem lookP_map (f : Pd → Pd) (a : List (Nat × Pd)) (l : Nat) : lookP (a.map fun p => (p.1, f p.2)) l = (lookP a l).map f := by
  induction a with
  | nil => rfl
  | cons p r ih =>
    obtain ⟨i, k⟩ := p
    show (if i = l then some (f k) else lookP _ l) = (if i = l then some k else lookP r l).map f
    by_cases e : i = l <;> simp [e, ih]
theorem lookR_map (f : Pd → (Nat → St → Prop) → St → Prop) (a : List (Nat × Pd)) {l : Nat} {J : Nat → St → Prop} {s : St} (h : lookR (a.map fun p => (p.1, f p.2)) l J s) : ∃ k, lookP a l = some k ∧ f k J s := by
  induction a with
  | nil => exact h.elim
  | cons p r ih =>
    obtain ⟨i, k⟩ := p
    have h : if i = l then f k J s else lookR (r.map fun p => (p.1, f p.2)) l J s := h
    unfold lookP
    by_cases e : i = l
    · rw [if_pos e] at h ⊢; exact ⟨k, rfl, h⟩
    · rw [if_neg e] at h ⊢; exact ih h

/-- A walk is sound: a piece of code, and what stands behind its labels. -/
def CodeSound (P : Program) (c : Code) : Prop :=
  ∀ (E : Env) (ro : Option Nat), E.P = P → JOk E.J → YOk E.P E.J E.l E.T → codeOk E.n c = true → ((E.fixed = false ∧ ro = none) ∨ codeOk.noRange c = true) → ∀ (Φ : Exit → St → Prop) (s : St) (a : Act) (w : World),
    (awp P c Φ s → Rel E s a w → c.wpIn (FW ro) 0 E.P (post E Φ) a w) ∧
    ∀ l rest, findLabel c l = some rest → ∃ k, lookP (awp2 P c).2 l = some k ∧ (k Φ s → Rel E s a w → rest.wpIn (FW ro) 0 E.P (post E Φ) a w)
theorem labels_none {P : Program} : ∀ (c : Code) (l : Nat), findLabel c l = none → lookP (awp2 P c).2 l = none
  | .seq a b, l, h => by
    unfold findLabel at h
    show lookP (((awp2 P a).2.map fun p => (p.1, fun Φ s => p.2 (thenK ((awp2 P b).1 Φ) Φ) s)) ++ (awp2 P b).2) l = none
    rw [lookP_append, lookP_map (fun k Φ s => k (thenK ((awp2 P b).1 Φ) Φ) s)]
    cases ha : findLabel a l with
    | some r => rw [ha] at h; cases h
    | none =>
      rw [ha] at h
      rw [labels_none a l ha, labels_none b l h]
      rfl
  | .label l', l, h => by
    unfold findLabel at h
    show lookP [(l', _)] l = none
    unfold lookP
    by_cases e : l' = l
    · simp [e] at h
    · rw [if_neg e]; rfl
  | .skip, _, _ => rfl
  | .region _ _ _, _, _ => rfl
  | .cond _ _ _, _, _ => rfl
  | .block _ _, _, _ => rfl
  | .loop _, _, _ => rfl
  | .rangeFunc _ _ _ _, _, _ => rfl
  | .exit _, _, _ => rfl
  | .scope _, _, _ => rfl
  | .goto _, _, _ => rfl
  | .ret, _, _ => rfl
  | .refuse _, _, _ => rfl

theorem code_sound {P : Program} : ∀ (c : Code), CodeSound P c
  | .skip, E, ro, hP, hJ, hY, hok, hn, Φ, s, a, w => ⟨fun h hr => wpIn_skip ⟨s, h, hr⟩, fun l rest h => by cases h⟩
  | .label l', E, ro, hP, hJ, hY, hok, hn, Φ, s, a, w => ⟨fun h hr => wpIn_label ⟨s, h, hr⟩, fun l rest h => by
      unfold findLabel at h
      split at h
      · rename_i e
        cases h
        have e : l' = l := by simpa using e
        subst e
        exact ⟨fun Φ s => Φ .normal s, by show lookP [(l', _)] l' = _; simp [lookP], fun h hr => wpIn_skip ⟨s, h, hr⟩⟩
      · cases h⟩
  | .region id ops false, E, ro, hP, hJ, hY, hok, hn, Φ, s, a, w => ⟨fun h hr => by
      subst hP
      refine wpIn_region (awpIdx_sound hJ hY hok (fun s a w hk hr => ⟨s, hk, hr⟩) _ s a w ?_ hr)
      have := awpOps_idx ops.toList 0 s (Φ .normal) rfl h
      rwa [Nat.sub_zero, ← List.range_eq_range'] at this, fun l rest h => by cases h⟩
  | .region id ops true, E, ro, hP, hJ, hY, hok, hn, Φ, s, a, w => ⟨fun h hr => by
      subst hP
      have h : awpDrawX E.P ops s (Φ .normal) := h
      refine wpIn_region_draw fun t => awpIdx_sound hJ hY hok (fun s a w hk hr => ⟨s, hk, hr⟩) _ s a _ (awpDX_sound h _ t) ?_
      obtain ⟨S, own, C, D, Ds, hr⟩ := hr
      have hg : Grows w { w with drawn := w.drawn + 1 } fun _ => False := ⟨rfl, rfl, rfl, Nat.le_refl _, fun _ _ _ => rfl⟩
      have := hr.quiet hJ hg (fun _ => False) (fun _ hb => hb.elim) (τ' := s.τ) (a' := a) rfl rfl fun hle i => (hr.tmps i).mono hle
      exact ⟨_, own, C, D, Ds, this⟩, fun l rest h => by cases h⟩
  | .seq x y, E, ro, hP, hJ, hY, hok, hn, Φ, s, a, w => by
    simp only [codeOk, Bool.and_eq_true] at hok
    have hnx : (E.fixed = false ∧ ro = none) ∨ codeOk.noRange x = true := hn.imp id fun h => by simp only [codeOk.noRange, Bool.and_eq_true] at h; exact h.1
    have hny : (E.fixed = false ∧ ro = none) ∨ codeOk.noRange y = true := hn.imp id fun h => by simp only [codeOk.noRange, Bool.and_eq_true] at h; exact h.2
    have then_ok : ∀ (z : Code) a w, z.wpIn (FW ro) 0 E.P (post E (thenK (awp P y Φ) Φ)) a w → (Code.seq z y).wpIn (FW ro) 0 E.P (post E Φ) a w := fun z a w hz => by
      refine wpIn_seq (wpIn_mono hz ?_)
      rintro e a' w' ⟨s', h', hr'⟩
      cases e with
      | normal => exact (code_sound y E ro hP hJ hY hok.2 hny Φ s' a' w').1 h' hr'
      | _ => exact ⟨s', h', hr'⟩
    refine ⟨fun h hr => then_ok x a w ((code_sound x E ro hP hJ hY hok.1 hnx _ s a w).1 h hr), fun l rest h => ?_⟩
    unfold findLabel at h
    show ∃ k, lookP (((awp2 P x).2.map fun p => (p.1, fun Φ s => p.2 (thenK ((awp2 P y).1 Φ) Φ) s)) ++ (awp2 P y).2) l = some k ∧ _
    rw [lookP_append, lookP_map (fun k Φ s => k (thenK ((awp2 P y).1 Φ) Φ) s)]
    cases hx : findLabel x l with
    | some r =>
      rw [hx] at h
      cases h
      obtain ⟨k, hk, hs⟩ := (code_sound x E ro hP hJ hY hok.1 hnx (thenK (awp P y Φ) Φ) s a w).2 l r hx
      exact ⟨_, by rw [hk]; rfl, fun h hr => then_ok r a w (hs h hr)⟩
    | none =>
      rw [hx] at h
      rw [labels_none x l hx]
      obtain ⟨k, hk, hs⟩ := (code_sound y E ro hP hJ hY hok.2 hny Φ s a w).2 l rest h
      exact ⟨k, by rw [hk]; rfl, hs⟩
  | .cond c x y, E, ro, hP, hJ, hY, hok, hn, Φ, s, a, w => ⟨fun h hr => by
      simp only [codeOk, Bool.and_eq_true] at hok
      have hnx : (E.fixed = false ∧ ro = none) ∨ codeOk.noRange x = true := hn.imp id fun h => by simp only [codeOk.noRange, Bool.and_eq_true] at h; exact h.1
      have hny : (E.fixed = false ∧ ro = none) ∨ codeOk.noRange y = true := hn.imp id fun h => by simp only [codeOk.noRange, Bool.and_eq_true] at h; exact h.2
      have hev : ∀ b, ev s.τ c = .bool b → a.eval c = .bool b := fun b hb => by
        obtain ⟨S, own, C, D, Ds, hr⟩ := hr
        have h1 := R_ev hr.tmps c
        rw [hb] at h1
        generalize a.eval c = z at h1
        cases h1; rfl
      rcases condW_inv h with ⟨hc, h⟩ | ⟨hc, h⟩
      · exact wpIn_cond_true (hev _ hc) ((code_sound x E ro hP hJ hY hok.1 hnx Φ s a w).1 h hr)
      · exact wpIn_cond_false (hev _ hc) ((code_sound y E ro hP hJ hY hok.2 hny Φ s a w).1 h hr), fun l rest h => by cases h⟩
  | .block id c, E, ro, hP, hJ, hY, hok, hn, Φ, s, a, w => ⟨fun h hr => by
      refine wpIn_block (wpIn_mono ((code_sound c E ro hP hJ hY hok hn _ s a w).1 h hr) ?_)
      rintro e a' w' ⟨s', h', hr'⟩
      cases e with
      | exit id' =>
        unfold blkK at h'
        unfold Exit.inBlock
        dsimp only at h' ⊢
        split
        · rename_i e
          rw [if_pos e] at h'
          exact ⟨s', h', hr'⟩
        · rename_i e
          rw [if_neg e] at h'
          exact ⟨s', h', hr'⟩
      | _ => exact ⟨s', h', hr'⟩, fun l rest h => by cases h⟩
  | .loop c, E, ro, hP, hJ, hY, hok, hn, Φ, s, a, w => ⟨fun h hr => by
      obtain ⟨I, k, s0, hle, hI, hbody⟩ := h
      have hex : ∀ a w, (∃ k s, I k s ∧ Rel E s a w) → ∃ k, (∃ s, I k s ∧ Rel E s a w) ∧ ∀ k', (∃ s, I k' s ∧ Rel E s a w) → k ≤ k' := fun a w ⟨k, hk⟩ => by
        induction k using Nat.strongRecOn with
        | _ k ih =>
          by_cases hm : ∃ k', k' < k ∧ ∃ s, I k' s ∧ Rel E s a w
          · obtain ⟨k', h1, h2⟩ := hm
            exact ih k' h1 h2
          · exact ⟨k, hk, fun k' hk' => Nat.le_of_not_lt fun hlt => hm ⟨k', hlt, hk'⟩⟩
      classical
      let μ : Act → World → Nat := fun a w => if h : ∃ k s, I k s ∧ Rel E s a w then Classical.choose (hex a w h) else 0
      have hμ : ∀ a w (h : ∃ k s, I k s ∧ Rel E s a w), (∃ s, I (μ a w) s ∧ Rel E s a w) ∧ ∀ k', (∃ s, I k' s ∧ Rel E s a w) → μ a w ≤ k' := fun a w h => by
        have : μ a w = Classical.choose (hex a w h) := dif_pos h
        rw [this]
        exact Classical.choose_spec (hex a w h)
      refine wpIn_loop (fun a w => ∃ k s, I k s ∧ Rel E s a w) μ ⟨k, s0, hI, hr.weaken hle⟩ fun a w hI => ?_
      obtain ⟨⟨s1, hI1, hr1⟩, hmin⟩ := hμ a w hI
      refine wpIn_mono ((code_sound c E ro hP hJ hY hok hn _ s1 a w).1 (hbody _ s1 hI1) hr1) ?_
      rintro e a' w' ⟨s', h', hr'⟩
      cases e with
      | normal =>
        obtain ⟨k', s'', hlt, hle', hI'⟩ := h'
        have hI2 : ∃ k s, I k s ∧ Rel E s a' w' := ⟨k', s'', hI', hr'.weaken hle'⟩
        exact ⟨hI2, Nat.lt_of_le_of_lt ((hμ a' w' hI2).2 k' ⟨s'', hI', hr'.weaken hle'⟩) hlt⟩
      | _ => exact ⟨s', h', hr'⟩, fun l rest h => by cases h⟩
  | .exit id, E, ro, hP, hJ, hY, hok, hn, Φ, s, a, w => ⟨fun h hr => wpIn_exit ⟨s, h, hr⟩, fun l rest h => by cases h⟩
  | .goto l', E, ro, hP, hJ, hY, hok, hn, Φ, s, a, w => ⟨fun h hr => wpIn_goto ⟨s, h, hr⟩, fun l rest h => by cases h⟩
  | .ret, E, ro, hP, hJ, hY, hok, hn, Φ, s, a, w => ⟨fun h hr => wpIn_ret ⟨s, h, hr⟩, fun l rest h => by cases h⟩
  | .refuse _, E, ro, hP, hJ, hY, hok, hn, Φ, s, a, w => ⟨fun h _ => h.elim, fun l rest h => by cases h⟩
  | .scope c, E, ro, hP, hJ, hY, hok, hn, Φ, s, a, w => ⟨fun h hr => by
      obtain ⟨I, hfirst, hpass⟩ := h
      refine wpIn_scope (fun l m a w => ∃ s, I l m s ∧ Rel E s a w) (wpIn_mono ((code_sound c E ro hP hJ hY hok hn _ s a w).1 hfirst hr) ?_) ?_
      · rintro e a' w' ⟨s', h', hr'⟩
        cases e with
        | goto l =>
          obtain ⟨m, s'', hle, hI⟩ := h'
          exact ⟨m, s'', hI, hr'.weaken hle⟩
        | _ => exact ⟨s', h', hr'⟩
      · rintro l m a w ⟨s, hI, hr⟩
        have h1 := hpass l m s hI
        obtain ⟨k, hk, h2⟩ := lookR_map (fun k J s => k (gotoK J Φ) s) _ h1
        cases hf : findLabel c l with
        | none => rw [labels_none c l hf] at hk; cases hk
        | some rest =>
          refine ⟨rest, rfl, ?_⟩
          obtain ⟨k', hk', hs⟩ := (code_sound c E ro hP hJ hY hok hn (gotoK (fun l' s' => ∃ m' s'', m' < m ∧ s'.le s'' ∧ I l' m' s'') Φ) s a w).2 l rest hf
          rw [hk] at hk'
          cases hk'
          refine wpIn_mono (hs h2 hr) ?_
          rintro e a' w' ⟨s', h', hr'⟩
          cases e with
          | goto l' =>
            obtain ⟨m', s'', hlt, hle, hI'⟩ := h'
            exact ⟨m', hlt, s'', hI', hr'.weaken hle⟩
          | _ => exact ⟨s', h', hr'⟩, fun l rest h => by cases h⟩
  | .rangeFunc f ps x y, E, ro, hP, hJ, hY, hok, hn, Φ, s, a, w => ⟨fun h hr => by
      simp only [codeOk, Bool.and_eq_true] at hok
      obtain ⟨hps, ⟨hx, hy⟩, hnx, hny⟩ := hok
      rcases hn with ⟨hE, rfl⟩ | hn
      case inr => cases hn
      subst hP
      have hsx : ∀ l, Sound E.P E.n E.J E.l (some l) x (awp E.P x) := fun l E' Φ s a w e1 e2 e3 e4 hY' h hr => by
        rw [← e1] at h
        exact (code_sound x E' (some l) rfl (by rw [e3]; exact hJ) hY' (by rw [e2]; exact hx) (.inr hnx) Φ s a w).1 h hr
      have hsy : ∀ l, Sound E.P E.n E.J E.l (some l) y (awp E.P y) := fun l E' Φ s a w e1 e2 e3 e4 hY' h hr => by
        rw [← e1] at h
        exact (code_sound y E' (some l) rfl (by rw [e3]; exact hJ) hY' (by rw [e2]; exact hy) (.inr hny) Φ s a w).1 h hr
      exact rangeFunc_sound hJ hY hE hsx hsy (fun p hp => by simpa using List.all_eq_true.1 hps p hp) h hr, fun l rest h => by cases h⟩

theorem awp_sound {E : Env} (hJ : JOk E.J) (hY : YOk E.P E.J E.l E.T) (hE : E.fixed = false) (c : Code) (Φ : Exit → St → Prop) (s : St) (a : Act) (w : World) (hok : codeOk E.n c = true) (h : awp E.P c Φ s) (hr : Rel E s a w) : c.wpIn (FW none) 0 E.P (post E Φ) a w :=
  (code_sound c E none rfl hJ hY hok (.inl ⟨hE, rfl⟩) Φ s a w).1 h hr

end Go.Am
