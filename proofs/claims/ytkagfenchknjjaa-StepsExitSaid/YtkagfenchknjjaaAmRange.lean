import Derived.Test.YtkagfenchknjjaaAmOne
set_option linter.unusedVariables false
set_option linter.unusedSimpArgs false
namespace Go.Am
open Go.RowKit

/-! ### A range over a function: the consumer -/
section
variable {E : Env} {s : St} {a : Act} {w : World} {S : Nat → Prop} {own : Nat → Option Nat} {C D : Nat → Prop} {Ds : List Nat}

/-- What a relation hangs on. -/
def Hang (E : Env) (s : St) (S : Nat → Prop) (own : Nat → Option Nat) (D : Nat → Prop) (Ds : List Nat) (b : Nat) : Prop :=
  b < E.w0.heap.size ∨ S b ∨ (∃ k, LiveAt s own k b) ∨ D b ∨ b ∈ Ds

theorem RelAt.abideLe (h : RelAt E s a w S own C D Ds) {w' : World} (same : ∀ b, Hang E s S own D Ds b → w'.heap[b]? = w.heap[b]?) : (ctx E s w S own).le (ctx E s w' S own) :=
  ⟨fun b hb => ⟨hb, same b (.inr (.inl hb))⟩, fun k blk hk => ⟨blk, hk, Nat.le_refl _, fun _ r v hr => hr.same fun g e hl => same g (.inr (.inr (.inl ⟨k, blk, hk, hl, e⟩)))⟩, rfl⟩
/-- A relation abides whatever leaves what it hangs on. -/
theorem RelAt.abide (h : RelAt E s a w S own C D Ds) (hJ : JOk E.J) {w' : World} (same : ∀ b, Hang E s S own D Ds b → w'.heap[b]? = w.heap[b]?) (hsz : w.heap.size ≤ w'.heap.size)
    (ho : w'.os = w.os) (ht : w'.tape = w.tape) (hp : w'.output = w.output) : RelAt E s a w' S own C D Ds := by
  have hle := h.abideLe same
  exact {
    fr := ⟨ho.trans h.fr.os, ht.trans h.fr.tape, hp.trans h.fr.output, Nat.le_trans h.fr.size hsz, fun b hb hx => (same b (.inl hb)).trans (h.fr.block b hb hx)⟩
    hS := fun b hb => ⟨Nat.lt_of_lt_of_le (h.hS b hb).1 hsz, (h.hS b hb).2⟩
    hS0 := h.hS0
    hC := h.hC
    hD := fun b hb => Nat.lt_of_lt_of_le (h.hD b hb) hsz
    j := hJ _ _ _ _ _ h.j (fun b hb => same b (.inr (.inr (.inr (.inl hb))))) hsz ho ht hp
    hown := fun k blk g hk hl e => ⟨Nat.lt_of_lt_of_le (h.hown k blk g hk hl e).1 hsz, (h.hown k blk g hk hl e).2⟩
    inj := h.inj
    heap := fun k blk hk => (h.heap k blk hk).mono hle fun g e hl => same g (.inr (.inr (.inl ⟨k, blk, hk, hl, e⟩)))
    tmps := fun i => (h.tmps i).mono hle
    size := h.size
    defers := h.defers
    hDs := fun d hd => ⟨(same d (.inr (.inr (.inr (.inr hd))))).trans (h.hDs d hd).1, (h.hDs d hd).2⟩
    nodup := h.nodup
    le := h.le.trans hle
    cd := h.cd
    fix := h.fix }

/-- A block that is no cells' is nobody's own. -/
theorem RelAt.notLive (h : RelAt E s a w S own C D Ds) {b : Nat} {o : Obj} (hb : w.heap[b]? = some o) (ho : ∀ cs t fr, o ≠ .cells cs t fr) (ho2 : (∃ x, o = .deferred x) ∨ ∃ x, o = .loop x) : ¬ ∃ k, LiveAt s own k b := by
  rintro ⟨k, blk, hk, hl, e⟩
  have hh := h.heap k blk hk
  rw [e] at hh
  cases blk <;> first | (simp [Blk.live] at hl; done) | skip
  · obtain ⟨cs, hcs, _⟩ := hh
    have hcs : w.heap[b]? = _ := hcs
    rw [hb] at hcs; exact ho _ _ _ (Option.some.inj hcs)
  · obtain ⟨cs, cap, hcs, _⟩ := hh
    have hcs : w.heap[b]? = _ := hcs
    rw [hb] at hcs; exact ho _ _ _ (Option.some.inj hcs)
  · obtain ⟨o', hcs, hob⟩ := hh
    have hcs : w.heap[b]? = _ := hcs
    rw [hb] at hcs
    cases hcs
    rcases ho2 with ⟨x, rfl⟩ | ⟨x, rfl⟩
    · exact hob.not.2.1 _ rfl
    · exact hob.not.2.2 _ rfl

/-- The environment of a round. -/
def rEnv (E : Env) (s : St) (w : World) (S1 : Nat → Prop) (own : Nat → Option Nat) (C D : Nat → Prop) : Env :=
  ⟨E.P, E.n, w, S1, fun b => (∃ k, LiveAt s own k b) ∨ C b, E.J, E.l, ⟨s.H, own, S1, w, E.l⟩, C, D, true⟩

theorem RelAt.round (h : RelAt E s a w S own C D Ds) {S1 : Nat → Prop} (hS : ∀ b, S b → S1 b) (hS1 : ∀ b, S1 b → b < w.heap.size ∧ ¬ C b ∧ ¬ ∃ k, LiveAt s own k b) {τ : Nat → AV} {tmps : Array Value} (hsz : tmps.size = E.n)
    (ht : ∀ i, R ⟨s.H, own, S1, w, E.l⟩ (τ i) (tmps.getD i undef)) : RelAt (rEnv E s w S1 own C D) ⟨τ, s.H, s.g⟩ { tmps := tmps, defers := [] } w S1 own C D [] := by
  have hle : (ctx E s w S own).le ⟨s.H, own, S1, w, E.l⟩ := ⟨fun b hb => ⟨hS b hb, rfl⟩, fun k blk hk => ⟨blk, hk, Nat.le_refl _, fun _ r v hr => hr⟩, rfl⟩
  exact {
    fr := ⟨rfl, rfl, rfl, Nat.le_refl _, fun _ _ _ => rfl⟩
    hS := fun b hb => ⟨(hS1 b hb).1, (hS1 b hb).2.1, .inl hb⟩
    hS0 := fun b hb => hb
    hC := fun b hb => ⟨(h.hC b hb).1, .inl (.inr hb)⟩
    hD := h.hD
    j := h.j
    hown := fun k blk g hk hl e => ⟨(h.hown k blk g hk hl e).1, fun hs => (hS1 g hs).2.2 ⟨k, blk, hk, hl, e⟩, (h.hown k blk g hk hl e).2.2.1, .inl (.inl ⟨k, blk, hk, hl, e⟩)⟩
    inj := h.inj
    heap := fun k blk hk => (h.heap k blk hk).mono hle fun _ _ _ => rfl
    tmps := ht
    size := hsz
    defers := rfl
    hDs := fun d hd => by simp at hd
    nodup := List.nodup_nil
    le := .refl _
    cd := ⟨fun b hb => hb, fun b hb => .inl hb, fun b hb => hb, fun b hb => .inl hb⟩
    fix := fun _ => rfl }

theorem RelAt.rebase (h : RelAt E s a w S own C D Ds) {S1 : Nat → Prop} (hS : ∀ b, S b → S1 b) (hS1 : ∀ b, S1 b → E.T b ∧ b ∉ Ds) {s2 : St} {a2 : Act} {w2 : World} {S2 : Nat → Prop} {own2 : Nat → Option Nat} {C2 D2 : Nat → Prop}
    (h2 : RelAt (rEnv E s w S1 own C D) s2 a2 w2 S2 own2 C2 D2 []) : RelAt E ⟨s.τ, s2.H, s2.g⟩ a w2 S2 own2 C2 D2 Ds ∧ (ctx E s w S own).le ⟨s2.H, own2, S2, w2, E.l⟩ := by
  have hle : (ctx E s w S own).le ⟨s2.H, own2, S2, w2, E.l⟩ := by
    refine Ctx.le.trans (B := ⟨s.H, own, S1, w, E.l⟩) ?_ h2.le
    exact ⟨fun b hb => ⟨hS b hb, rfl⟩, fun k blk hk => ⟨blk, hk, Nat.le_refl _, fun _ r v hr => hr⟩, rfl⟩
  have hX : ∀ b, ((∃ k, LiveAt s own k b) ∨ C b) → E.X0 b ∨ E.w0.heap.size ≤ b := fun b hb => by
    rcases hb with ⟨k, blk, hk, hl, e⟩ | hb
    · exact (h.hown k blk b hk hl e).2.2.2
    · exact (h.hC b hb).2
  have hw0 := h.fr.size
  have hsz : w.heap.size ≤ w2.heap.size := h2.fr.size
  have hDs1 : ∀ d ∈ Ds, d < w.heap.size ∧ ¬ ((∃ k, LiveAt s own k d) ∨ C d) := fun d hd => by
    obtain ⟨g1, g2, g3, g4⟩ := h.hDs d hd
    refine ⟨(Array.getElem?_eq_some_iff.1 g1).1, fun hx => ?_⟩
    rcases hx with hx | hx
    · exact h.notLive g1 (fun _ _ _ e => by cases e) (.inl ⟨_, rfl⟩) hx
    · exact g4 (h.hC d hx).1
  refine ⟨?_, hle⟩
  exact {
    fr := ⟨h2.fr.os.trans h.fr.os, h2.fr.tape.trans h.fr.tape, h2.fr.output.trans h.fr.output, Nat.le_trans hw0 hsz, fun b hb hx => (h2.fr.block b (Nat.lt_of_lt_of_le hb hw0) fun hy => (hX b hy).elim hx fun h => by omega).trans (h.fr.block b hb hx)⟩
    hS := fun b hb => by
      obtain ⟨q1, q2, q3⟩ := h2.hS b hb
      refine ⟨q1, q2, ?_⟩
      rcases q3 with q3 | q3 | q3
      · exact (hS1 b q3).1
      · exact .inr (hX b q3)
      · have q3 : w.heap.size ≤ b := q3
        exact .inr (.inr (by omega))
    hS0 := fun b hb => h2.hS0 b (hS b (h.hS0 b hb))
    hC := fun b hb => by
      refine ⟨(h2.hC b hb).1, ?_⟩
      rcases h2.cd.c1 b hb with q | q
      · exact (h.hC b q).2
      · have q : w.heap.size ≤ b := q
        exact .inr (by omega)
    hD := h2.hD
    j := h2.j
    hown := fun k blk g hk hl e => by
      obtain ⟨q1, q2, q3, q4⟩ := h2.hown k blk g hk hl e
      refine ⟨q1, q2, q3, ?_⟩
      rcases q4 with q4 | q4
      · exact hX g q4
      · have q4 : w.heap.size ≤ g := q4
        exact .inr (by omega)
    inj := h2.inj
    heap := h2.heap
    tmps := fun i => (h.tmps i).mono hle
    size := h.size
    defers := h.defers
    hDs := fun d hd => by
      obtain ⟨g1, g2, g3, g4⟩ := h.hDs d hd
      obtain ⟨q1, q2⟩ := hDs1 d hd
      refine ⟨(h2.fr.block d q1 q2).trans g1, g2, fun hs => ?_, fun hdd => ?_⟩
      · rcases (h2.hS d hs).2.2 with q | q | q
        · exact (hS1 d q).2 hd
        · exact q2 q
        · have q : w.heap.size ≤ d := q
          omega
      · rcases h2.cd.d1 d hdd with q | q | q | q
        · exact g4 q
        · exact (hS1 d q).2 hd
        · exact q2 q
        · have q : w.heap.size ≤ d := q
          omega
    nodup := h.nodup
    le := h.le.trans hle
    cd := by
      refine ⟨fun b hb => h2.cd.c0 b (h.cd.c0 b hb), fun b hb => ?_, fun b hb => h2.cd.d0 b (h.cd.d0 b hb), fun b hb => ?_⟩
      · rcases h2.cd.c1 b hb with q | q
        · exact h.cd.c1 b q
        · have q : w.heap.size ≤ b := q
          exact .inr (by omega)
      · rcases h2.cd.d1 b hb with q | q | q | q
        · exact h.cd.d1 b q
        · exact .inr (hS1 b q).1
        · exact .inr (.inr (hX b q))
        · have q : w.heap.size ≤ b := q
          exact .inr (.inr (.inr (by omega)))
    fix := h.fix }

/-- A mark is laid. -/
theorem RelAt.pushMark (h : RelAt E s a w S own C D Ds) (hE : E.fixed = false) {d : Nat} (hd : w.heap[d]? = some (.deferred (some []))) (h0 : E.w0.heap.size ≤ d) (h1 : ¬ S d) (h2 : ¬ D d) (h3 : d ∉ Ds) :
    RelAt E s { a with defers := { target := .collected d, args := #[] } :: a.defers } w S own C D (d :: Ds) :=
  { h with
    tmps := h.tmps
    size := h.size
    defers := by simp [h.defers]
    hDs := fun d' hd' => by
      rcases List.mem_cons.1 hd' with rfl | hd'
      · exact ⟨hd, h0, h1, h2⟩
      · exact h.hDs d' hd'
    nodup := List.nodup_cons.2 ⟨h3, h.nodup⟩
    fix := fun e => by rw [hE] at e; cases e }
end

/-! ### The rounds -/
def setP (τ : Nat → AV) : List Nat → List AV → (Nat → AV)
  | p :: ps, x :: xs => setP (upd τ p x) ps xs
  | _, _ => τ
def hle (H H' : Heap) : Prop := ∀ k, H' k = H k ∨ ∃ v, H' k = some (.dead v) ∧ ∀ b, H k = some b → b.ver ≤ v
/-- A round's end. -/
def roundK (Φ : Exit → St → Prop) (τ : Nat → AV) (g : G) (I : Heap → Prop) : Exit → St → Prop
  | .normal, s => s.g = g ∧ ∃ H', hle s.H H' ∧ I H'
  | .ret, s => s.g = g ∧ Φ .ret ⟨τ, s.H, g⟩
  | .exit id, s => s.g = g ∧ Φ (.exit id) ⟨τ, s.H, g⟩
  | .goto l, s => s.g = g ∧ Φ (.goto l) ⟨τ, s.H, g⟩
  | _, _ => False
def jumpOf : Exit → Option Code
  | .ret => some .ret
  | .exit id => some (.exit id)
  | .goto l => some (.goto l)
  | _ => none
/-! ### Less is known -/
/-- s' knows no more than s. -/
structure St.le (s s' : St) : Prop where
  τ : ∀ i, s'.τ i = s.τ i ∨ s'.τ i = .any
  H : ∀ k, s'.H k = s.H k ∨ (∃ v, s'.H k = some (.dead v) ∧ ∀ b, s.H k = some b → b.ver ≤ v)
  g : s'.g = s.g
theorem St.le.refl (s : St) : s.le s := ⟨fun _ => .inl rfl, fun _ => .inl rfl, rfl⟩

theorem Rel.weakenAt {E : Env} {s s' : St} {a : Act} {w : World} {S : Nat → Prop} {own : Nat → Option Nat} {C D : Nat → Prop} {Ds : List Nat} (h : RelAt E s a w S own C D Ds) (hle : s.le s') :
    RelAt E s' a w S own C D Ds ∧ (ctx E s w S own).le (ctx E s' w S own) := by
  have hc : (ctx E s w S own).le (ctx E s' w S own) := by
    refine ⟨fun b hb => ⟨hb, rfl⟩, fun k blk hk => ?_, rfl⟩
    rcases hle.H k with e | ⟨v, e, hv⟩
    · exact ⟨blk, e.trans hk, Nat.le_refl _, fun _ r u hu => hu⟩
    · exact ⟨.dead v, e, hv blk hk, fun _ r u hu => by
        show RefVal w (own k) (.dead v) r u
        cases own k <;> exact trivial⟩
  have hlive : ∀ k blk, s'.H k = some blk → blk.live = true → s.H k = some blk := fun k blk hk hl => by
    rcases hle.H k with e | ⟨v, e, hv⟩
    · exact e.symm.trans hk
    · rw [e] at hk; cases hk; cases hl
  exact ⟨{
    fr := h.fr
    hS := h.hS
    hS0 := h.hS0
    hC := h.hC
    hD := h.hD
    j := hle.g ▸ h.j
    hown := fun k blk g hk hl e => h.hown k blk g (hlive k blk hk hl) hl e
    inj := fun k k' b b' g hk hk' hl hl' e e' => h.inj k k' b b' g (hlive k b hk hl) (hlive k' b' hk' hl') hl hl' e e'
    heap := fun k blk hk => by
      rcases hle.H k with e | ⟨v, e, hv⟩
      · exact (h.heap k blk (e.symm.trans hk)).mono hc fun _ _ _ => rfl
      · have hk' : s'.H k = some blk := hk
        rw [e] at hk'
        cases hk'
        cases own k <;> exact trivial
    tmps := fun i => by
      rcases hle.τ i with e | e
      · rw [e]; exact (h.tmps i).mono hc
      · rw [e]; exact .any _
    size := h.size
    defers := h.defers
    hDs := h.hDs
    nodup := h.nodup
    le := h.le.trans hc
    cd := h.cd
    fix := h.fix }, hc⟩
theorem Rel.weaken {E : Env} {s s' : St} {a : Act} {w : World} (h : Rel E s a w) (hle : s.le s') : Rel E s' a w := by
  obtain ⟨S, own, C, D, Ds, h⟩ := h
  exact ⟨S, own, C, D, Ds, (Rel.weakenAt h hle).1⟩

theorem Rel.weakenAt0 {E : Env} {τ : Nat → AV} {H H' : Heap} {g g' : G} {a : Act} {w : World} {S : Nat → Prop} {own : Nat → Option Nat} {C D : Nat → Prop} {Ds : List Nat} (h : RelAt E ⟨τ, H, g⟩ a w S own C D Ds) (hle : hle H H') (hg : g = g') :
    RelAt E ⟨τ, H', g'⟩ a w S own C D Ds := by
  subst hg
  exact (Rel.weakenAt h (s' := ⟨τ, H', g⟩) ⟨fun _ => .inl rfl, hle, rfl⟩).1

/-- What the consumer asks: xs are yielded; I: the heap, by what is still to come. -/
def cRange (P : Program) (f : AV) (ps : List Nat) (B : (Exit → St → Prop) → St → Prop) (Φ : Exit → St → Prop) (s : St) : Prop := match f with
  | .func fid caps => ∃ (xs : List (List AV)) (rt rf : AV) (I : List (List AV) → Heap → Prop) (H0 : Heap), closedL caps = true ∧ SpecY P fid (.yld :: caps) xs rt rf ∧ hle s.H H0 ∧ I xs H0 ∧
      (∀ args rest H, I (args :: rest) H → args.length = ps.length ∧ B (roundK Φ s.τ s.g (I rest)) ⟨setP s.τ ps args, H, s.g⟩) ∧ ∀ H, I [] H → Φ .normal ⟨s.τ, H, s.g⟩
  | _ => False
@[congr] theorem cRange_congr {P : Program} {f f' : AV} {ps : List Nat} {B : (Exit → St → Prop) → St → Prop} {Φ : Exit → St → Prop} {s s' : St} (h : f = f') (h2 : s = s') : cRange P f ps B Φ s = cRange P f' ps B Φ s' := by rw [h, h2]

section
variable {E : Env}

theorem R_setP {C : Ctx} {n : Nat} : ∀ (ps : List Nat) (xs : List AV) (vs : List Value) (τ : Nat → AV) (tmps : Array Value), (∀ p ∈ ps, p < n) → xs.length = ps.length → vs.length = xs.length → tmps.size = n → (∀ i, R C (τ i) (tmps.getD i undef)) →
    (∀ (i : Nat) (x : AV), xs[i]? = some x → R C x (vs.getD i undef)) →
    ((ps.zip vs).foldl (fun t (p, v) => t.setIfInBounds p v) tmps).size = n ∧ ∀ i, R C (setP τ ps xs i) (((ps.zip vs).foldl (fun t (p, v) => t.setIfInBounds p v) tmps).getD i undef)
  | [], [], [], τ, tmps, _, _, _, hn, h, _ => ⟨hn, h⟩
  | p :: ps, x :: xs, v :: vs, τ, tmps, hp, h1, h2, hn, h, hx => by
    refine R_setP ps xs vs (upd τ p x) (tmps.setIfInBounds p v) (fun q hq => hp q (by simp [hq])) (by simpa using h1) (by simpa using h2) (by simpa using hn) (fun i => ?_) fun i y hy => by simpa using hx (i + 1) y (by simpa using hy)
    have hpn := hp p (by simp)
    by_cases e : i = p
    · subst e
      rw [upd_same]
      have := hx 0 x (by simp)
      simpa [Array.getD_eq_getD_getElem?, hn, hpn] using this
    · rw [upd_other _ _ _ _ e]
      have := h i
      simpa [Array.getD_eq_getD_getElem?, Array.getElem?_setIfInBounds_ne (Ne.symm e)] using this
  | [], _ :: _, _, _, _, _, h, _, _, _, _ => by simp at h
  | _ :: _, [], _, _, _, _, h, _, _, _, _ => by simp at h
  | [], [], _ :: _, _, _, _, _, h, _, _, _ => by simp at h
  | _ :: _, _ :: _, [], _, _, _, _, h, _, _, _ => by simp at h

/-- The record of a loop. -/
def recOf (fn : FuncId) (tmps : Array Value) (ps : Array Tmp) (assign body : Code) (d : Nat) (st : LoopState) (pe : Option Code) : Loop :=
  { state := st, pending := pe, fn, tmps, params := ps, assign, body, defers := d }

/-- The consumer's word. -/
def consJ (E : Env) (τ : Nat → AV) (g : G) (a : Act) (l : Nat) (rec : LoopState → Option Code → Loop) (I : List (List AV) → Heap → Prop) (Φ : Exit → St → Prop) : G → (Nat → Prop) → (Nat → Prop) → World → Prop := fun gi C D w =>
  ∃ H S own Cc Dc Ds, RelAt E ⟨τ, H, g⟩ a w S own Cc Dc Ds ∧ (∀ b, (b = l ∨ Cc b ∨ b ∈ Ds ∨ ∃ k, LiveAt ⟨τ, H, g⟩ own k b) → C b) ∧ (∀ b, Hang E ⟨τ, H, g⟩ S own Dc Ds b → D b) ∧
    E.w0.heap.size ≤ l ∧ ¬ S l ∧ ¬ Dc l ∧ l ∉ Ds ∧ D l ∧
    ((gi.stop = false ∧ w.heap[l]? = some (.loop (rec .ready none)) ∧ I gi.todo H) ∨ (gi.stop = true ∧ ∃ e c, jumpOf e = some c ∧ w.heap[l]? = some (.loop (rec .done (some c))) ∧ Φ e ⟨τ, H, g⟩))

theorem consJ_ok (hJ : JOk E.J) {τ : Nat → AV} {g : G} {a : Act} {l : Nat} {rec : LoopState → Option Code → Loop} {I : List (List AV) → Heap → Prop} {Φ : Exit → St → Prop} : JOk (consJ E τ g a l rec I Φ) := by
  rintro gi C D w w' ⟨H, S, own, Cc, Dc, Ds, h, hC, hD, h0, h1, h2, h3, hDl, hg⟩ same hsz ho ht hp
  refine ⟨H, S, own, Cc, Dc, Ds, h.abide hJ (fun b hb => same b (hD b hb)) hsz ho ht hp, hC, hD, h0, h1, h2, h3, hDl, ?_⟩
  rw [same l hDl]
  exact hg

abbrev thenK (k : St → Prop) (Φ : Exit → St → Prop) : Exit → St → Prop
  | .normal, s => k s
  | e, s => Φ e s
/-- What the walk of the machine is asked. -/
def post (E : Env) (Φ : Exit → St → Prop) : Exit → Act → World → Prop := fun e a w => ∃ s, Φ e s ∧ Rel E s a w
/-- The walk of a piece of code is sound. -/
def Sound (P : Program) (n : Nat) (J : G → (Nat → Prop) → (Nat → Prop) → World → Prop) (l : Nat) (ro : Option Nat) (c : Code) (ic : (Exit → St → Prop) → St → Prop) : Prop :=
  ∀ (E : Env) (Φ : Exit → St → Prop) (s : St) (a : Act) (w : World), E.P = P → E.n = n → E.J = J → E.l = l → YOk E.P E.J E.l E.T → ic Φ s → Rel E s a w → c.wpIn (FW ro) 0 E.P (post E Φ) a w

theorem RelAt.hang_lt {s : St} {a : Act} {w : World} {S : Nat → Prop} {own : Nat → Option Nat} {C D : Nat → Prop} {Ds : List Nat} (h : RelAt E s a w S own C D Ds) {b : Nat} (hb : Hang E s S own D Ds b) : b < w.heap.size := by
  rcases hb with hb | hb | ⟨k, blk, hk, hl, e⟩ | hb | hb
  · exact Nat.lt_of_lt_of_le hb h.fr.size
  · exact (h.hS b hb).1
  · exact (h.hown k blk b hk hl e).1
  · exact h.hD b hb
  · exact (Array.getElem?_eq_some_iff.1 (h.hDs b hb).1).1
/-- A loop's record turns: nothing hangs on it. -/
theorem RelAt.putRec {s : St} {a : Act} {w : World} {S : Nat → Prop} {own : Nat → Option Nat} {C D : Nat → Prop} {Ds : List Nat} (h : RelAt E s a w S own C D Ds) (hJ : JOk E.J) {l : Nat} {r : Loop} (hl : w.heap[l]? = some (.loop r))
    (h0 : E.w0.heap.size ≤ l) (h1 : ¬ S l) (h2 : ¬ D l) (h3 : l ∉ Ds) (o : Obj) : RelAt E s a (w.putObj l o) S own C D Ds ∧ (ctx E s w S own).le (ctx E s (w.putObj l o) S own) := by
  have hne : ∀ b, Hang E s S own D Ds b → (w.putObj l o).heap[b]? = w.heap[b]? := fun b hb => World.putObj_heap_other fun e => by
    subst e
    rcases hb with hb | hb | hb | hb | hb
    · omega
    · exact h1 hb
    · exact h.notLive hl (fun _ _ _ e => by cases e) (.inr ⟨_, rfl⟩) hb
    · exact h2 hb
    · exact h3 hb
  exact ⟨h.abide hJ hne (Nat.le_of_eq World.putObj_size.symm) rfl rfl rfl, h.abideLe hne⟩

theorem consJ_yok (hJ : JOk E.J) (hY : YOk E.P E.J E.l E.T) {τ : Nat → AV} {g : G} {a : Act} {l d : Nat} {fn : FuncId} {ps : Array Tmp} {assign body : Code} {I : List (List AV) → Heap → Prop} {Φ : Exit → St → Prop}
    {ia ib : (Exit → St → Prop) → St → Prop} (ha : Sound E.P E.n E.J E.l (some l) assign ia) (hb : Sound E.P E.n E.J E.l (some l) body ib) (hps : ∀ p ∈ ps.toList, p < E.n)
    (hr : ∀ args rest H, I (args :: rest) H → args.length = ps.toList.length ∧ ia (thenK (ib (roundK Φ τ g (I rest))) fun _ _ => False) ⟨setP τ ps.toList args, H, g⟩) :
    YOk E.P (consJ E τ g a l (recOf fn a.tmps ps assign body d) I Φ) l E.T := by
  rintro args rest C D w S vs ⟨H, Sc, own, Cc, Dc, Ds, h, hC, hD, h0, h1, h2, h3, hDl, hg⟩ hCD hDlt hS hcl hRL
  rcases hg with ⟨_, hrec, hI⟩ | ⟨hst, _⟩
  case inr => cases hst
  obtain ⟨hlen, hwalk⟩ := hr args rest H hI
  have hvl : vs.length = args.length := hRL.1
  refine ⟨fn, _, assign, body, run_yield hrec (by simp [hvl, hlen, recOf]), ?_⟩
  have htm : ((recOf fn a.tmps ps assign body d .ready none).params.zip vs.toArray).foldl (fun tmps (t, a) => tmps.setIfInBounds t a) (recOf fn a.tmps ps assign body d .ready none).tmps = (ps.toList.zip vs).foldl (fun t (p, v) => t.setIfInBounds p v) a.tmps := by
    show (ps.zip vs.toArray).foldl _ a.tmps = _
    rw [← Array.foldl_toList, Array.toList_zip]
  rw [htm]
  -- what is immutable
  have hS1 : ∀ b, (Sc b ∨ S b) → b < w.heap.size ∧ ¬ Cc b ∧ ¬ ∃ k, LiveAt (⟨τ, H, g⟩ : St) own k b := fun b hb => by
    rcases hb with hb | hb
    · exact ⟨(h.hS b hb).1, (h.hS b hb).2.1, fun ⟨k, blk, hk, hl, e⟩ => (h.hown k blk b hk hl e).2.1 hb⟩
    · exact ⟨(hS b hb).1, fun hc => (hS b hb).2.1 (hC b (.inr (.inl hc))), fun hl => (hS b hb).2.1 (hC b (.inr (.inr (.inr hl))))⟩
  have hS1T : ∀ b, (Sc b ∨ S b) → E.T b ∧ b ∉ Ds := fun b hb => by
    rcases hb with hb | hb
    · exact ⟨(h.hS b hb).2.2, fun hd => (h.hDs b hd).2.2.1 hb⟩
    · exact ⟨(hS b hb).2.2, fun hd => (hS b hb).2.1 (hC b (.inr (.inr (.inl hd))))⟩
  have hlS : ¬ (Sc l ∨ S l) := fun hb => hb.elim h1 fun hb => (hS l hb).2.1 (hC l (.inl rfl))
  have hc1 : (ctx E ⟨τ, H, g⟩ w Sc own).le ⟨H, own, fun b => Sc b ∨ S b, w, E.l⟩ := ⟨fun b hb => ⟨.inl hb, rfl⟩, fun k blk hk => ⟨blk, hk, Nat.le_refl _, fun _ r v hr => hr⟩, rfl⟩
  obtain ⟨hsz1, htmps⟩ := R_setP (C := ⟨H, own, fun b => Sc b ∨ S b, w, E.l⟩) ps.toList args vs τ a.tmps hps hlen hvl h.size (fun i => (h.tmps i).mono hc1) fun i x hx => by
    have hx1 := (hRL.2 i x hx).bare E.l (closedL_get hcl hx)
    exact hx1.of_bare _ rfl (fun b hb => .inr hb) rfl
  have hr1 := h.round (S1 := fun b => Sc b ∨ S b) (fun b hb => .inl hb) hS1 hsz1 htmps
  have hTr : ∀ b, (rEnv E ⟨τ, H, g⟩ w (fun b => Sc b ∨ S b) own Cc Dc).T b → E.T b := fun b hb => by
    rcases hb with hb | hb | hb
    · exact (hS1T b hb).1
    · rcases hb with ⟨k, blk, hk, hl, e⟩ | hb
      · exact .inr (h.hown k blk b hk hl e).2.2.2
      · exact .inr (h.hC b hb).2
    · have hb : w.heap.size ≤ b := hb
      have := h.fr.size
      exact .inr (.inr (by omega))
  have hlw : l < w.heap.size := (Array.getElem?_eq_some_iff.1 hrec).1
  have hlX : ¬ ((∃ k, LiveAt (⟨τ, H, g⟩ : St) own k l) ∨ Cc l) := fun hx => hx.elim (h.notLive hrec (fun _ _ _ e => by cases e) (.inr ⟨_, rfl⟩)) fun hc => h2 (h.hC l hc).1
  refine roundIn_of_wpIn trivial ?_
  refine wpIn_mono (ha (rEnv E ⟨τ, H, g⟩ w (fun b => Sc b ∨ S b) own Cc Dc) _ _ _ w rfl rfl rfl rfl (hY.mono hTr) hwalk ⟨_, own, Cc, Dc, [], hr1⟩) ?_
  rintro e a1 w1 ⟨s1, hk1, S1, own1, C1, D1, Ds1, hr2⟩
  cases e with
  | normal =>
    have hDs1 : Ds1 = [] := hr2.fix rfl
    subst hDs1
    obtain ⟨hb1, hle1⟩ := h.rebase (fun b hb => .inl hb) hS1T hr2
    have hrec1 : w1.heap[l]? = some (.loop (recOf fn a.tmps ps assign body d .ready none)) := (hr2.fr.block l hlw hlX).trans hrec
    have hlS1 : ¬ S1 l := fun hs => by
      rcases (hr2.hS l hs).2.2 with q | q | q
      · exact hlS q
      · exact hlX q
      · have q : w.heap.size ≤ l := q
        omega
    have hlD1 : ¬ D1 l := fun hd => by
      rcases hr2.cd.d1 l hd with q | q | q | q
      · exact h2 q
      · exact hlS q
      · exact hlX q
      · have q : w.heap.size ≤ l := q
        omega
    have hD1 : ∀ b, D1 b → b < w1.heap.size := hr2.hD
    obtain ⟨hb2, hle2⟩ := hb1.putRec hJ hrec1 h0 hlS1 hlD1 h3 (.loop (recOf fn a.tmps ps assign body d .busy none))
    refine ⟨w1.putObj l (.loop (recOf fn a.tmps ps assign body d .busy none)), run_beginRound hrec1 rfl, ?_⟩
    obtain ⟨w2, hw2⟩ : ∃ w2, w2 = w1.putObj l (.loop (recOf fn a.tmps ps assign body d .busy none)) := ⟨_, rfl⟩
    rw [← hw2] at hb2 hle2 ⊢
    have hrec2 : w2.heap[l]? = some (.loop (recOf fn a.tmps ps assign body d .busy none)) := by rw [hw2]; exact World.putObj_heap_same (Array.getElem?_eq_some_iff.1 hrec1).1
    have hlw2 : l < w2.heap.size := (Array.getElem?_eq_some_iff.1 hrec2).1
    have hr3 := hb2.round (S1 := S1) (fun b hb => hb) (fun b hb => ⟨(hb2.hS b hb).1, (hb2.hS b hb).2.1, fun ⟨k, blk, hk, hl, e⟩ => (hb2.hown k blk b hk hl e).2.1 hb⟩) (τ := s1.τ) (tmps := a1.tmps) hr2.size (fun i => by
      have := hr2.tmps i
      exact R.mono (C := ctx E s1 w1 S1 own1) hle2 this)
    have hae : a1 = { tmps := a1.tmps, defers := [] } := by
      have := hr2.defers
      cases a1
      simp at this
      subst this
      rfl
    rw [← hae] at hr3
    have hlX2 : ¬ ((∃ k, LiveAt (⟨τ, s1.H, s1.g⟩ : St) own1 k l) ∨ C1 l) := fun hx => hx.elim (hb2.notLive hrec2 (fun _ _ _ e => by cases e) (.inr ⟨_, rfl⟩)) fun hc => hlD1 (hb2.hC l hc).1
    have hTr2 : ∀ b, (rEnv E ⟨τ, s1.H, s1.g⟩ w2 S1 own1 C1 D1).T b → E.T b := fun b hb => by
      rcases hb with hb | hb | hb
      · exact (hb2.hS b hb).2.2
      · rcases hb with ⟨k, blk, hk, hl, e⟩ | hb
        · exact .inr (hb2.hown k blk b hk hl e).2.2.2
        · exact .inr (hb2.hC b hb).2
      · have hb : w2.heap.size ≤ b := hb
        have := hb2.fr.size
        exact .inr (.inr (by omega))
    refine wpIn_mono (hb (rEnv E ⟨τ, s1.H, s1.g⟩ w2 S1 own1 C1 D1) _ s1 a1 w2 rfl rfl rfl rfl (hY.mono hTr2) hk1 ⟨_, own1, C1, D1, [], hr3⟩) ?_
    rintro e a3 w3 ⟨s3, hk3, S3, own3, C3, D3, Ds3, hr4⟩
    have hDs3 : Ds3 = [] := hr4.fix rfl
    subst hDs3
    obtain ⟨hb3, hle3⟩ := hb2.rebase (fun b hb => hb) (fun b hb => ⟨(hb2.hS b hb).2.2, fun hd => (hb2.hDs b hd).2.2.1 hb⟩) hr4
    have hrec3 : w3.heap[l]? = some (.loop (recOf fn a.tmps ps assign body d .busy none)) := (hr4.fr.block l hlw2 hlX2).trans hrec2
    have hlS3 : ¬ S3 l := fun hs => by
      rcases (hr4.hS l hs).2.2 with q | q | q
      · exact hlS1 q
      · exact hlX2 q
      · have q : w2.heap.size ≤ l := q
        omega
    have hlD3 : ¬ D3 l := fun hd => by
      rcases hr4.cd.d1 l hd with q | q | q | q
      · exact hlD1 q
      · exact hlS1 q
      · exact hlX2 q
      · have q : w2.heap.size ≤ l := q
        omega
    have hsz12 : w.heap.size ≤ w1.heap.size := hr2.fr.size
    have hsz2 : w2.heap.size = w1.heap.size := by rw [hw2]; exact World.putObj_size
    have hsz3 : w2.heap.size ≤ w3.heap.size := hr4.fr.size
    -- the round's end, whatever it is
    have fin : ∀ (pe : Option Code) (s4 : St) (st : Bool), s4.H = s4.H → (∃ H4, hle s3.H H4 ∧ s3.g = g ∧
          ((st = false ∧ pe = none ∧ I rest H4) ∨ (st = true ∧ ∃ e c, jumpOf e = some c ∧ pe = some c ∧ Φ e ⟨τ, H4, g⟩))) →
        ∃ v w4, (Instr.endRound l pe).run E.P w3 = .ok v w4 ∧ ∃ b C' D', Ending.returned v = .returned (.bool b) ∧ consJ E τ g a l (recOf fn a.tmps ps assign body d) I Φ ⟨rest, !b⟩ C' D' w4 ∧ Turned w w4 S C D C' D' := by
      rintro pe s4 st _ ⟨H4, hH4, hg4, hcase⟩
      obtain ⟨hb4, hle4⟩ := hb3.putRec hJ hrec3 h0 hlS3 hlD3 h3 (.loop (recOf fn a.tmps ps assign body d (if pe.isNone then .ready else .done) pe))
      obtain ⟨w4, hw4⟩ : ∃ w4, w4 = w3.putObj l (.loop (recOf fn a.tmps ps assign body d (if pe.isNone then .ready else .done) pe)) := ⟨_, rfl⟩
      rw [← hw4] at hb4 hle4
      have hrec4 : w4.heap[l]? = some (.loop (recOf fn a.tmps ps assign body d (if pe.isNone then .ready else .done) pe)) := by rw [hw4]; exact World.putObj_heap_same (Array.getElem?_eq_some_iff.1 hrec3).1
      have hsz4 : w4.heap.size = w3.heap.size := by rw [hw4]; exact World.putObj_size
      have hb5 := (Rel.weakenAt0 hb4 hH4 hg4)
      have hXC : ∀ b, ((∃ k, LiveAt (⟨τ, H, g⟩ : St) own k b) ∨ Cc b) → C b := fun b hb => hC b (hb.elim (fun hb => .inr (.inr (.inr hb))) fun hb => .inr (.inl hb))
      have hX2C : ∀ b, b < w.heap.size → ((∃ k, LiveAt (⟨τ, s1.H, s1.g⟩ : St) own1 k b) ∨ C1 b) → C b := fun b hlt hb => by
        rcases hb with ⟨k, blk, hk, hl, e⟩ | hb
        · rcases (hr2.hown k blk b hk hl e).2.2.2 with q | q
          · exact hXC b q
          · have q : w.heap.size ≤ b := q
            omega
        · rcases hr2.cd.c1 b hb with q | q
          · exact hXC b (.inr q)
          · have q : w.heap.size ≤ b := q
            omega
      refine ⟨.bool pe.isNone, w4, ?_, pe.isNone, fun b => C b ∨ (w.heap.size ≤ b ∧ b < w4.heap.size), fun b => D b ∨ S b ∨ (w.heap.size ≤ b ∧ b < w4.heap.size), rfl, ?_, ?_⟩
      · rw [run_endRound pe hrec3, hw4]; rfl
      · have hnew : ∀ b, w.heap.size ≤ b → b < w4.heap.size → (C b ∨ (w.heap.size ≤ b ∧ b < w4.heap.size)) := fun b q1 q2 => .inr ⟨q1, q2⟩
        have hS3D : ∀ b, S3 b → D b ∨ S b ∨ (w.heap.size ≤ b ∧ b < w4.heap.size) := fun b hb => by
          obtain ⟨q0, _, q⟩ := hr4.hS b hb
          rcases q with q | q | q
          · obtain ⟨p0, _, p⟩ := hr2.hS b q
            rcases p with p | p | p
            · exact p.elim (fun p => .inl (hD b (.inr (.inl p)))) fun p => .inr (.inl p)
            · exact .inl (hCD b (hXC b p))
            · have p : w.heap.size ≤ b := p
              exact .inr (.inr ⟨p, by omega⟩)
          · by_cases hlt : b < w.heap.size
            · exact .inl (hCD b (hX2C b hlt q))
            · exact .inr (.inr ⟨by omega, by omega⟩)
          · have q : w2.heap.size ≤ b := q
            exact .inr (.inr ⟨by omega, by omega⟩)
        have hl3C : ∀ b, (∃ k, LiveAt (⟨τ, s3.H, s3.g⟩ : St) own3 k b) → C b ∨ (w.heap.size ≤ b ∧ b < w4.heap.size) := fun b ⟨k, blk, hk, hl, e⟩ => by
          obtain ⟨q0, _, _, q⟩ := hr4.hown k blk b hk hl e
          by_cases hlt : b < w.heap.size
          · rcases q with q | q
            · exact .inl (hX2C b hlt q)
            · have q : w2.heap.size ≤ b := q
              omega
          · exact .inr ⟨by omega, by omega⟩
        have hl4 : ∀ b, (∃ k, LiveAt (⟨τ, H4, g⟩ : St) own3 k b) → ∃ k, LiveAt (⟨τ, s3.H, s3.g⟩ : St) own3 k b := fun b ⟨k, blk, hk, hl, e⟩ => by
          refine ⟨k, blk, ?_, hl, e⟩
          rcases hH4 k with q | ⟨v, q, _⟩
          · exact q.symm.trans hk
          · have hk : H4 k = some blk := hk
            rw [q] at hk; cases hk; cases hl
        have hC3 : ∀ b, C3 b → C b ∨ (w.heap.size ≤ b ∧ b < w4.heap.size) := fun b hb => by
          have hlt4 : b < w4.heap.size := by rw [hsz4]; exact hb3.hD b (hb3.hC b hb).1
          rcases hr4.cd.c1 b hb with q | q
          · rcases hr2.cd.c1 b q with p | p
            · exact .inl (hXC b (.inr p))
            · have p : w.heap.size ≤ b := p
              exact .inr ⟨p, hlt4⟩
          · have q : w2.heap.size ≤ b := q
            exact .inr ⟨by omega, hlt4⟩
        refine ⟨H4, S3, own3, C3, D3, Ds, hb5, fun b hb => ?_, fun b hb => ?_, h0, hlS3, hlD3, h3, .inl hDl, ?_⟩
        · rcases hb with hb | hb | hb | hb
          · exact .inl (hC b (.inl hb))
          · exact hC3 b hb
          · exact .inl (hC b (.inr (.inr (.inl hb))))
          · exact hl3C b (hl4 b hb)
        · rcases hb with hb | hb | hb | hb | hb
          · exact .inl (hD b (.inl hb))
          · exact hS3D b hb
          · exact (hl3C b (hl4 b hb)).elim (fun q => .inl (hCD b q)) fun q => .inr (.inr q)
          · have hlt4 : b < w4.heap.size := by rw [hsz4]; exact hb3.hD b hb
            rcases hr4.cd.d1 b hb with q | q | q | q
            · rcases hr2.cd.d1 b q with p | p | p | p
              · exact .inl (hD b (.inr (.inr (.inr (.inl p)))))
              · exact p.elim (fun p => .inl (hD b (.inr (.inl p)))) fun p => .inr (.inl p)
              · exact .inl (hCD b (hXC b p))
              · have p : w.heap.size ≤ b := p
                exact .inr (.inr ⟨p, hlt4⟩)
            · obtain ⟨p0, _, p⟩ := hr2.hS b q
              rcases p with p | p | p
              · exact p.elim (fun p => .inl (hD b (.inr (.inl p)))) fun p => .inr (.inl p)
              · exact .inl (hCD b (hXC b p))
              · have p : w.heap.size ≤ b := p
                exact .inr (.inr ⟨p, hlt4⟩)
            · by_cases hlt : b < w.heap.size
              · exact .inl (hCD b (hX2C b hlt q))
              · exact .inr (.inr ⟨by omega, hlt4⟩)
            · have q : w2.heap.size ≤ b := q
              exact .inr (.inr ⟨by omega, hlt4⟩)
          · exact .inl (hD b (.inr (.inr (.inr (.inr hb)))))
        · rcases hcase with ⟨hst, rfl, hI4⟩ | ⟨hst, e, c, hj, rfl, hΦ⟩
          · exact .inl ⟨rfl, hrec4, hI4⟩
          · exact .inr ⟨rfl, e, c, hj, hrec4, hΦ⟩
      · refine ⟨⟨?_, ?_, ?_, by omega, fun b hlt hc => ?_⟩, fun b hb => .inl hb, fun b hb => hb.imp id fun q => q.1, fun b hb => .inl hb, fun b hb => hb.imp id fun q => q.imp id fun q => q.1, fun b hb => hb.elim (fun q => .inl (hCD b q)) fun q => .inr (.inr q), fun b hb => ?_⟩
        · exact (show w4.os = w3.os by rw [hw4]; rfl).trans (hr4.fr.os.trans ((show w2.os = w1.os by rw [hw2]; rfl).trans hr2.fr.os))
        · exact (show w4.tape = w3.tape by rw [hw4]; rfl).trans (hr4.fr.tape.trans ((show w2.tape = w1.tape by rw [hw2]; rfl).trans hr2.fr.tape))
        · exact (show w4.output = w3.output by rw [hw4]; rfl).trans (hr4.fr.output.trans ((show w2.output = w1.output by rw [hw2]; rfl).trans hr2.fr.output))
        · have hbl : b ≠ l := fun e => hc (e ▸ hC l (.inl rfl))
          have e1 : w4.heap[b]? = w3.heap[b]? := by rw [hw4]; exact World.putObj_heap_other hbl
          have e2 : w3.heap[b]? = w2.heap[b]? := hr4.fr.block b (by have : b < w1.heap.size := by omega
                                                                    show b < w2.heap.size
                                                                    omega) fun hx => hc (hX2C b hlt hx)
          have e3 : w2.heap[b]? = w1.heap[b]? := by rw [hw2]; exact World.putObj_heap_other hbl
          have e4 : w1.heap[b]? = w.heap[b]? := hr2.fr.block b hlt fun hx => hc (hXC b hx)
          exact e1.trans (e2.trans (e3.trans e4))
        · rcases hb with q | q | q
          · have := hDlt b q; omega
          · have := (hS b q).1; omega
          · exact q.2
    cases e with
    | normal =>
      obtain ⟨hg3, H', hH', hI'⟩ := hk3
      exact fin none s3 false rfl ⟨H', hH', hg3, .inl ⟨rfl, rfl, hI'⟩⟩
    | ret =>
      obtain ⟨hg3, hΦ⟩ := hk3
      exact fin (some .ret) s3 true rfl ⟨s3.H, fun _ => .inl rfl, hg3, .inr ⟨rfl, .ret, _, rfl, rfl, hΦ⟩⟩
    | exit id =>
      obtain ⟨hg3, hΦ⟩ := hk3
      exact fin (some (.exit id)) s3 true rfl ⟨s3.H, fun _ => .inl rfl, hg3, .inr ⟨rfl, .exit id, _, rfl, rfl, hΦ⟩⟩
    | goto lb =>
      obtain ⟨hg3, hΦ⟩ := hk3
      exact fin (some (.goto lb)) s3 true rfl ⟨s3.H, fun _ => .inl rfl, hg3, .inr ⟨rfl, .goto lb, _, rfl, rfl, hΦ⟩⟩
    | panic ch => exact hk3.elim
    | outgrown => exact hk3.elim
  | _ => exact hk1.elim

/-! ### The statement -/
theorem rangeFunc_sound (hJ : JOk E.J) (hY : YOk E.P E.J E.l E.T) (hE : E.fixed = false) {f : Operand} {ps : Array Tmp} {assign body : Code} {Φ : Exit → St → Prop} {s : St} {a : Act} {w : World}
    {ia ib : (Exit → St → Prop) → St → Prop} (ha : ∀ l, Sound E.P E.n E.J E.l (some l) assign ia) (hb : ∀ l, Sound E.P E.n E.J E.l (some l) body ib) (hps : ∀ p ∈ ps.toList, p < E.n)
    (h : cRange E.P (ev s.τ f) ps.toList (fun Φ s => ia (thenK (ib Φ) fun _ _ => False) s) Φ s) (hr : Rel E s a w) : (Code.rangeFunc f ps assign body).wpIn (FW none) 0 E.P (post E Φ) a w := by
  obtain ⟨S, own, C, D, Ds, hr⟩ := hr
  have hfn := R_ev hr.tmps f
  unfold cRange at h
  split at h
  case h_2 => exact h.elim
  rename_i fid caps hf
  rw [hf] at hfn
  obtain ⟨xs, rt, rf, I, H0, hcl, hsp, hH0, hI0, hround, hend⟩ := h
  generalize hz : a.eval f = z at hfn
  cases hfn with
  | func _ _ us hl hh =>
  refine wpIn_rangeFunc fun fn _ => ?_
  obtain ⟨w1, hw1⟩ : ∃ w1, w1 = (w.alloc (.deferred (some []))).alloc (.loop (recOf fn a.tmps ps assign body w.heap.size .ready none)) := ⟨_, rfl⟩
  have hold : ∀ b, b < w.heap.size → w1.heap[b]? = w.heap[b]? := fun b hlt => by
    rw [hw1, Below.heap_alloc _ _ b (by simp; omega), Below.heap_alloc _ _ b hlt]
  have hszw : w1.heap.size = w.heap.size + 2 := by rw [hw1]; simp
  have hd1 : w1.heap[w.heap.size]? = some (.deferred (some [])) := by
    rw [hw1, Below.heap_alloc _ _ w.heap.size (by simp)]
    exact World.alloc_heap_new w _
  have hl1 : w1.heap[w.heap.size + 1]? = some (.loop (recOf fn a.tmps ps assign body w.heap.size .ready none)) := by
    have := World.alloc_heap_new (w.alloc (.deferred (some []))) (.loop (recOf fn a.tmps ps assign body w.heap.size .ready none))
    rw [World.size_alloc] at this
    rw [hw1]; exact this
  have hr0 := (Rel.weakenAt0 (τ := s.τ) (g := s.g) (H := s.H) hr hH0 rfl)
  have hr1 := hr0.abide hJ (w' := w1) (fun b hb => hold b (hr0.hang_lt hb)) (by omega) (by rw [hw1]; rfl) (by rw [hw1]; rfl) (by rw [hw1]; rfl)
  have hw0 := hr.fr.size
  have hr2 := hr1.pushMark hE hd1 (by omega) (fun hs => by have := (hr.hS _ hs).1; omega) (fun hd => by have := hr.hD _ hd; omega) (fun hd => by have := (Array.getElem?_eq_some_iff.1 (hr.hDs _ hd).1).1; omega)
  obtain ⟨a', ha'⟩ : ∃ a', a' = { a with defers := ({ target := .collected w.heap.size, args := #[] } : Deferred) :: a.defers } := ⟨_, rfl⟩
  rw [← ha'] at hr2
  have hat : a'.tmps = a.tmps := by rw [ha']
  have hJc : JOk (consJ E s.τ s.g a' (w.heap.size + 1) (recOf fn a'.tmps ps assign body w.heap.size) I Φ) := consJ_ok hJ
  have hYc := consJ_yok (τ := s.τ) (g := s.g) (a := a') (l := w.heap.size + 1) (d := w.heap.size) (fn := fn) (ps := ps) (I := I) (Φ := Φ) hJ hY (ha _) (hb _) hps hround
  let C1 : Nat → Prop := fun b => b = w.heap.size + 1 ∨ C b ∨ b ∈ w.heap.size :: Ds ∨ ∃ k, LiveAt (⟨s.τ, H0, s.g⟩ : St) own k b
  let D1 : Nat → Prop := fun b => b < w1.heap.size
  have hC1lt : ∀ b, C1 b → b < w1.heap.size := fun b hb => by
    rcases hb with hb | hb | hb | hb
    · omega
    · have := hr.hD b (hr.hC b hb).1; omega
    · exact hr2.hang_lt (.inr (.inr (.inr (.inr hb))))
    · exact hr2.hang_lt (.inr (.inr (.inl hb)))
  have hSC1 : ∀ b, S b → b < w1.heap.size ∧ ¬ C1 b := fun b hb => by
    have h1 := (hr.hS b hb)
    refine ⟨by have := h1.1; omega, fun hc => ?_⟩
    rcases hc with hc | hc | hc | ⟨k, blk, hk, hl, e⟩
    · have := h1.1; omega
    · exact h1.2.1 hc
    · exact (hr2.hDs b hc).2.2.1 hb
    · exact (hr2.hown k blk b hk hl e).2.1 hb
  have hj0 : consJ E s.τ s.g a' (w.heap.size + 1) (recOf fn a'.tmps ps assign body w.heap.size) I Φ ⟨xs ++ [], false⟩ C1 D1 w1 := by
    refine ⟨H0, S, own, C, D, w.heap.size :: Ds, hr2, fun b hb => hb, fun b hb => hr2.hang_lt hb, by omega, fun hs => by have := (hr.hS _ hs).1; omega, fun hd => by have := hr.hD _ hd; omega, fun hd => ?_, by show _ < _; omega, .inl ⟨rfl, by rw [hat]; exact hl1, by rw [List.append_nil]; exact hI0⟩⟩
    rcases List.mem_cons.1 hd with hd | hd
    · omega
    · have := (Array.getElem?_eq_some_iff.1 (hr.hDs _ hd).1).1; omega
  have hargs : RL (bare S w1 (w.heap.size + 1)) (.yld :: caps) (.func (.yield (w.heap.size + 1)) #[] #[] :: us) := by
    refine ⟨by simp [hl], fun i x hx => ?_⟩
    cases i with
    | zero => simp at hx; subst hx; exact .yld
    | succ i =>
      simp only [List.getElem?_cons_succ] at hx
      have hc := closedL_get hcl hx
      have h1 := R.mono (C := ctx E s w S own) (C' := ctx E s w1 S own) ⟨fun b hb => ⟨hb, hold b (hr.hS b hb).1⟩, fun k blk hk => ⟨blk, hk, Nat.le_refl _, fun _ r v hv => hv.same fun g e hl => hold g (hr.hown k blk g hk hl e).1⟩, rfl⟩ (hh i x hx)
      simpa using h1.bare (w.heap.size + 1) hc
  have hcall := hsp.calls _ (w.heap.size + 1) [] C1 D1 w1 S _ hJc (hYc.mono fun b hb => by
    rcases hb with hb | hb | hb
    · exact (hr.hS b hb).2.2
    · rcases hb with hb | hb | hb | ⟨k, blk, hk, hl, e⟩
      · exact .inr (.inr (by omega))
      · exact .inr (hr.hC b hb).2
      · exact .inr (.inr (hr2.hDs b hb).2.1)
      · exact .inr (hr2.hown k blk b hk hl e).2.2.2
    · exact .inr (.inr (by omega))) hj0 hC1lt (fun b hb => hb) hSC1 hargs
  refine ⟨w.heap.size + 1, [({ target := .collected w.heap.size, args := #[] } : Deferred)], w1, { target := .fn (.func fid) us.toArray, args := #[.func (.yield (w.heap.size + 1)) #[] #[]] }, w1, fid, (.func (.yield (w.heap.size + 1)) #[] #[] :: us).toArray, w1, ?_, ?_, fun _ _ => trivial, ?_, fun h => by simp [FW] at h, ?_⟩
  · have := run_enterLoop_outer (P := E.P) (w := w) fn a.tmps ps assign body
    rw [hw1]
    exact this
  · unfold resolve
    simp only [hz, Deferred.ofValue, Sem.run_pure]
    simp [Act.eval]
  · simp only [invoke]
    have e2 : #[Value.func (.yield (w.heap.size + 1)) #[] #[]] ++ us.toArray = (Value.func (.yield (w.heap.size + 1)) #[] #[] :: us).toArray := by
      apply Array.toList_inj.1
      simp
    rw [e2]
    exact hsp.enters _ _
  · refine hcall.mono fun e w2 ⟨v, C2, D2, he, ht, hfin⟩ => ?_
    subst he
    have key : ∀ gi, consJ E s.τ s.g a' (w.heap.size + 1) (recOf fn a'.tmps ps assign body w.heap.size) I Φ gi C2 D2 w2 → (gi.stop = false → gi.todo = []) →
        rangePost (FW none) 0 E.P (w.heap.size + 1) (post E Φ) { a with defers := [({ target := .collected w.heap.size, args := #[] } : Deferred)] ++ a.defers } (.returned v) w2 := by
      rintro gi ⟨H, S2, own2, Cc, Dc, Ds2, h, hC, hD, h0, h1, h2, h3, hDl, hg⟩ hgi
      have ea : ({ a with defers := [({ target := .collected w.heap.size, args := #[] } : Deferred)] ++ a.defers } : Act) = a' := by rw [ha']; rfl
      rw [ea]
      rcases hg with ⟨hst, hrec, hI⟩ | ⟨hst, e, c, hj, hrec, hΦ⟩
      · obtain ⟨hq, _⟩ := h.putRec hJ hrec h0 h1 h2 h3 (.loop (recOf fn a'.tmps ps assign body w.heap.size .exhausted none))
        refine ⟨none, w2.putObj (w.heap.size + 1) (.loop (recOf fn a'.tmps ps assign body w.heap.size .exhausted none)), run_endLoop hrec (by simp [recOf]), ?_⟩
        rw [hgi hst] at hI
        exact ⟨⟨s.τ, H, s.g⟩, hend H hI, S2, own2, Cc, Dc, Ds2, hq⟩
      · obtain ⟨hq, _⟩ := h.putRec hJ hrec h0 h1 h2 h3 (.loop (recOf fn a'.tmps ps assign body w.heap.size .exhausted (some c)))
        refine ⟨some c, w2.putObj (w.heap.size + 1) (.loop (recOf fn a'.tmps ps assign body w.heap.size .exhausted (some c))), run_endLoop hrec (by simp [recOf]), ?_⟩
        have hp : post E Φ e a' (w2.putObj (w.heap.size + 1) (.loop (recOf fn a'.tmps ps assign body w.heap.size .exhausted (some c)))) := ⟨⟨s.τ, H, s.g⟩, hΦ, S2, own2, Cc, Dc, Ds2, hq⟩
        cases e with
        | ret => cases hj; exact wpIn_ret hp
        | exit id => cases hj; exact wpIn_exit hp
        | goto lb => cases hj; exact wpIn_goto hp
        | _ => cases hj
    rcases hfin with ⟨hj, _⟩ | ⟨t, hj, _⟩
    · exact key _ hj fun _ => rfl
    · exact key _ hj fun h => by cases h
end

end Go.Am
