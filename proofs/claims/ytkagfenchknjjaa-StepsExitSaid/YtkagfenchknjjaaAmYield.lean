import Derived.Test.YtkagfenchknjjaaAmSound
import Derived.Test.YtkagfenchknjjaaAmHeap
import Derived.RangeFuncSeq
import Derived.Laws.Cover3
set_option linter.unusedVariables false
set_option linter.unusedSimpArgs false
namespace Go.Am
open Go.RowKit

/-! ### Yielding -/
/-- The consumer's blocks C and what its word hangs on, D, after a turn of its: grown by new blocks alone. -/
structure Turned (w w' : World) (S C D C' D' : Nat → Prop) : Prop where
  grows : Grows w w' C
  c0 : ∀ b, C b → C' b
  c1 : ∀ b, C' b → C b ∨ w.heap.size ≤ b
  d0 : ∀ b, D b → D' b
  d1 : ∀ b, D' b → D b ∨ S b ∨ w.heap.size ≤ b
  cd : ∀ b, C' b → D' b
  lt : ∀ b, D' b → b < w'.heap.size

/-- The consumer takes what it expects to be yielded. T: what the iterator may take as immutable. -/
def YOk (P : Program) (J : G → (Nat → Prop) → (Nat → Prop) → World → Prop) (l : Nat) (T : Nat → Prop) : Prop :=
  ∀ (args : List AV) (rest : List (List AV)) (C D : Nat → Prop) (w : World) (S : Nat → Prop) (vs : List Value), J ⟨args :: rest, false⟩ C D w → (∀ b, C b → D b) → (∀ b, D b → b < w.heap.size) →
    (∀ b, S b → b < w.heap.size ∧ ¬ C b ∧ T b) → closedL args = true → RL (bare S w l) args vs →
    YieldAt (FW none) 0 P l vs.toArray w fun e w' => ∃ b C' D', e = .returned (.bool b) ∧ J ⟨rest, !b⟩ C' D' w' ∧ Turned w w' S C D C' D'
theorem YOk.mono {P : Program} {J : G → (Nat → Prop) → (Nat → Prop) → World → Prop} {l : Nat} {T T' : Nat → Prop} (h : YOk P J l T) (hT : ∀ b, T' b → T b) : YOk P J l T' :=
  fun args rest C D w S vs hj hcd hD hS2 hcl hR => h args rest C D w S vs hj hcd hD (fun b hb => ⟨(hS2 b hb).1, (hS2 b hb).2.1, hT b (hS2 b hb).2.2⟩) hcl hR
/-- What an activation may take as immutable. -/
def Env.T (E : Env) (b : Nat) : Prop := E.S0 b ∨ E.X0 b ∨ E.w0.heap.size ≤ b

section
variable {E : Env} {s : St} {a : Act} {w : World} {S : Nat → Prop} {own : Nat → Option Nat} {C D : Nat → Prop} {Ds : List Nat} {o : Oper} {next : Act → World → Prop} {Q : Exit → Act → World → Prop} {ro : Option Nat}

theorem RelAt.le_turned (h : RelAt E s a w S own C D Ds) {w' : World} {C' D' : Nat → Prop} (ht : Turned w w' S C D C' D') : (ctx E s w S own).le (ctx E s w' S own) where
  S := fun b hb => ⟨hb, ht.grows.block b (h.hS b hb).1 (h.hS b hb).2.1⟩
  H := fun k blk hk => ⟨blk, hk, Nat.le_refl _, fun _ r v hr => hr.same fun g e hl => by
    obtain ⟨h1, h2, h3, h4⟩ := h.hown k blk g hk hl e
    exact ht.grows.block _ h1 fun hc => h3 (h.hC g hc).1⟩
  l := rfl

/-- The consumer had its turn. -/
theorem RelAt.turned (h : RelAt E s a w S own C D Ds) {w' : World} {C' D' : Nat → Prop} (ht : Turned w w' S C D C' D') {g' : G} (hj : E.J g' C' D' w') {d : Option Nat} (hd : ∀ k, d = some k → k < E.n) {x : AV} {v : Value}
    (hv : R (ctx E s w' S own) x v) : RelAt E { s with τ := updO s.τ d x, g := g' } (a.put d v) w' S own C' D' Ds := by
  have hle := h.le_turned ht
  have hw0 := h.fr.size
  exact {
    fr := h.fr.grows ht.grows fun b hb => (h.hC b hb).2
    hS := fun b hb => by
      obtain ⟨h1, h2, h3⟩ := h.hS b hb
      exact ⟨Nat.lt_of_lt_of_le h1 ht.grows.size, fun hc => (ht.c1 b hc).elim h2 fun h4 => absurd h1 (by omega), h3⟩
    hS0 := h.hS0
    hC := fun b hb => ⟨ht.cd b hb, (ht.c1 b hb).elim (fun h1 => (h.hC b h1).2) fun h1 => .inr (by omega)⟩
    hD := ht.lt
    j := hj
    hown := fun k blk g hk hl e => by
      obtain ⟨h1, h2, h3, h4⟩ := h.hown k blk g hk hl e
      exact ⟨Nat.lt_of_lt_of_le h1 ht.grows.size, h2, fun hd => (ht.d1 g hd).elim h3 fun h5 => h5.elim h2 fun h5 => absurd h1 (by omega), h4⟩
    inj := h.inj
    heap := fun k blk hk => (h.heap k blk hk).mono hle fun g e hl => by
      obtain ⟨h1, h2, h3, h4⟩ := h.hown k blk g hk hl e
      exact ht.grows.block _ h1 fun hc => h3 (h.hC g hc).1
    tmps := R_put (fun i => (h.tmps i).mono hle) h.size hd hv
    size := (put_size a d v).trans h.size
    defers := (put_defers a d v).trans h.defers
    hDs := fun d' hd' => by
      obtain ⟨h1, h2, h3, h4⟩ := h.hDs d' hd'
      have hlt := (Array.getElem?_eq_some_iff.1 h1).1
      exact ⟨(ht.grows.block d' hlt fun hc => h4 (h.hC d' hc).1).trans h1, h2, h3, fun hd => (ht.d1 d' hd).elim h4 fun h5 => h5.elim h3 fun h5 => absurd hlt (by omega)⟩
    nodup := h.nodup
    le := h.le.trans hle
    cd := ⟨fun b hb => ht.c0 b (h.cd.c0 b hb), fun b hb => (ht.c1 b hb).elim (h.cd.c1 b) fun h1 => .inr (by omega), fun b hb => ht.d0 b (h.cd.d0 b hb), fun b hb => (ht.d1 b hb).elim (h.cd.d1 b) fun h1 => .inr (h1.elim (fun h1 => (h.hS b h1).2.2) fun h1 => .inr (.inr (by omega)))⟩
    fix := h.fix }

theorem wpIn_round {l : Nat} {f : FuncId} {tmps : Array Value} {assign body : Code} {w' : World} (hd : Op.isDefer o.op = false) (h : (execOp a.eval o).run E.P w = .ok (.round l f tmps assign body) w')
    (hc : RoundIn (FW none) 0 E.P l f tmps assign body w' fun e w'' => ∃ v, e = .returned v ∧ next (a.put o.dst v) w'') : o.wpIn (FW ro) 0 E.P a w next Q := by
  refine ⟨fun _ _ => trivial, ?_⟩
  rw [semAt_plain hd, h, Oper.uponIn_round]
  refine ⟨fun h => by simp [FW] at h, ?_⟩
  have hc' : RoundIn (FW ro) 0 E.P l f tmps assign body w' fun e w'' => ∃ v, e = .returned v ∧ next (a.put o.dst v) w'' := hc
  refine hc'.mono fun e w'' ⟨v, he, hn⟩ => ?_
  subst he
  exact hn
end

/-- May it be handed to a function that yields? -/
def okY : AV → Bool
  | .yld => true
  | a => closed a
theorem R.bareY {C : Ctx} {x : AV} {v : Value} {l : Nat} (h : R C x v) (hl : C.l = l) (hc : okY x = true) : R (Am.bare C.S C.w l) x v := by
  by_cases hy : x = .yld
  · subst hy
    cases h
    rw [hl]
    exact .yld
  · have : closed x = true := by
      unfold okY at hc
      split at hc
      · exact (hy rfl).elim
      · exact hc
    exact h.bare l this
/-- Called with args (yield among them) the function yields xs and hands back rt; or a front of them, the consumer says 'no more', and it hands back rf. -/
structure SpecY (P : Program) (f : FuncId) (args : List AV) (xs : List (List AV)) (rt rf : AV) : Prop where
  enters : Enters P f
  ft : flat rt = true
  ff : flat rf = true
  calls : ∀ (J : G → (Nat → Prop) → (Nat → Prop) → World → Prop) (l : Nat) (rest : List (List AV)) (C D : Nat → Prop) (w : World) (S : Nat → Prop) (vs : List Value), JOk J → YOk P J l (fun b => S b ∨ C b ∨ w.heap.size ≤ b) → J ⟨xs ++ rest, false⟩ C D w → (∀ b, C b → D b) → (∀ b, D b → b < w.heap.size) →
    (∀ b, S b → b < w.heap.size ∧ ¬ C b) → RL (bare S w l) args vs → CallsIn (FW none) 0 P f vs.toArray w fun e w' => ∃ v C' D', e = .returned v ∧ Turned w w' S C D C' D' ∧
      ((J ⟨rest, false⟩ C' D' w' ∧ R (bare S w' l) rt v) ∨ ∃ t, J ⟨t, true⟩ C' D' w' ∧ R (bare S w' l) rf v)

/-- May these blocks be lent? lent: the caller's keys and the callee's; nw: keys of what the callee makes. -/
def nodupB : List Nat → Bool
  | [] => true
  | k :: l => !inK l k && nodupB l
theorem nodupB_iff : ∀ {l : List Nat}, nodupB l = true → l.Nodup
  | [], _ => List.nodup_nil
  | k :: l, h => by
    simp only [nodupB, Bool.and_eq_true, Bool.not_eq_true'] at h
    refine List.nodup_cons.2 ⟨fun hm => ?_, nodupB_iff h.2⟩
    rw [inK_iff.2 hm] at h
    exact absurd h.1 (by simp)
def lendOk (L : List (Nat × Blk)) (lent nw : List (Nat × Nat)) (args : List AV) : Bool :=
  nodupB ((lent ++ nw).map (·.1)) && (nodupB ((lent ++ nw).map (·.2)) && ((lent.all fun p => match lookB L p.1 with | some b => okB (inK (lent.map (·.1))) b | none => false) && args.all (okk (inK (lent.map (·.1))))))
def retOk (ks : List (Nat × Nat)) (r : AV) (l' : List (Nat × Blk)) : Bool :=
  (keys l').all (inK (ks.map (·.2))) && ((l'.all fun p => okB (inK (keys l')) p.2) && okk (inK (keys l')) r)

/-- A slice against nil: which answers are possible. -/
def nilK (H : Heap) (K : Bool → Prop) : AV → Prop
  | .sl rows => K false ∧ (rows = [] → K true)
  | .slt _ => K false
  | .nils => K true
  | .ref k ver .o => match H k with
    | some (.row v _ _ rows) => v = ver ∧ K false ∧ (rows = [] → K true)
    | some (.froz v rows) => v = ver ∧ K false ∧ (rows = [] → K true)
    | _ => False
  | _ => False
theorem nilK_sound {E : Env} {s : St} {a : Act} {w : World} {S : Nat → Prop} {own : Nat → Option Nat} {C D : Nat → Prop} {Ds : List Nat} (h : RelAt E s a w S own C D Ds) {K : Bool → Prop} {x : AV} {v : Value} (hx : R (ctx E s w S own) x v) (hk : nilK s.H K x) :
    ∃ A n c, v = .slice A n c ∧ K A.isNone := by
  unfold nilK at hk
  split at hk
  · cases hx with
    | sl _ A cap g off sz f hA =>
      refine ⟨A, _, cap, rfl, ?_⟩
      cases A with
      | some a => exact hk.1
      | none =>
        refine hk.2 ?_
        rename_i rows _ _ _ _ _ _
        by_cases e : rows = []
        · exact e
        · exact absurd (hA e).1 (by simp)
  · cases hx with
    | slt _ g off sz f hA => exact ⟨_, _, _, rfl, hk⟩
  · cases hx with
    | nils => exact ⟨_, _, _, rfl, hk⟩
  · rename_i k ver
    split at hk
    · rename_i v' t sz rows hb
      obtain ⟨e, h1, h2⟩ := hk
      obtain ⟨q1, q2⟩ := h.ref_at hx hb e
      cases hog : own k with
      | none =>
        rw [hog] at q1 q2
        have q1 : v = .slice none 0 0 := q1
        exact ⟨_, _, _, q1, h2 q2.1⟩
      | some g =>
        rw [hog] at q1
        obtain ⟨cap, q1, _⟩ := q1
        exact ⟨_, _, _, q1, h1⟩
    · rename_i v' rows hb
      obtain ⟨e, h1, h2⟩ := hk
      obtain ⟨q1, q2⟩ := h.ref_at hx hb e
      cases hog : own k with
      | none =>
        rw [hog] at q1 q2
        have q1 : v = .slice none 0 0 := q1
        have q2 : rows = [] := q2
        exact ⟨_, _, _, q1, h2 q2⟩
      | some g =>
        rw [hog] at q1
        obtain ⟨cap, q1, _⟩ := q1
        exact ⟨_, _, _, q1, h1⟩
    · exact hk.elim
  · exact hk.elim

/-- One operation's step. -/
inductive StepR (P : Program) (s : St) (o : Oper) (K : St → Prop) : Prop
  | op (v : AV) (H' : Heap) (h : OpR P s.τ s.H o v H') (k : K (s.put o.dst v H'))
  | yld (f : Operand) (c : Call) (rest : List (List AV)) (h : o.op = .call c) (hc : c.callee = .value f) (hf : ev s.τ f = .yld) (hg : s.g = ⟨callArgs s.τ (frzs s.H (c.args.toList.map (ev s.τ))) c [] :: rest, false⟩)
      (hcl : closedL (callArgs s.τ (frzs s.H (c.args.toList.map (ev s.τ))) c []) = true)
      (k : ∀ b : Bool, K ⟨updO s.τ o.dst (.bool b), frzs s.H (c.args.toList.map (ev s.τ)), ⟨rest, !b⟩⟩)
  | call (f : Operand) (c : Call) (fid : FuncId) (caps : List AV) (xs rest : List (List AV)) (rt rf : AV) (h : o.op = .call c) (hc : c.callee = .value f) (hf : ev s.τ f = .func fid caps) (hg : s.g = ⟨xs ++ rest, false⟩)
      (hcl : (callArgs s.τ (frzs s.H (c.args.toList.map (ev s.τ))) c caps).all okY = true) (hs : SpecY P fid (callArgs s.τ (frzs s.H (c.args.toList.map (ev s.τ))) c caps) xs rt rf)
      (k1 : K ⟨updO s.τ o.dst rt, frzs s.H (c.args.toList.map (ev s.τ)), ⟨rest, false⟩⟩) (k2 : ∀ t, K ⟨updO s.τ o.dst rf, frzs s.H (c.args.toList.map (ev s.τ)), ⟨t, true⟩⟩)
  | eqNil (ng : Bool) (t yt e : TypeId) (x : Operand) (h : o.op = .binOp (if ng then .neq else .eql) t x (.const (.slice none 0 0)) yt) (ht : P.underlying t = some (.slice e)) (k : nilK s.H (fun b => K (s.put o.dst (.bool (b != ng)) s.H)) (ev s.τ x))
  | hcall (f : Operand) (c : Call) (fid : FuncId) (caps : List AV) (L : List (Nat × Blk)) (VS : Nat → Nat) (lent nw : List (Nat × Nat)) (Q : AV → List (Nat × Blk) → Prop) (h : o.op = .call c) (hc : c.callee = .value f) (hf : ev s.τ f = .func fid caps)
      (hH : s.H = hls L VS) (hok : lendOk L lent nw (c.args.toList.map (ev s.τ) ++ caps) = true) (hs : HSpecL P fid ((c.args.toList.map (ev s.τ) ++ caps).map (ren (asc (lent ++ nw)))) (lentL L (lent ++ nw) lent) Q)
      (k : ∀ r l' VS', Q r l' → retOk (lent ++ nw) r l' = true ∧ K ⟨updO s.τ o.dst (ren (csa (lent ++ nw)) r), hls (dropK ((lent ++ nw).map (·.1)) L ++ backL (lent ++ nw) l') VS', s.g⟩)

section
variable {E : Env} {s : St} {a : Act} {w : World} {o : Oper} {next : Act → World → Prop} {Q : Exit → Act → World → Prop} {ro : Option Nat}

theorem RelAt.callRL {S : Nat → Prop} {own : Nat → Option Nat} {C D : Nat → Prop} {Ds : List Nat} (hr : RelAt E s a w S own C D Ds) (c : Call) {caps : List AV} {us : List Value} (hl : us.length = caps.length)
    (hh : ∀ (i : Nat) (x : AV), caps[i]? = some x → R (ctx E s w S own) x (us.getD i undef)) (hcl : (callArgs s.τ s.H c caps).all okY = true) : RL (bare S w E.l) (callArgs s.τ s.H c caps) (c.args.toList.map a.eval ++ us) := by
  refine ⟨by simp [callArgs, hl], fun i x hx => ?_⟩
  have hcx : okY x = true := List.all_eq_true.1 hcl x (List.mem_of_getElem? hx)
  unfold callArgs at hx
  rw [List.getElem?_map] at hx
  obtain ⟨y, hy, rfl⟩ := Option.map_eq_some_iff.1 hx
  rw [List.getElem?_append] at hy
  have hR : R (ctx E s w S own) y ((c.args.toList.map a.eval ++ us).getD i undef) := by
    rw [List.getD_eq_getElem?_getD, List.getElem?_append]
    simp only [List.length_map] at hy ⊢
    split at hy
    · rename_i hi
      rw [if_pos hi, List.getElem?_map]
      rw [List.getElem?_map] at hy
      obtain ⟨q, hq, rfl⟩ := Option.map_eq_some_iff.1 hy
      rw [hq]
      exact R_ev hr.tmps q
    · rename_i hi
      rw [if_neg hi, ← List.getD_eq_getElem?_getD]
      exact hh _ y hy
  exact (hR.pur hr.heap).bareY rfl hcx

theorem StepR.sound (hJ : JOk E.J) (hY : YOk E.P E.J E.l E.T) {K : St → Prop} (h : StepR E.P s o K) (hd : ∀ k, o.dst = some k → k < E.n) (hr : Rel E s a w) (hnx : ∀ s' a' w', K s' → Rel E s' a' w' → next a' w') : o.wpIn (FW ro) 0 E.P a w next Q := by
  cases h with
  | op v H' h k => exact h.sound hJ hd hr fun a' w' hr' => hnx _ a' w' k hr'
  | yld f c rest h hc hf hg hcl k =>
    obtain ⟨S, own, C, D, Ds, hr⟩ := hr.frzs (c.args.toList.map (ev s.τ))
    have h1 := R_ev hr.tmps f
    rw [show ev ({ s with H := frzs s.H (c.args.toList.map (ev s.τ)) } : St).τ f = .yld from hf] at h1
    generalize hz : a.eval f = z at h1
    cases h1
    have hargs := hr.callRL c (caps := []) (us := []) rfl (fun i x hx => by simp at hx) (List.all_eq_true.2 fun x hx => by
      have hx2 := closedL_get hcl (List.getElem?_eq_some_iff.2 ⟨_, (List.getElem_of_mem hx).choose_spec.2⟩)
      unfold okY
      split
      · rfl
      · exact hx2)
    rw [List.append_nil] at hargs
    have hj : E.J s.g C D w := hr.j
    rw [hg] at hj
    obtain ⟨fn, tmps, assign, body, hy, hR⟩ := hY _ rest C D w S _ hj (fun b hb => (hr.hC b hb).1) hr.hD (fun b hb => ⟨(hr.hS b hb).1, (hr.hS b hb).2.1, (hr.hS b hb).2.2⟩) hcl hargs
    refine wpIn_round (l := E.l) (f := fn) (tmps := tmps) (assign := assign) (body := body) (w' := w) (by simp [h, Op.isDefer]) ?_ (hR.mono ?_)
    · have e1 : execOp a.eval o = (do let d ← resolve a.eval c o.type; invoke d.target d.args) := by simp only [execOp, h]
      rw [e1]
      unfold resolve
      simp only [hc, hz, Deferred.ofValue, Sem.run_bind, Sem.run_pure, Result.andThen_ok, invoke]
      have e2 : (#[] ++ c.args.map a.eval) = (c.args.toList.map a.eval).toArray := by
        apply Array.toList_inj.1
        simp
      rw [e2]
      exact hy
    · rintro e w' ⟨b, C', D', rfl, hj, ht⟩
      exact ⟨_, rfl, hnx _ _ _ (k b) ⟨S, own, C', D', Ds, hr.turned ht hj hd (.bool b)⟩⟩
  | call f c fid caps xs rest rt rf h hc hf hg hcl hs k1 k2 =>
    obtain ⟨S, own, C, D, Ds, hr⟩ := hr.frzs (c.args.toList.map (ev s.τ))
    have h1 := R_ev hr.tmps f
    rw [show ev ({ s with H := frzs s.H (c.args.toList.map (ev s.τ)) } : St).τ f = .func fid caps from hf] at h1
    generalize hz : a.eval f = z at h1
    cases h1 with
    | func _ _ us hl hh =>
      have hargs := hr.callRL c hl hh hcl
      have hj : E.J s.g C D w := hr.j
      rw [hg] at hj
      have hcall := hs.calls E.J E.l rest C D w S _ hJ (hY.mono fun b hb => by
        rcases hb with hb | hb | hb
        · exact (hr.hS b hb).2.2
        · exact .inr (hr.hC b hb).2
        · exact .inr (.inr (Nat.le_trans hr.fr.size hb))) hj (fun b hb => (hr.hC b hb).1) hr.hD (fun b hb => ⟨(hr.hS b hb).1, (hr.hS b hb).2.1⟩) hargs
      refine wpIn_enter (f := fid) (args := (c.args.toList.map a.eval ++ us).toArray) (w' := w) (by simp [h, Op.isDefer]) ?_ (hcall.mono ?_)
      · have e1 : execOp a.eval o = (do let d ← resolve a.eval c o.type; invoke d.target d.args) := by simp only [execOp, h]
        rw [e1]
        unfold resolve
        simp only [hc, hz, Deferred.ofValue, Sem.run_bind, Sem.run_pure, Result.andThen_ok, invoke]
        have e2 : (#[] ++ c.args.map a.eval ++ us.toArray) = (c.args.toList.map a.eval ++ us).toArray := by
          apply Array.toList_inj.1
          simp
        rw [e2]
        exact hs.enters _ _
      · rintro e w' ⟨v, C', D', rfl, ht, ⟨hj, hv⟩ | ⟨t, hj, hv⟩⟩
        · exact ⟨_, rfl, hnx _ _ _ k1 ⟨S, own, C', D', Ds, hr.turned ht hj hd (hv.flat hs.ft)⟩⟩
        · exact ⟨_, rfl, hnx _ _ _ (k2 t) ⟨S, own, C', D', Ds, hr.turned ht hj hd (hv.flat hs.ff)⟩⟩
  | eqNil ng t yt e x h ht k =>
    obtain ⟨S, own, C, D, Ds, hr⟩ := hr
    obtain ⟨A, n, c, e1, hk⟩ := nilK_sound hr (R_ev hr.tmps x) k
    refine wpIn_value (v := .bool (A.isNone != ng)) (w' := w) (by cases ng <;> simp [h, Op.isDefer]) ?_ (hnx _ _ _ hk (hr.putOld hJ hd (.bool _) (Grows.refl w _)))
    have e2 : a.eval (.const (.slice none 0 0)) = .slice none 0 0 := rfl
    cases ng with
    | false =>
      have h : o.op = .binOp .eql t x (.const (.slice none 0 0)) yt := h
      simp only [execOp, h, e1, e2]
      refine run_op ?_
      have hg : (eqGuard .eql t x (.const (.slice none 0 0)) (.slice A n c) (.slice none 0 0)).run E.P w = .ok () w := rfl
      simp only [Sem.run_bind, hg, Result.andThen_ok]
      simp only [binOp]
      simp [run_equal_slice_nil w t e A n c ht]
    | true =>
      have h : o.op = .binOp .neq t x (.const (.slice none 0 0)) yt := h
      simp only [execOp, h, e1, e2]
      refine run_op ?_
      have hg : (eqGuard .neq t x (.const (.slice none 0 0)) (.slice A n c) (.slice none 0 0)).run E.P w = .ok () w := rfl
      simp only [Sem.run_bind, hg, Result.andThen_ok]
      simp only [binOp]
      simp [run_equal_slice_nil w t e A n c ht]
  | hcall f c fid caps L VS lent nw Q h hc hf hH hok hs k =>
    simp only [lendOk, Bool.and_eq_true] at hok
    obtain ⟨hk1, hk2, hk3, hk4⟩ := hok
    have h1 := nodupB_iff hk1
    have h2 := nodupB_iff hk2
    have hin : ∀ p ∈ lent, p.1 ∈ keys L := fun p hp => by
      have := List.all_eq_true.1 hk3 p hp
      split at this
      · rename_i b hb; exact lookB_key hb
      · cases this
    have hob : ∀ p ∈ lent, ∀ b, lookB L p.1 = some b → okB (inK (lent.map (·.1))) b = true := fun p hp b hb => by
      have := List.all_eq_true.1 hk3 p hp
      rw [hb] at this
      exact this
    obtain ⟨S, own, C, D, Ds, hr⟩ := hr
    have hfn := R_ev hr.tmps f
    rw [hf] at hfn
    generalize hz : a.eval f = z at hfn
    cases hfn with
    | func _ _ us hl hh =>
      obtain ⟨hC0, hren⟩ := hr.lendDown hH h1 h2 hin hob
      have hargs : RL (lendC E L VS w S own (lent ++ nw) lent) ((c.args.toList.map (ev s.τ) ++ caps).map (Am.ren (asc (lent ++ nw)))) (c.args.toList.map a.eval ++ us) := by
        refine ⟨by simp [hl], fun i x hx => ?_⟩
        rw [List.getElem?_map] at hx
        obtain ⟨y, hy, rfl⟩ := Option.map_eq_some_iff.1 hx
        have hyk := List.all_eq_true.1 hk4 y (List.mem_of_getElem? hy)
        refine R.ren hren ?_ hyk
        rw [List.getElem?_append] at hy
        rw [List.getD_eq_getElem?_getD, List.getElem?_append]
        simp only [List.length_map] at hy ⊢
        split at hy
        · rename_i hi
          rw [if_pos hi, List.getElem?_map]
          rw [List.getElem?_map] at hy
          obtain ⟨q, hq, rfl⟩ := Option.map_eq_some_iff.1 hy
          rw [hq]
          exact R_ev hr.tmps q
        · rename_i hi
          rw [if_neg hi, ← List.getD_eq_getElem?_getD]
          exact hh _ y hy
      have hsv := hs fun k => ver0 (hls L VS) (csa (lent ++ nw) k)
      have hcall := hsv.calls (lendC E L VS w S own (lent ++ nw) lent) _ rfl hC0 hargs
      refine wpIn_enter (f := fid) (args := (c.args.toList.map a.eval ++ us).toArray) (w' := w) (by simp [h, Op.isDefer]) ?_ (hcall.mono fun e w' ⟨v, r, C', he, hw', hC', htr, hR, l', vs', hH', hQ⟩ => ⟨v, he, ?_⟩)
      · have e1 : execOp a.eval o = (do let d ← resolve a.eval c o.type; invoke d.target d.args) := by simp only [execOp, h]
        rw [e1]
        unfold resolve
        simp only [hc, hz, Deferred.ofValue, Sem.run_bind, Sem.run_pure, Result.andThen_ok, invoke]
        have e2 : (#[] ++ c.args.map a.eval ++ us.toArray) = (c.args.toList.map a.eval ++ us).toArray := by
          apply Array.toList_inj.1
          simp
        rw [e2]
        exact hsv.enters _ _
      · subst hw'
        have hk' := (k r l' vs' hQ).1
        simp only [retOk, Bool.and_eq_true] at hk'
        obtain ⟨j1, j2, j3⟩ := hk'
        obtain ⟨own'', VS'', hr'', hren'', _⟩ := hr.lendUp hJ hH h1 h2 hin htr hC' hH' (fun k hk => inK_iff.1 (List.all_eq_true.1 j1 k hk)) (fun p hp => List.all_eq_true.1 j2 p hp)
        refine hnx _ _ _ (k r l' VS'' hQ).2 ?_
        exact hr''.putOld hJ hd (hR.ren hren'' j3) (Grows.refl _ _)
end

end Go.Am
