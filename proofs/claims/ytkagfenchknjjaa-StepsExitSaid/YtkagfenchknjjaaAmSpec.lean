import Derived.Test.YtkagfenchknjjaaAmCode
import Derived.RangeFuncLeaves
set_option linter.unusedVariables false
set_option linter.unusedSimpArgs false
namespace Go.Am
open Go.RowKit

/-! ### Results -/
def resOne (P : Program) (τ : Nat → AV) (H : Heap) : ResultVar → Option AV
  | .tmp t => some (τ t)
  | .cell a t => ob (szOf P t) fun n => ob (aggOf P t) fun ag => rdV H n ag (τ a)
def resAll (P : Program) (τ : Nat → AV) (H : Heap) : List ResultVar → Option (List AV)
  | [] => some []
  | r :: rs => ob (resOne P τ H r) fun v => ob (resAll P τ H rs) fun vs => some (v :: vs)
def resV (P : Program) (τ : Nat → AV) (H : Heap) : List ResultVar → Option AV
  | [r] => resOne P τ H r
  | rs => ob (resAll P τ H rs) fun vs => some (.tup vs)
def retW (P : Program) (rs : List ResultVar) (r : AV) (s : St) : Prop := bindO (resV P s.τ s.H rs) fun v => closed (pur (frz s.H v) v) = true ∧ pur (frz s.H v) v = r
@[congr] theorem retW_congr {P : Program} {rs : List ResultVar} {r : AV} {s s' : St} (h : s = s') : retW P rs r s = retW P rs r s' := by rw [h]
def retK (P : Program) (rs : List ResultVar) (r : AV) : Exit → St → Prop
  | .normal, s => retW P rs r s
  | .ret, s => retW P rs r s
  | _, _ => False

section
variable {E : Env} {s : St} {a : Act} {w : World} {S : Nat → Prop} {own : Nat → Option Nat} {C D : Nat → Prop} {Ds : List Nat}

def resS (tmps : Array Value) : ResultVar → Sem Value
  | .tmp t => pure (tmps.getD t undef)
  | .cell a t => do loadVar t (← asAddr (tmps.getD a undef))
theorem results_eq (fn : Func) (tmps : Array Value) : results fn tmps = (do let vs ← fn.results.mapM (resS tmps); pure (if h : vs.size = 1 then vs[0] else .tuple vs)) := by
  have e : (fun (r : ResultVar) => (match r with
    | .tmp t => pure (tmps.getD t undef)
    | .cell a t => do loadVar t (← asAddr (tmps.getD a undef)) : Sem Value)) = resS tmps := by
    funext r
    cases r <;> rfl
  rw [← e]
  rfl

theorem RelAt.resOne (h : RelAt E s a w S own C D Ds) {rv : ResultVar} {v : AV} (hr : resOne E.P s.τ s.H rv = some v) :
    ∃ u, (resS a.tmps rv).run E.P w = .ok u w ∧ R (ctx E s w S own) v u := by
  cases rv with
  | tmp t => cases hr; exact ⟨_, rfl, h.tmps t⟩
  | cell p t =>
    obtain ⟨n, hn, hr⟩ := ob_eq_some hr
    obtain ⟨ag, ha, hr⟩ := ob_eq_some hr
    obtain ⟨u, h1, h2⟩ := h.rdV (h.tmps p) hn ha hr
    refine ⟨u, ?_, h2⟩
    unfold Instr.loadAt Instr.sureAddr at h1
    show (do loadVar t (← asAddr (a.tmps.getD p undef)) : Sem Value).run E.P w = _
    obtain ⟨z, hz⟩ : ∃ z, a.tmps.getD p undef = z := ⟨_, rfl⟩
    rw [hz] at h1 ⊢
    clear hz
    cases z with
    | pointer q =>
      cases q with
      | some q =>
        simp only [Sem.run_bind, Sem.run_pure, Result.andThen_ok] at h1
        simp only [asAddr, Sem.run_bind, Sem.run_pure, Result.andThen_ok, h1]
      | none => simp at h1
    | _ => simp at h1

theorem RelAt.resAll (h : RelAt E s a w S own C D Ds) : ∀ {rs : List ResultVar} {vs : List AV}, resAll E.P s.τ s.H rs = some vs →
    ∃ us : List Value, (rs.mapM (resS a.tmps)).run E.P w = .ok us w ∧ us.length = vs.length ∧ ∀ (i : Nat) (x : AV), vs[i]? = some x → R (ctx E s w S own) x (us.getD i undef)
  | [], vs, hr => by cases hr; exact ⟨[], rfl, rfl, fun i x hx => by simp at hx⟩
  | rv :: rs, vs, hr => by
    unfold Am.resAll at hr
    obtain ⟨v, hv, hr⟩ := ob_eq_some hr
    obtain ⟨ws, hws, hr⟩ := ob_eq_some hr
    cases hr
    obtain ⟨u, h1, h2⟩ := h.resOne hv
    obtain ⟨us, h3, h4, h5⟩ := h.resAll hws
    refine ⟨u :: us, ?_, by simp [h4], fun i x hx => ?_⟩
    · rw [List.mapM_cons]
      simp only [Sem.run_bind, h1, Result.andThen_ok, h3, Sem.run_pure]
    · cases i with
      | zero => simp at hx; subst hx; simpa using h2
      | succ i => simpa using h5 i x (by simpa using hx)

theorem resAll_length {P : Program} {τ : Nat → AV} {H : Heap} : ∀ {rs : List ResultVar} {vs : List AV}, Am.resAll P τ H rs = some vs → vs.length = rs.length
  | [], vs, h => by cases h; rfl
  | r :: rs, vs, h => by
    unfold Am.resAll at h
    obtain ⟨v, hv, h⟩ := ob_eq_some h
    obtain ⟨ws, hws, h⟩ := ob_eq_some h
    cases h
    simp [resAll_length hws]

theorem RelAt.resV (h : RelAt E s a w S own C D Ds) {fn : Func} {v : AV} (hr : resV E.P s.τ s.H fn.results.toList = some v) : ∃ u, (results fn a.tmps).run E.P w = .ok u w ∧ R (ctx E s w S own) v u := by
  obtain ⟨rs, hrs⟩ : ∃ rs : List ResultVar, fn.results = rs.toArray := ⟨fn.results.toList, by simp⟩
  rw [results_eq, hrs]
  rw [hrs] at hr
  simp only [List.toList_toArray] at hr
  rw [List.mapM_toArray]
  by_cases h1 : ∃ rv, rs = [rv]
  · obtain ⟨rv, rfl⟩ := h1
    obtain ⟨u, h2, h3⟩ := h.resOne hr
    refine ⟨u, ?_, h3⟩
    simp only [Sem.run_bind, Sem.run_map, List.mapM_cons, List.mapM_nil, h2, Result.andThen_ok, Sem.run_pure]
    rfl
  · have e : Am.resV E.P s.τ s.H rs = ob (Am.resAll E.P s.τ s.H rs) fun vs => some (.tup vs) := by
      cases rs with
      | nil => rfl
      | cons r rs => cases rs with
        | nil => exact (h1 ⟨r, rfl⟩).elim
        | cons r' rs => rfl
    rw [e] at hr
    obtain ⟨vs, hvs, hr⟩ := ob_eq_some hr
    cases hr
    obtain ⟨us, h2, h3, h4⟩ := h.resAll hvs
    refine ⟨.tuple us.toArray, ?_, .tup vs us h3 h4⟩
    simp only [Sem.run_bind, Sem.run_map, h2, Result.andThen_ok, Sem.run_pure]
    have hl : us.toArray.size ≠ 1 := by
      intro h5
      have h5 : us.length = 1 := h5
      have := resAll_length hvs
      apply h1
      match rs, this with
      | [r], _ => exact ⟨r, rfl⟩
      | [], h => simp only [List.length_nil] at h; omega
      | _ :: _ :: _, h => simp only [List.length_cons] at h; omega
    rw [dif_neg hl]

/-- A mark is taken: the block for a loop's deferred calls is shut. -/
theorem RelAt.mark {d : Nat} (h : RelAt E s a w S own C D (d :: Ds)) (hJ : JOk E.J) (hE : E.fixed = false) : RelAt E s { a with defers := Ds.map fun d => { target := .collected d, args := #[] } } (w.putObj d (.deferred none)) S own C D Ds := by
  obtain ⟨g1, g2, g3, g4⟩ := h.hDs d (by simp)
  have hnd := List.nodup_cons.1 h.nodup
  have hne : ∀ b, b ≠ d → (w.putObj d (.deferred none)).heap[b]? = w.heap[b]? := fun b hb => World.putObj_heap_other hb
  have hsz : (w.putObj d (.deferred none)).heap.size = w.heap.size := World.putObj_size
  have hSd : ∀ b, S b → b ≠ d := fun b hb e => g3 (e ▸ hb)
  have hDd : ∀ b, D b → b ≠ d := fun b hb e => g4 (e ▸ hb)
  have hod : ∀ k blk g, s.H k = some blk → blk.live = true → own k = some g → g ≠ d := fun k blk g hk hl e hgd => by
    subst hgd
    have hh := h.heap k blk hk
    rw [e] at hh
    cases blk with
    | row ver t sz rows => obtain ⟨cs, cap', g1', _⟩ := hh; rw [g1] at g1'; cases g1'
    | box ver t cells => obtain ⟨cs, g1', _⟩ := hh; rw [g1] at g1'; cases g1'
    | obj ver ob => obtain ⟨o, g1', ho⟩ := hh; rw [g1] at g1'; cases g1'; exact ho.not.2.1 _ rfl
    | _ => cases hl
  have hle : (ctx E s w S own).le (ctx E s (w.putObj d (.deferred none)) S own) := ⟨fun b hb => ⟨hb, hne b (hSd b hb)⟩,
    fun k blk hk => ⟨blk, hk, Nat.le_refl _, fun _ r v hr => hr.same fun g e hl => hne g (hod k blk g hk hl e)⟩, rfl⟩
  exact {
    fr := ⟨h.fr.os, h.fr.tape, h.fr.output, by rw [hsz]; exact h.fr.size, fun b hb hx => (hne b (by omega)).trans (h.fr.block b hb hx)⟩
    hS := fun b hb => by rw [hsz]; exact h.hS b hb
    hS0 := h.hS0
    hC := h.hC
    hD := fun b hb => by rw [hsz]; exact h.hD b hb
    j := hJ _ _ _ _ _ h.j (fun b hb => hne b (hDd b hb)) (Nat.le_of_eq hsz.symm) rfl rfl rfl
    hown := fun k blk g hk hl e => by rw [hsz]; exact h.hown k blk g hk hl e
    inj := h.inj
    heap := fun k blk hk => (h.heap k blk hk).mono hle fun g e hl => hne g (hod k blk g hk hl e)
    tmps := fun i => (h.tmps i).mono hle
    size := h.size
    defers := rfl
    hDs := fun d' hd' => by
      obtain ⟨q1, q2⟩ := h.hDs d' (by simp [hd'])
      exact ⟨(hne d' (fun e => hnd.1 (e ▸ hd'))).trans q1, q2⟩
    nodup := hnd.2
    le := h.le.trans hle
    cd := h.cd
    fix := fun e => by rw [hE] at e; cases e }

/-- The function leaves: its marks are taken, its results are what they are. -/
theorem RelAt.leaves (hJ : JOk E.J) (hE : E.fixed = false) {fn : Func} {v : AV} {Q : Ending → World → Prop} : ∀ {Ds : List Nat} {a : Act} {w : World}, RelAt E s a w S own C D Ds → Am.resV E.P s.τ s.H fn.results.toList = some v →
    (∀ a w u, RelAt E s a w S own C D [] → R (ctx E s w S own) v u → Q (.returned u) w) → LeavesInM (FW none) 0 E.P fn a.tmps Q (Ds.map fun d => { target := .collected d, args := #[] }) .returning w
  | [], a, w, h, hr, hQ => by
    obtain ⟨u, h1, h2⟩ := h.resV hr
    exact ⟨u, h1, hQ a w u h h2⟩
  | d :: Ds, a, w, h, hr, hQ => by
    obtain ⟨g1, _⟩ := h.hDs d (by simp)
    exact ⟨by simp, .inl ⟨d, _, rfl, run_takeDeferred g1, (h.mark hJ hE).leaves hJ hE hr hQ⟩⟩

end

/-- The temporaries of a function at its start. -/
def argτ (args : List AV) : Nat → AV := fun i => args.getD i (.tup [])
def noG : G := ⟨[], true⟩
def noJ : G → (Nat → Prop) → (Nat → Prop) → World → Prop := fun g C D _ => g.stop = true ∧ (∀ b, ¬ C b) ∧ ∀ b, ¬ D b
theorem noJ_yok (P : Program) (l : Nat) (T : Nat → Prop) : YOk P noJ l T := fun args rest C D w S vs hj => by cases hj.1
theorem noJ_ok : JOk noJ := fun _ _ _ _ _ h _ _ _ _ _ => h

/-- A contract out of the body's walk in the abstract machine. -/
theorem Spec.of_awp {P : Program} {f : FuncId} {fn : Func} {c : Code} {args : List AV} {r : AV} {s0 : St} (hle : St.le ⟨argτ args, fun _ => none, noG⟩ s0) (hf : P.funcs[f]? = some fn) (hb : fn.body = some c) (hname : (fn.name == "runtime.NumGoroutine") = false) (hok : codeOk fn.ntmps c = true) (hn : args.length ≤ fn.ntmps)
    (h : awp P c (retK P fn.results.toList r) s0) : Spec P f args r where
  enters := fun as w => by
    unfold callFunc
    simp only [Sem.run_bind, run_program, Result.andThen_ok, hf, hname, hb]
    simp
  calls := fun w S l vs hS hvs => by
    refine callsIn_of_wp_marks hf hb trivial ?_ rfl
    let E : Env := ⟨P, fn.ntmps, w, S, fun _ => False, noJ, l, ⟨fun _ => none, fun _ => none, S, w, l⟩, fun _ => False, fun _ => False, false⟩
    have hrel : RelAt E ⟨argτ args, fun _ => none, noG⟩ { tmps := vs.toArray ++ Array.replicate (fn.ntmps - vs.toArray.size) undef, defers := [] } w S (fun _ => none) (fun _ => False) (fun _ => False) [] := {
      fr := ⟨rfl, rfl, rfl, Nat.le_refl _, fun _ _ _ => rfl⟩
      hS := fun b hb => ⟨hS b hb, id, .inl hb⟩
      hS0 := fun b hb => hb
      hC := fun b hb => hb.elim
      hD := fun b hb => hb.elim
      j := ⟨rfl, fun _ h => h, fun _ h => h⟩
      hown := fun k blk g hk => by cases hk
      inj := fun k k' b b' g hk => by cases hk
      heap := fun k blk hk => by cases hk
      tmps := fun i => by
        have hlen := hvs.1
        show R (bare S w l) (args.getD i (.tup [])) _
        rw [Array.getD_eq_getD_getElem?, Array.getElem?_append]
        simp only [List.size_toArray]
        by_cases hi : i < vs.length
        · rw [if_pos hi, List.getD_eq_getElem?_getD, List.getElem?_eq_getElem (by omega)]
          have := hvs.2 i args[i] (List.getElem?_eq_getElem (by omega))
          rw [List.getD_eq_getElem?_getD, List.getElem?_eq_getElem hi] at this
          simpa [hi] using this
        · rw [if_neg hi, List.getD_eq_getElem?_getD, List.getElem?_eq_none (by omega)]
          have hu : ((Array.replicate (fn.ntmps - vs.length) undef)[i - vs.length]?).getD undef = undef := by
            rw [Array.getElem?_replicate]
            split <;> rfl
          rw [hu]
          exact .tup [] [] rfl fun i a hi => by simp at hi
      size := by
        have := hvs.1
        show (vs.toArray ++ Array.replicate (fn.ntmps - vs.toArray.size) undef).size = fn.ntmps
        simp
        omega
      defers := rfl
      hDs := fun d hd => by simp at hd
      nodup := List.nodup_nil
      le := .refl _
      cd := ⟨fun _ h => h, fun _ h => h.elim, fun _ h => h, fun _ h => h.elim⟩
      fix := fun e => by cases e }
    refine wpIn_mono (awp_sound (E := E) noJ_ok (noJ_yok P l _) rfl c _ _ _ w hok h (Rel.weaken ⟨S, _, _, _, [], hrel⟩ hle)) ?_
    have key : ∀ s a' w', retW P fn.results.toList r s → Rel E s a' w' →
        LeavesInM (FW none) 0 P fn a'.tmps (fun e w' => ∃ v, e = .returned v ∧ Below w.heap.size w w' ∧ R (bare (fun b => S b ∨ (w.heap.size ≤ b ∧ b < w'.heap.size)) w' l) r v) a'.defers .returning w' := by
      rintro s a' w' hret hr
      unfold retW at hret
      cases hres : resV P s.τ s.H fn.results.toList with
      | none => rw [hres] at hret; exact hret.elim
      | some v =>
        rw [hres] at hret
        obtain ⟨hcl, rfl⟩ := hret
        obtain ⟨S', own, C, D, Ds, hr⟩ := hr
        rw [hr.defers]
        refine hr.leaves noJ_ok rfl hres fun a2 w2 u hr3 hu => ⟨u, rfl, ?_, ?_⟩
        · exact ⟨hr3.fr.os, hr3.fr.tape, hr3.fr.output, hr3.fr.size, fun k hk => hr3.fr.block k hk id⟩
        · obtain ⟨S2, hr4, hle⟩ := frz_ok E s a2 w2 S' own C D [] v hr3
          have h1 := (R.pur (C := ctx E { s with H := frz s.H v } w2 S2 own) hr4.heap (hu.mono hle)).bare l hcl
          refine R.mono (C := bare S2 w2 l) (C' := bare (fun b => S b ∨ (w.heap.size ≤ b ∧ b < w2.heap.size)) w2 l) ⟨fun b hb => ⟨?_, rfl⟩, fun k blk hk => (by cases hk), rfl⟩ h1
          show S b ∨ (w.heap.size ≤ b ∧ b < w2.heap.size)
          obtain ⟨q1, _, q2⟩ := hr4.hS b hb
          rcases q2 with q2 | q2 | q2
          · exact .inl q2
          · exact q2.elim
          · exact .inr ⟨q2, q1⟩
    rintro e a' w' ⟨s, hΦ, hr⟩
    cases e with
    | normal => exact key s a' w' hΦ hr
    | ret => exact key s a' w' hΦ hr
    | _ => exact hΦ.elim


/-- Where it ends it hands back a row of its own. -/
def retRW (P : Program) (rs : List ResultVar) (t : TypeId) (sz : Nat) (rows : List (List AV)) (s : St) : Prop := (∃ k ver, resV P s.τ s.H rs = some (.ref k ver .o) ∧ s.H k = some (.row ver t sz rows)) ∨ resV P s.τ s.H rs = some .nils ∧ rows = [] ∧ 0 < sz
def retRK (P : Program) (rs : List ResultVar) (t : TypeId) (sz : Nat) (rows : List (List AV)) : Exit → St → Prop
  | .normal, s => retRW P rs t sz rows s
  | .ret, s => retRW P rs t sz rows s
  | _, _ => False
theorem RowSpec.of_awp {P : Program} {f : FuncId} {fn : Func} {c : Code} {args : List AV} {t : TypeId} {sz : Nat} {rows : List (List AV)} {s0 : St} (hflat : (rows.all fun r => r.all flat0) = true) (hle : St.le ⟨argτ args, fun _ => none, noG⟩ s0) (hf : P.funcs[f]? = some fn) (hb : fn.body = some c) (hname : (fn.name == "runtime.NumGoroutine") = false) (hok : codeOk fn.ntmps c = true) (hn : args.length ≤ fn.ntmps)
    (h : awp P c (retRK P fn.results.toList t sz rows) s0) : RowSpec P f args t sz rows where
  flat := hflat
  enters := fun as w => by
    unfold callFunc
    simp only [Sem.run_bind, run_program, Result.andThen_ok, hf, hname, hb]
    simp
  calls := fun w S l vs hS hvs => by
    refine callsIn_of_wp_marks hf hb trivial ?_ rfl
    let E : Env := ⟨P, fn.ntmps, w, S, fun _ => False, noJ, l, ⟨fun _ => none, fun _ => none, S, w, l⟩, fun _ => False, fun _ => False, false⟩
    have hrel : RelAt E ⟨argτ args, fun _ => none, noG⟩ { tmps := vs.toArray ++ Array.replicate (fn.ntmps - vs.toArray.size) undef, defers := [] } w S (fun _ => none) (fun _ => False) (fun _ => False) [] := {
      fr := ⟨rfl, rfl, rfl, Nat.le_refl _, fun _ _ _ => rfl⟩
      hS := fun b hb => ⟨hS b hb, id, .inl hb⟩
      hS0 := fun b hb => hb
      hC := fun b hb => hb.elim
      hD := fun b hb => hb.elim
      j := ⟨rfl, fun _ h => h, fun _ h => h⟩
      hown := fun k blk g hk => by cases hk
      inj := fun k k' b b' g hk => by cases hk
      heap := fun k blk hk => by cases hk
      tmps := fun i => by
        have hlen := hvs.1
        show R (bare S w l) (args.getD i (.tup [])) _
        rw [Array.getD_eq_getD_getElem?, Array.getElem?_append]
        simp only [List.size_toArray]
        by_cases hi : i < vs.length
        · rw [if_pos hi, List.getD_eq_getElem?_getD, List.getElem?_eq_getElem (by omega)]
          have := hvs.2 i args[i] (List.getElem?_eq_getElem (by omega))
          rw [List.getD_eq_getElem?_getD, List.getElem?_eq_getElem hi] at this
          simpa [hi] using this
        · rw [if_neg hi, List.getD_eq_getElem?_getD, List.getElem?_eq_none (by omega)]
          have hu : ((Array.replicate (fn.ntmps - vs.length) undef)[i - vs.length]?).getD undef = undef := by
            rw [Array.getElem?_replicate]
            split <;> rfl
          rw [hu]
          exact .tup [] [] rfl fun i a hi => by simp at hi
      size := by
        have := hvs.1
        show (vs.toArray ++ Array.replicate (fn.ntmps - vs.toArray.size) undef).size = fn.ntmps
        simp
        omega
      defers := rfl
      hDs := fun d hd => by simp at hd
      nodup := List.nodup_nil
      le := .refl _
      cd := ⟨fun _ h => h, fun _ h => h.elim, fun _ h => h, fun _ h => h.elim⟩
      fix := fun e => by cases e }
    refine wpIn_mono (awp_sound (E := E) noJ_ok (noJ_yok P l _) rfl c _ _ _ w hok h (Rel.weaken ⟨S, _, _, _, [], hrel⟩ hle)) ?_
    have key : ∀ s a' w', retRW P fn.results.toList t sz rows s → Rel E s a' w' →
        LeavesInM (FW none) 0 P fn a'.tmps (fun e w' => ∃ v og S', e = .returned v ∧ Below w.heap.size w w' ∧ (∀ g, og = some g → w.heap.size ≤ g ∧ g < w'.heap.size) ∧ HRel (bare S' w' l) og (.row 0 t sz rows) ∧ RefVal w' og (.row 0 t sz rows) .o v ∧ v.oneCell' = true) a'.defers .returning w' := by
      rintro s a' w' (⟨key, ver, hres, hkey⟩ | ⟨hres, hrows, hsz⟩) hr
      · obtain ⟨S', own, C, D, Ds, hr⟩ := hr
        rw [hr.defers]
        refine hr.leaves noJ_ok rfl hres fun a2 w2 u hr3 hu => ⟨u, own key, S', rfl, ?_, fun g eg => ?_, ?_, ?_⟩
        · exact ⟨hr3.fr.os, hr3.fr.tape, hr3.fr.output, hr3.fr.size, fun k hk => hr3.fr.block k hk id⟩
        · obtain ⟨q1, _, _, q2 | q2⟩ := hr3.hown key _ g hkey rfl eg
          · exact q2.elim
          · exact ⟨q2, q1⟩
        · exact (hr3.heap key _ hkey).flatRow hflat rfl
        · cases hu with
          | ref _ _ _ blk _ hb hv hone h =>
            have e : blk = .row ver t sz rows := by rw [show (ctx E s w2 S' own).H key = some (.row ver t sz rows) from hkey] at hb; exact (Option.some.inj hb).symm
            subst e
            have h := h rfl
            refine ⟨?_, hone⟩
            change RefVal w2 (own key) _ _ _ at h
            revert h
            cases own key <;> exact id
      · obtain ⟨S', own, C, D, Ds, hr⟩ := hr
        rw [hr.defers]
        refine hr.leaves noJ_ok rfl hres fun a2 w2 u hr3 hu => ⟨u, none, S', rfl, ?_, (fun g eg => by cases eg), ⟨hrows, hsz⟩, ?_⟩
        · exact ⟨hr3.fr.os, hr3.fr.tape, hr3.fr.output, hr3.fr.size, fun k hk => hr3.fr.block k hk id⟩
        · cases hu
          exact ⟨rfl, rfl⟩
    rintro e a' w' ⟨s, hΦ, hr⟩
    cases e with
    | normal => exact key s a' w' hΦ hr
    | ret => exact key s a' w' hΦ hr
    | _ => exact hΦ.elim


/-! ### Contracts that turn memory, out of the walk -/
def subA (h : List (Nat × Blk)) : List (Nat × Blk) → Prop
  | [] => True
  | (k, b) :: r => lookB h k = some b ∧ subA h r
theorem lookB_of_subA {h : List (Nat × Blk)} : ∀ {h' : List (Nat × Blk)} {k : Nat} {b : Blk}, subA h h' → lookB h' k = some b → lookB h k = some b
  | [], k, b, _, hk => by cases hk
  | (j, c) :: r, k, b, hs, hk => by
    unfold lookB at hk
    by_cases e : j = k
    · subst e; rw [if_pos rfl] at hk; cases hk; exact hs.1
    · rw [if_neg e] at hk; exact lookB_of_subA hs.2 hk
/-- Where h' is a part of h: less is known. -/
theorem hls_le {h h' : List (Nat × Blk)} (hs : subA h h') (vs : Nat → Nat) (k : Nat) :
    hls h' (fun k => ver0 (hls h vs) k) k = hls h vs k ∨ ∃ v, hls h' (fun k => ver0 (hls h vs) k) k = some (.dead v) ∧ ∀ b, hls h vs k = some b → b.ver ≤ v := by
  cases e : lookB h' k with
  | some b => left; rw [hls_some e, hls_some (lookB_of_subA hs e)]
  | none =>
    right
    refine ⟨_, hls_none e, fun b hb => ?_⟩
    unfold ver0
    rw [hb]
    exact Nat.le_refl _
def retHW (P : Program) (rs : List ResultVar) (Q : AV → List (Nat × Blk) → Prop) (s : St) : Prop :=
  ∃ (fz : Bool) (v : AV) (L : List (Nat × Blk)) (VS : Nat → Nat) (l' : List (Nat × Blk)), resV P s.τ s.H rs = some v ∧ (if fz then frz s.H v else s.H) = hls L VS ∧ subA L l' ∧ Q (if fz then pur (frz s.H v) v else v) l'
def retHK (P : Program) (rs : List ResultVar) (Q : AV → List (Nat × Blk) → Prop) : Exit → St → Prop
  | .normal, s => retHW P rs Q s
  | .ret, s => retHW P rs Q s
  | _, _ => False

theorem HSpecL.of_awp {P : Program} {f : FuncId} {fn : Func} {c : Code} {args : List AV} {l : List (Nat × Blk)} {Q : AV → List (Nat × Blk) → Prop} (hf : P.funcs[f]? = some fn) (hb : fn.body = some c) (hname : (fn.name == "runtime.NumGoroutine") = false) (hok : codeOk fn.ntmps c = true) (hn : args.length ≤ fn.ntmps)
    (h : ∀ vs, ∃ s0, St.le ⟨argτ args, hls l vs, noG⟩ s0 ∧ awp P c (retHK P fn.results.toList Q) s0) : HSpecL P f args l Q := fun vs => {
  enters := fun as w => by
    unfold callFunc
    simp only [Sem.run_bind, run_program, Result.andThen_ok, hf, hname, hb]
    simp
  calls := fun C0 vs0 hH hC hvs => by
    obtain ⟨s0, hle, h⟩ := h vs
    refine callsIn_of_wp_marks hf hb trivial ?_ rfl
    let E : Env := ⟨P, fn.ntmps, C0.w, C0.S, LiveC C0, noJ, C0.l, C0, fun _ => False, fun _ => False, false⟩
    have hrel : RelAt E ⟨argτ args, hls l vs, noG⟩ { tmps := vs0.toArray ++ Array.replicate (fn.ntmps - vs0.toArray.size) undef, defers := [] } C0.w C0.S C0.own (fun _ => False) (fun _ => False) [] := {
      fr := ⟨rfl, rfl, rfl, Nat.le_refl _, fun _ _ _ => rfl⟩
      hS := fun b hb => ⟨hC.hS b hb, id, .inl hb⟩
      hS0 := fun b hb => hb
      hC := fun b hb => hb.elim
      hD := fun b hb => hb.elim
      j := ⟨rfl, fun _ h => h, fun _ h => h⟩
      hown := fun k blk g hk hl e => by
        rw [← hH] at hk
        obtain ⟨q1, q2⟩ := hC.hown k blk g hk hl e
        exact ⟨q1, q2, id, .inl ⟨k, blk, hk, hl, e⟩⟩
      inj := fun k k' b b' g hk hk' => by
        rw [← hH] at hk hk'
        exact hC.inj k k' b b' g hk hk'
      heap := fun k blk hk => by
        rw [← hH] at hk
        have := hC.heap k blk hk
        rw [← hH]
        exact this
      tmps := fun i => by
        have hlen := hvs.1
        show R ⟨hls l vs, C0.own, C0.S, C0.w, C0.l⟩ (args.getD i (.tup [])) _
        rw [← hH]
        rw [Array.getD_eq_getD_getElem?, Array.getElem?_append]
        simp only [List.size_toArray]
        by_cases hi : i < vs0.length
        · rw [if_pos hi, List.getD_eq_getElem?_getD, List.getElem?_eq_getElem (by omega)]
          have := hvs.2 i args[i] (List.getElem?_eq_getElem (by omega))
          rw [List.getD_eq_getElem?_getD, List.getElem?_eq_getElem hi] at this
          simpa [hi] using this
        · rw [if_neg hi, List.getD_eq_getElem?_getD, List.getElem?_eq_none (by omega)]
          have hu : ((Array.replicate (fn.ntmps - vs0.length) undef)[i - vs0.length]?).getD undef = undef := by
            rw [Array.getElem?_replicate]
            split <;> rfl
          rw [hu]
          exact .tup [] [] rfl fun i a hi => by simp at hi
      size := by
        have := hvs.1
        show (vs0.toArray ++ Array.replicate (fn.ntmps - vs0.toArray.size) undef).size = fn.ntmps
        simp
        omega
      defers := rfl
      hDs := fun d hd => by simp at hd
      nodup := List.nodup_nil
      le := by rw [← hH]; exact .refl _
      cd := ⟨fun _ h => h, fun _ h => h.elim, fun _ h => h, fun _ h => h.elim⟩
      fix := fun e => by cases e }
    refine wpIn_mono (awp_sound (E := E) noJ_ok (noJ_yok P C0.l _) rfl c _ _ _ C0.w hok h (Rel.weaken ⟨C0.S, _, _, _, [], hrel⟩ hle)) ?_
    have key : ∀ s a' w', retHW P fn.results.toList Q s → Rel E s a' w' →
        LeavesInM (FW none) 0 P fn a'.tmps (fun e w' => ∃ v r C', e = .returned v ∧ C'.w = w' ∧ HOk C' ∧ HTr C0 C' ∧ R C' r v ∧ ∃ l' vs', C'.H = hls l' vs' ∧ Q r l') a'.defers .returning w' := by
      rintro s a' w' ⟨fz, v, L, VS, l', hres, hHL, hsub, hQ⟩ hr
      obtain ⟨S', own, C, D, Ds, hr⟩ := hr
      rw [hr.defers]
      refine hr.leaves noJ_ok rfl hres fun a2 w2 u hr3 hu => ?_
      have fin : ∀ (s2 : St) (S2 : Nat → Prop) (r : AV), s2.H = hls L VS → RelAt E s2 a2 w2 S2 own C D [] → R (ctx E s2 w2 S2 own) r u → Q r l' →
          ∃ v r C', Ending.returned u = .returned v ∧ C'.w = w2 ∧ HOk C' ∧ HTr C0 C' ∧ R C' r v ∧ ∃ l' vs', C'.H = hls l' vs' ∧ Q r l' := fun s2 S2 r hH2 hr4 hu4 hq => by
        have hw := Rel.weakenAt hr4 (s' := { s2 with H := hls l' (fun k => ver0 (hls L VS) k) }) ⟨fun _ => .inl rfl, fun k => by show hls l' _ k = s2.H k ∨ _; rw [hH2]; exact hls_le hsub VS k, rfl⟩
        obtain ⟨hr5, hc5⟩ := hw
        refine ⟨u, r, ⟨hls l' (fun k => ver0 (hls L VS) k), own, S2, w2, C0.l⟩, rfl, rfl, ?_, ?_, hu4.mono hc5, l', _, rfl, hq⟩
        · exact ⟨fun b hb => (hr5.hS b hb).1, fun k blk g hk hl e => ⟨(hr5.hown k blk g hk hl e).1, (hr5.hown k blk g hk hl e).2.1⟩, hr5.inj, hr5.heap⟩
        · refine ⟨hr5.le, ⟨hr5.fr.os, hr5.fr.tape, hr5.fr.output, hr5.fr.size, hr5.fr.block⟩, fun b hb => (hr5.hS b hb).2.2, fun k blk g hk hl e => (hr5.hown k blk g hk hl e).2.2.2⟩
      cases fz with
      | false => exact fin s S' v hHL hr3 hu hQ
      | true =>
        obtain ⟨S2, hr4, hle⟩ := frz_ok E s a2 w2 S' own C D [] v hr3
        exact fin { s with H := frz s.H v } S2 _ hHL hr4 (R.pur (C := ctx E { s with H := frz s.H v } w2 S2 own) hr4.heap (hu.mono hle)) hQ
    rintro e a' w' ⟨s, hΦ, hr⟩
    cases e with
    | normal => exact key s a' w' hΦ hr
    | ret => exact key s a' w' hΦ hr
    | _ => exact hΦ.elim }


/-! ### Iterators, out of the walk -/
def retYW (P : Program) (rs : List ResultVar) (rt rf : AV) (rest : List (List AV)) (s : St) : Prop :=
  bindO (resV P s.τ s.H rs) fun v => (s.g = ⟨rest, false⟩ ∧ v = rt) ∨ (s.g.stop = true ∧ v = rf)
def retYK (P : Program) (rs : List ResultVar) (rt rf : AV) (rest : List (List AV)) : Exit → St → Prop
  | .normal, s => retYW P rs rt rf rest s
  | .ret, s => retYW P rs rt rf rest s
  | _, _ => False
/-- The temporaries of an iterator at its start, and its heap. -/
theorem SpecY.of_awp {P : Program} {f : FuncId} {fn : Func} {c : Code} {args : List AV} {xs : List (List AV)} {rt rf : AV} (hft : flat rt = true) (hff : flat rf = true) (hf : P.funcs[f]? = some fn) (hb : fn.body = some c) (hname : (fn.name == "runtime.NumGoroutine") = false)
    (hok : codeOk fn.ntmps c = true) (hn : args.length ≤ fn.ntmps) (h : ∀ rest, ∃ s0, St.le ⟨argτ args, fun _ => none, ⟨xs ++ rest, false⟩⟩ s0 ∧ awp P c (retYK P fn.results.toList rt rf rest) s0) : SpecY P f args xs rt rf where
  enters := fun as w => by
    unfold callFunc
    simp only [Sem.run_bind, run_program, Result.andThen_ok, hf, hname, hb]
    simp
  ft := hft
  ff := hff
  calls := fun J l rest C D w S vs hJ hY hj hCD hD hS hvs => by
    obtain ⟨s0, hle, h⟩ := h rest
    refine callsIn_of_wp_marks hf hb trivial ?_ rfl
    let E : Env := ⟨P, fn.ntmps, w, S, C, J, l, ⟨fun _ => none, fun _ => none, S, w, l⟩, C, D, false⟩
    have hrel : RelAt E ⟨argτ args, fun _ => none, ⟨xs ++ rest, false⟩⟩ { tmps := vs.toArray ++ Array.replicate (fn.ntmps - vs.toArray.size) undef, defers := [] } w S (fun _ => none) C D [] := {
      fr := ⟨rfl, rfl, rfl, Nat.le_refl _, fun _ _ _ => rfl⟩
      hS := fun b hb => ⟨(hS b hb).1, (hS b hb).2, .inl hb⟩
      hS0 := fun b hb => hb
      hC := fun b hb => ⟨hCD b hb, .inl hb⟩
      hD := hD
      j := hj
      hown := fun k blk g hk => by cases hk
      inj := fun k k' b b' g hk => by cases hk
      heap := fun k blk hk => by cases hk
      tmps := fun i => by
        have hlen := hvs.1
        show R (bare S w l) (args.getD i (.tup [])) _
        rw [Array.getD_eq_getD_getElem?, Array.getElem?_append]
        simp only [List.size_toArray]
        by_cases hi : i < vs.length
        · rw [if_pos hi, List.getD_eq_getElem?_getD, List.getElem?_eq_getElem (by omega)]
          have := hvs.2 i args[i] (List.getElem?_eq_getElem (by omega))
          rw [List.getD_eq_getElem?_getD, List.getElem?_eq_getElem hi] at this
          simpa [hi] using this
        · rw [if_neg hi, List.getD_eq_getElem?_getD, List.getElem?_eq_none (by omega)]
          have hu : ((Array.replicate (fn.ntmps - vs.length) undef)[i - vs.length]?).getD undef = undef := by
            rw [Array.getElem?_replicate]
            split <;> rfl
          rw [hu]
          exact .tup [] [] rfl fun i a hi => by simp at hi
      size := by
        have := hvs.1
        show (vs.toArray ++ Array.replicate (fn.ntmps - vs.toArray.size) undef).size = fn.ntmps
        simp
        omega
      defers := rfl
      hDs := fun d hd => by simp at hd
      nodup := List.nodup_nil
      le := .refl _
      cd := ⟨fun _ h => h, fun _ h => .inl h, fun _ h => h, fun _ h => .inl h⟩
      fix := fun e => by cases e }
    refine wpIn_mono (awp_sound (E := E) hJ hY rfl c _ _ _ w hok h (Rel.weaken ⟨S, _, _, _, [], hrel⟩ hle)) ?_
    have key : ∀ s a' w', retYW P fn.results.toList rt rf rest s → Rel E s a' w' →
        LeavesInM (FW none) 0 P fn a'.tmps (fun e w' => ∃ v C' D', e = .returned v ∧ Turned w w' S C D C' D' ∧
          ((J ⟨rest, false⟩ C' D' w' ∧ R (bare S w' l) rt v) ∨ ∃ t, J ⟨t, true⟩ C' D' w' ∧ R (bare S w' l) rf v)) a'.defers .returning w' := by
      rintro s a' w' hret hr
      unfold retYW at hret
      cases hres : resV P s.τ s.H fn.results.toList with
      | none => rw [hres] at hret; exact hret.elim
      | some v =>
        rw [hres] at hret
        obtain ⟨S', own, C', D', Ds, hr⟩ := hr
        rw [hr.defers]
        refine hr.leaves hJ rfl hres fun a2 w2 u hr3 hu => ⟨u, C', D', rfl, ?_, ?_⟩
        · refine ⟨⟨hr3.fr.os, hr3.fr.tape, hr3.fr.output, hr3.fr.size, hr3.fr.block⟩, hr3.cd.c0, hr3.cd.c1, hr3.cd.d0, fun b hb => ?_, fun b hb => (hr3.hC b hb).1, hr3.hD⟩
          rcases hr3.cd.d1 b hb with q | q | q | q
          · exact .inl q
          · exact .inr (.inl q)
          · exact .inl (hCD b q)
          · exact .inr (.inr q)
        · have hj3 : J s.g C' D' w2 := hr3.j
          rcases hret with ⟨hg, rfl⟩ | ⟨hg, rfl⟩
          · exact .inl ⟨hg ▸ hj3, hu.flat hft⟩
          · refine .inr ⟨s.g.todo, ?_, hu.flat hff⟩
            have : (⟨s.g.todo, true⟩ : G) = s.g := by rw [← hg]
            rw [this]
            exact hj3
    rintro e a' w' ⟨s, hΦ, hr⟩
    cases e with
    | normal => exact key s a' w' hΦ hr
    | ret => exact key s a' w' hΦ hr
    | _ => exact hΦ.elim

end Go.Am
