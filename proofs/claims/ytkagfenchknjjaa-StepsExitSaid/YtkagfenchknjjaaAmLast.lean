import Derived.Test.YtkagfenchknjjaaAmDraw
set_option linter.unusedVariables false
set_option linter.unusedSimpArgs false
namespace Go.Am
open Go.RowKit

/-! ### Regions that draw, whose last operation is a call behind all others: it may yield -/
def isCallV : Op → Bool
  | .call c => match c.callee with
    | .value _ => true
    | _ => false
  | _ => false
def noGuards (l : List Oper) : Bool := l.all fun o => o.guard.isNone
def lastOk (ops : Array Oper) (A : List Nat) : Bool :=
  (match ops.toList.getLast? with | some o => isCallV o.op | none => false) && (noGuards ops.toList && (allBelow (ops.size - 1) (fun j => before A ops.size j (ops.size - 1)) && (edgesOk ops .any && (modeOk ops .text && modeOk ops .gc))))
noncomputable abbrev lastW (P : Program) (ops : Array Oper) (s : St) (K : St → Prop) : Prop := match ops.toList.getLast? with
  | some o => opW P false o s K
  | none => False
def initOps (ops : Array Oper) : Array Oper := ops.toList.dropLast.toArray

theorem noGuards_get {l : List Oper} (h : noGuards l = true) (o : Oper) (ho : o ∈ l) : o.guard = none := by
  have := List.all_eq_true.1 h o ho
  simpa using this
theorem initOps_size (ops : Array Oper) : (initOps ops).size = ops.size - 1 := by simp [initOps]
theorem initOps_get {ops : Array Oper} {i : Nat} (h : i < ops.size - 1) : (initOps ops)[i]? = ops[i]? := by
  unfold initOps
  rw [List.getElem?_toArray, List.getElem?_dropLast]
  simp [h]
theorem initOps_some {ops : Array Oper} {i : Nat} {o : Oper} (h : (initOps ops)[i]? = some o) : i < ops.size - 1 ∧ ops[i]? = some o := by
  have h1 := (Array.getElem?_eq_some_iff.1 h).1
  rw [initOps_size] at h1
  exact ⟨h1, by rw [← initOps_get h1]; exact h⟩

theorem goL_sound {P : Program} {ops : Array Oper} {A A' : List Nat} (hA : AncOk ops A) (hA' : AncOk (initOps ops) A') {s0 : St} {K : St → Prop} {v : Nat → AV} {h : Nat → Heap} {tx : Nat → Nat → AV} {md : Region.Mode} (hok : drawOk (initOps ops) A' = true) (hmd : modeOk ops md = true)
    (htr : Tr P (initOps ops) 0 v h tx) (hck : ∀ i, ∀ r ∈ riskOf (initOps ops) A' i, compat (ftAt (initOps ops) tx r) (ftAt (initOps ops) tx i) = true) {last : Oper} (hlast : ops[ops.size - 1]? = some last)
    (hb : ∀ j, j < ops.size - 1 → before A ops.size j (ops.size - 1) = true) (hgs : ∀ (j : Nat) (o : Oper), ops[j]? = some o → o.guard = none) (hK : StepR P ⟨tx (ops.size - 1), h (ops.size - 1), s0.g⟩ last K) :
    ∀ (fuel t : Nat) (listed : Array Bool) (s : St), listed.size = ops.size → listed.toList.countP (fun b => !b) = fuel → Shut ops (Lst listed) → ¬ Lst listed (ops.size - 1) →
      Inv s0 (initOps ops) v h tx (fun j => j < ops.size - 1 ∧ Lst listed j) s → awpIdx P ops (Region.linearise.go md ops fuel t listed []) s K := by
  intro fuel
  have hpos : ops.size - 1 < ops.size := (Array.getElem?_eq_some_iff.1 hlast).1
  induction fuel with
  | zero =>
    intro t listed s hsz hc hS hn hI
    exfalso
    refine hn ?_
    have h1 := List.countP_eq_zero.1 hc
    have hj2 : ops.size - 1 < listed.size := by omega
    have := h1 listed[ops.size - 1] (by simp [Array.getElem_mem_toList])
    simpa [Lst, Array.getD_eq_getD_getElem?, hj2] using this
  | succ fuel ih =>
    intro t listed s hsz hc hS hn hI
    simp only [Region.linearise.go]
    change awpIdx P ops (match (Region.ready md ops listed)[t % (Region.ready md ops listed).length]? with
      | some i => Region.linearise.go md ops fuel (t / (Region.ready md ops listed).length) (listed.setIfInBounds i true) [i]
      | none => [].reverse) s K
    cases hi : (Region.ready md ops listed)[t % (Region.ready md ops listed).length]? with
    | none =>
      exfalso
      have hnil : Region.ready md ops listed = [] := by
        cases hr : Region.ready md ops listed with
        | nil => rfl
        | cons x xs =>
          rw [hr] at hi
          have hlt : t % (x :: xs).length < (x :: xs).length := Nat.mod_lt _ (by simp)
          simp at hi
          simp at hlt
          omega
      refine modeOk_ready hmd listed hsz ⟨ops.size - 1, hpos, ?_⟩ hnil
      have hj2 : ops.size - 1 < listed.size := by omega
      simpa [Lst, Array.getD_eq_getD_getElem?, hj2] using hn
    | some i =>
      simp only []
      rw [linearise_go_acc, List.reverse_singleton, List.singleton_append]
      obtain ⟨hl, o, ho, hpre⟩ := mem_ready.1 (List.mem_of_getElem? hi)
      have hlt : i < ops.size := (Array.getElem?_eq_some_iff.1 ho).1
      have hi2 : i < listed.size := by omega
      have hli : listed[i] = false := by simpa [Array.getD_eq_getD_getElem?, hi2] using hl
      have hnl : ¬ Lst listed i := by simp [Lst, Array.getD_eq_getD_getElem?, hi2, hli]
      have hcnt : (listed.setIfInBounds i true).toList.countP (fun b => !b) = fuel := by
        rw [Array.toList_setIfInBounds, List.countP_set (by simpa using hi2)]
        have hpos : 0 < listed.toList.countP (fun b => !b) := by rw [hc]; omega
        have e : listed.toList[i]'(by simpa using hi2) = false := by simpa using hli
        simp [e, hc]
      have hX : Shut ops fun m => Lst listed m ∨ m = i := fun m om hm hx e he hbd => by
        rcases hx with hx | rfl
        · exact .inl (hS m om hm hx e he hbd)
        · rw [ho] at hm
          cases hm
          exact .inl (hpre e he (binds_any hbd))
      have hX2 : Shut ops (Lst (listed.setIfInBounds i true)) := fun m om hm hx e he hbd => (set_lst hi2 _).2 (hX m om hm ((set_lst hi2 _).1 hx) e he hbd)
      unfold awpIdx
      rw [ho]
      dsimp only
      rw [hgs i o ho]
      by_cases em : i = ops.size - 1
      · have hall : ∀ j, j < ops.size - 1 → Lst listed j := fun j hj => (before_mem hA hX hlt (by rw [em]; exact hb j hj) (.inr rfl)).resolve_right (by omega)
        have es : s = ⟨tx (initOps ops).size, h (initOps ops).size, s0.g⟩ := hI.all hok htr fun j hj => by rw [initOps_size] at hj; exact ⟨hj, hall j hj⟩
        rw [initOps_size] at es
        have eo : o = last := by rw [em, hlast] at ho; exact (Option.some.inj ho).symm
        have ef : fuel = 0 := by
          rw [← hcnt]
          refine List.countP_eq_zero.2 fun b hb2 => ?_
          obtain ⟨j, hj, rfl⟩ := List.getElem_of_mem hb2
          have hj2 : j < ops.size := by simpa [hsz] using hj
          have : Lst (listed.setIfInBounds i true) j := (set_lst hi2 j).2 (by
            by_cases e : j = i
            · exact .inr e
            · exact .inl (hall j (by omega)))
          have hj3 : j < listed.size := by omega
          have h2 : (listed.setIfInBounds i true)[j]'(by simpa using hj3) = true := by simpa [Lst, Array.getD_eq_getD_getElem?, hj3] using this
          have h5 : (listed.setIfInBounds i true).toList[j]'hj = true := by rw [Array.getElem_toList]; exact h2
          rw [h5]; simp
        subst ef
        rw [es, eo]
        exact hK
      · have hi3 : i < ops.size - 1 := by omega
        have hoI : (initOps ops)[i]? = some o := by rw [initOps_get hi3]; exact ho
        have := hI.next hA' (K := fun s => awpIdx P ops (Region.linearise.go md ops fuel (t / (Region.ready md ops listed).length) (listed.setIfInBounds i true) []) s K) hok htr hck (i := i) (fun hx => hnl hx.2) hoI
          (fun e he hbd => ⟨by
            have h1 := hpre e he (binds_any hbd)
            have h2 : e.on ≠ ops.size - 1 := fun e2 => hn (by rw [← e2]; exact h1)
            have h3 : e.on < listed.size := by
              by_cases h4 : e.on < listed.size
              · exact h4
              · simp [Array.getD_eq_getD_getElem?, Array.getElem?_eq_none (Nat.le_of_not_lt h4)] at h1
            omega, hpre e he (binds_any hbd)⟩) fun s' hI' => ih _ _ s' (by simp [hsz]) hcnt hX2 (fun hx => ((set_lst hi2 _).1 hx).elim hn fun e => em e.symm) (hI'.ext fun j => by
              rw [set_lst hi2 j]
              constructor
              · rintro ⟨h1, h2 | h2⟩
                · exact .inl ⟨h1, h2⟩
                · exact .inr h2
              · rintro (⟨h1, h2⟩ | rfl)
                · exact ⟨h1, .inl h2⟩
                · exact ⟨hi3, .inr rfl⟩)
        rw [hgs i o ho] at this
        exact this

/-- A region that draws; a call that stands behind all else may yield. -/
noncomputable abbrev awpDrawX (P : Program) (ops : Array Oper) (s : St) (K : St → Prop) : Prop :=
  ancsK ops.toList [] 0 fun A => match lastOk ops A with
    | true => ancsK (initOps ops).toList [] 0 fun A' => match drawOk (initOps ops) A' with
      | true => awpD P (initOps ops) A' (initOps ops).toList 0 [] s fun s' => lastW P ops s' K
      | false => False
    | false => awpDraw P ops s K
theorem awpDX_sound {P : Program} {ops : Array Oper} {s : St} {K : St → Prop} (h : awpDrawX P ops s K) (mixed : Bool) (t : Nat) : awpIdx P ops (Region.schedule mixed ops t) s K := by
  unfold awpDrawX at h
  rw [ancsK_eq] at h
  split at h
  · rename_i hl
    rw [ancsK_eq] at h
    split at h
    · rename_i hok
      simp only [lastOk, Bool.and_eq_true] at hl
      obtain ⟨h1, h2, h3, h4, h5, h6⟩ := hl
      obtain ⟨last, hlast⟩ : ∃ o, ops.toList.getLast? = some o := by
        cases hg : ops.toList.getLast? with
        | none => rw [hg] at h1; simp at h1
        | some o => exact ⟨o, rfl⟩
      have hlast' : ops[ops.size - 1]? = some last := by
        rw [List.getLast?_eq_getElem?] at hlast
        simpa using hlast
      have hA : AncOk ops _ := fun X hX i j hi hb hx => ancs_good (fun i o ho => edgesOk_lt h4 ho) hX ops.toList [] 0 rfl (Nat.zero_le _) rfl (fun a j ha => by omega) i j hi hb hx
      have hA' : AncOk (initOps ops) _ := fun X hX i j hi hb hx => ancs_good (fun i o ho => drawOk_edge hok ho) hX (initOps ops).toList [] 0 rfl (Nat.zero_le _) rfl (fun a j ha => by omega) i j hi hb hx
      obtain ⟨v, hh, tx, e1, e2, htr, hK, hck⟩ := awpD_trace (initOps ops).toList 0 [] s rfl rfl h
      have hK := hK (Nat.zero_le _)
      have hpos : ops.size - 1 < ops.size := (Array.getElem?_eq_some_iff.1 hlast').1
      have hno : ∀ j, ¬ Lst (Array.replicate ops.size false) j := fun j hj => by
        unfold Lst at hj
        rw [Array.getD_eq_getD_getElem?, Array.getElem?_replicate] at hj
        split at hj <;> simp at hj
      have hI : Inv s (initOps ops) v hh tx (fun j => j < ops.size - 1 ∧ Lst (Array.replicate ops.size false) j) s := {
        lt := fun j hj => (hno j hj.2).elim
        cl := fun j o _ hj => (hno j hj.2).elim
        t0 := fun d _ => by rw [e1]
        t1 := fun j o d _ hj => (hno j hj.2).elim
        h0 := fun k _ => by rw [e2]
        h1 := fun k j hj => (hno j hj.2).elim
        g := rfl }
      have hst : StepR P ⟨tx (ops.size - 1), hh (ops.size - 1), s.g⟩ last K := by
        rw [initOps_size] at hK
        unfold lastW at hK
        rw [hlast] at hK
        exact opW_StepR hK
      have hmd : ∀ md, modeOk ops md = true := fun md => by
        cases md with
        | text => exact h5
        | gc => exact h6
        | any => unfold modeOk; rw [h4]; rfl
      have key : ∀ md t, awpIdx P ops (Region.linearise md ops t) s K := fun md t => by
        unfold Region.linearise
        refine goL_sound hA hA' hok (hmd md) htr (fun i r hr => (hck i (Nat.zero_le _) r hr).2 (Nat.zero_le _)) hlast' (fun j hj => allBelow_iff.1 h3 j hj) (fun j o ho => noGuards_get h2 o (by simpa using Array.mem_of_getElem? ho)) hst _ t _ s (by simp) ?_ (fun j o _ hj => (hno j hj).elim) (hno _) hI
        rw [Array.toList_replicate, List.countP_replicate]
        simp
      unfold Region.schedule
      split
      · exact key _ _
      · exact key _ _
    · exact h.elim
  · exact awpD_sound h mixed t

end Go.Am
