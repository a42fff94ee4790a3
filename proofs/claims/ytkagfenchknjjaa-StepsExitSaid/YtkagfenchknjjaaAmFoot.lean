import Derived.Test.YtkagfenchknjjaaAmSound
set_option linter.unusedVariables false
set_option linter.unusedSimpArgs false
namespace Go.Am
open Go.RowKit

/-! ### Which blocks a value hangs on -/
mutual
def occ : AV → List Nat
  | .ref k _ _ => [k]
  | .agg cs | .tup cs | .elt cs _ | .func _ cs => occL cs
  | .sl rows | .slt rows => occLL rows
  | _ => []
def occL : List AV → List Nat
  | [] => []
  | c :: cs => occ c ++ occL cs
def occLL : List (List AV) → List Nat
  | [] => []
  | r :: rs => occL r ++ occLL rs
end
mutual
theorem occ_closed : ∀ {a : AV}, closed a = true → occ a = []
  | .agg cs, h => by simp only [closed] at h; simp only [occ]; exact occL_closed h
  | .tup cs, h => by simp only [closed] at h; simp only [occ]; exact occL_closed h
  | .elt cs _, h => by simp only [closed] at h; simp only [occ]; exact occL_closed h
  | .func _ cs, h => by simp only [closed] at h; simp only [occ]; exact occL_closed h
  | .sl rows, h => by simp only [closed] at h; simp only [occ]; exact occLL_closed h
  | .slt rows, h => by simp only [closed] at h; simp only [occ]; exact occLL_closed h
  | .any, h => rfl
  | .int _ _, h => rfl
  | .bool _, h => rfl
  | .str _, h => rfl
  | .nils, h => rfl
  | .nilf, h => rfl
  | .nilp, h => rfl
  | .yld, h => rfl
  | .ref _ _ _, h => by simp [closed] at h
theorem occL_closed : ∀ {l : List AV}, closedL l = true → occL l = []
  | [], _ => rfl
  | c :: cs, h => by
    simp only [closedL, Bool.and_eq_true] at h
    simp only [occL, occ_closed h.1, occL_closed h.2, List.append_nil]
theorem occLL_closed : ∀ {l : List (List AV)}, closedLL l = true → occLL l = []
  | [], _ => rfl
  | c :: cs, h => by
    simp only [closedLL, Bool.and_eq_true] at h
    simp only [occLL, occL_closed h.1, occLL_closed h.2, List.append_nil]
end
theorem occ_mem {x : AV} {l : List AV} (hx : x ∈ l) {k : Nat} (hk : k ∈ occ x) : k ∈ occL l := by
  induction l with
  | nil => simp at hx
  | cons c cs ih =>
    simp only [occL, List.mem_append]
    rcases List.mem_cons.1 hx with rfl | hx
    · exact .inl hk
    · exact .inr (ih hx)

section
variable {H H2 : Heap} {x : AV}
theorem rdV_congr (h : ∀ k ∈ occ x, H2 k = H k) (n : Nat) (ag : Bool) : rdV H2 n ag x = rdV H n ag x := by
  cases x with
  | ref k v r => have := h k (by simp [occ]); cases r <;> simp [rdV, this]
  | _ => rfl
theorem addA_congr (h : ∀ k ∈ occ x, H2 k = H k) (n : Nat) : addA H2 n x = addA H n x := by
  cases x with
  | ref k v r => have := h k (by simp [occ]); cases r <;> simp [addA, this]
  | _ => rfl
theorem ixA_congr (h : ∀ k ∈ occ x, H2 k = H k) (n : Nat) (i : Int) : ixA H2 n i x = ixA H n i x := by
  cases x with
  | ref k v r => have := h k (by simp [occ]); cases r <;> simp [ixA, this]
  | _ => rfl
theorem lenA_congr (h : ∀ k ∈ occ x, H2 k = H k) : lenA H2 x = lenA H x := by
  cases x with
  | ref k v r => have := h k (by simp [occ]); cases r <;> simp [lenA, this]
  | _ => rfl
theorem rowsA_congr (h : ∀ k ∈ occ x, H2 k = H k) : rowsA H2 x = rowsA H x := by
  cases x with
  | ref k v r => have := h k (by simp [occ]); cases r <;> simp [rowsA, this]
  | _ => rfl
theorem srcA_congr (h : ∀ k ∈ occ x, H2 k = H k) (n : Nat) : srcA H2 n x = srcA H n x := by
  cases x with
  | ref k v r => have := h k (by simp [occ]); cases r <;> simp [srcA, this]
  | _ => rfl
theorem okPtr_congr (h : ∀ k ∈ occ x, H2 k = H k) : okPtr H2 x = okPtr H x := by
  cases x with
  | ref k v r => have := h k (by simp [occ]); cases r <;> simp [okPtr, this]
  | _ => rfl
theorem wrV_frame (h : ∀ k ∈ occ x, H2 k = H k) {n : Nat} {ys : List AV} {H' : Heap} (hw : wrV H n ys x = some H') :
    ∃ k b, k ∈ occ x ∧ H' = upd H k (some b) ∧ wrV H2 n ys x = some (upd H2 k (some b)) := by
  unfold wrV at hw
  split at hw
  · rename_i k ver off
    have e := h k (by simp [occ])
    split at hw
    · rename_i v t cells hk
      split at hw
      · rename_i hc
        cases hw
        refine ⟨k, _, by simp [occ], rfl, ?_⟩
        unfold wrV
        simp only [e, hk, if_pos hc]
      · cases hw
    · cases hw
  · rename_i k ver i off
    have e := h k (by simp [occ])
    split at hw
    · rename_i v t sz rows hk
      split at hw
      · rename_i r hr
        split at hw
        · rename_i hc
          cases hw
          refine ⟨k, _, by simp [occ], rfl, ?_⟩
          unfold wrV
          simp only [e, hk, hr, if_pos hc]
        · cases hw
      · cases hw
    · cases hw
  · cases hw
theorem pur0_congr (h : ∀ k ∈ occ x, H2 k = H k) : pur0 H2 x = pur0 H x := by
  cases x with
  | ref k v r => have := h k (by simp [occ]); cases r <;> simp [pur0, this]
  | _ => rfl
theorem pur1_congr (h : ∀ k ∈ occ x, H2 k = H k) : pur1 H2 x = pur1 H x := by
  cases x with
  | agg cs => simp only [pur1]; exact congrArg _ (List.map_congr_left fun a ha => pur0_congr fun k hk => h k (by simp only [occ]; exact occ_mem ha hk))
  | func f cs => simp only [pur1]; exact congrArg _ (List.map_congr_left fun a ha => pur0_congr fun k hk => h k (by simp only [occ]; exact occ_mem ha hk))
  | _ => exact pur0_congr h
theorem pur_congr (h : ∀ k ∈ occ x, H2 k = H k) : pur H2 x = pur H x := by
  cases x with
  | tup cs => simp only [pur]; exact congrArg _ (List.map_congr_left fun a ha => pur1_congr fun k hk => h k (by simp only [occ]; exact occ_mem ha hk))
  | _ => exact pur1_congr h
end

/-- A step of the heap alone that hangs on, and turns, but what occurs. -/
def Loc {α : Type} (oc : α → List Nat) (f : Heap → α → Heap) : Prop := (∀ (H : Heap) (x : α) (k : Nat), k ∉ oc x → f H x k = H k) ∧
  ∀ (H H2 : Heap) (x : α) (A : Nat → Prop), (∀ k ∈ oc x, A k) → (∀ k, A k → H2 k = H k) → ∀ k, A k → f H2 x k = f H x k
theorem frz0_loc : Loc occ frz0 := by
  refine ⟨fun H x k hk => ?_, fun H H2 x A hA h k hk => ?_⟩
  · unfold frz0
    split
    · rename_i k' ver
      have : k ≠ k' := by simpa [occ] using hk
      cases hb : H k' with
      | none => rfl
      | some b =>
        cases b with
        | row v t sz rows =>
          dsimp only
          split
          · exact upd_other _ _ _ _ this
          · rfl
        | _ => rfl
    · rfl
  · unfold frz0
    split
    · rename_i k' ver
      have e := h k' (hA k' (by simp [occ]))
      rw [e]
      cases hb : H k' with
      | none => exact h k hk
      | some b =>
        cases b with
        | row v t sz rows =>
          dsimp only
          split
          · unfold upd; split
            · rfl
            · exact h k hk
          · exact h k hk
        | _ => exact h k hk
    · exact h k hk
theorem frzB_loc : Loc occ frzB := by
  refine ⟨fun H x k hk => ?_, fun H H2 x A hA h k hk => ?_⟩
  · unfold frzB
    split
    · rename_i k' ver _
      have : k ≠ k' := by simpa [occ] using hk
      cases hb : H k' with
      | none => rfl
      | some b =>
        cases b with
        | box v t cells =>
          dsimp only
          split
          · exact upd_other _ _ _ _ this
          · rfl
        | _ => rfl
    · exact frz0_loc.1 H x k hk
  · unfold frzB
    split
    · rename_i k' ver _
      have e := h k' (hA k' (by simp [occ]))
      rw [e]
      cases hb : H k' with
      | none => exact h k hk
      | some b =>
        cases b with
        | box v t cells =>
          dsimp only
          split
          · unfold upd; split
            · rfl
            · exact h k hk
          · exact h k hk
        | _ => exact h k hk
    · exact frz0_loc.2 H H2 x A hA h k hk
theorem Loc.fold {f : Heap → AV → Heap} (hf : Loc occ f) : Loc occL fun H xs => xs.foldl f H := by
  refine ⟨fun H xs => ?_, fun H H2 xs => ?_⟩
  · induction xs generalizing H with
    | nil => intro k _; rfl
    | cons x xs ih =>
      intro k hk
      simp only [occL, List.mem_append, not_or] at hk
      exact (ih (f H x) k hk.2).trans (hf.1 H x k hk.1)
  · induction xs generalizing H H2 with
    | nil => intro A hA h k hk; exact h k hk
    | cons x xs ih =>
      intro A hA h k hk
      exact ih (f H x) (f H2 x) A (fun k hk => hA k (by simp [occL, hk])) (hf.2 H H2 x A (fun k hk => hA k (by simp [occL, hk])) h) k hk
theorem frz1_loc : Loc occ frz1 := by
  refine ⟨fun H x k hk => ?_, fun H H2 x A hA h k hk => ?_⟩
  · cases x with
    | agg cs => exact frz0_loc.fold.1 H cs k hk
    | func f cs => exact frzB_loc.fold.1 H cs k hk
    | _ => exact frz0_loc.1 H _ k hk
  · cases x with
    | agg cs => exact frz0_loc.fold.2 H H2 cs A hA h k hk
    | func f cs => exact frzB_loc.fold.2 H H2 cs A hA h k hk
    | _ => exact frz0_loc.2 H H2 _ A hA h k hk
theorem frz_loc : Loc occ frz := by
  refine ⟨fun H x k hk => ?_, fun H H2 x A hA h k hk => ?_⟩
  · cases x with
    | tup cs => exact frz1_loc.fold.1 H cs k hk
    | _ => exact frz1_loc.1 H _ k hk
  · cases x with
    | tup cs => exact frz1_loc.fold.2 H H2 cs A hA h k hk
    | _ => exact frz1_loc.2 H H2 _ A hA h k hk
theorem frzs_loc : Loc occL frzs := frz_loc.fold

/-! ### What an operation hangs on, and what it turns -/
def dl : Option Nat → List Nat
  | some d => [d]
  | none => []
def foot (τ : Nat → AV) (d : Option Nat) : Op → List Nat × List Nat
  | .load _ x | .fieldAddr _ x _ | .indexAddr _ x _ | .slice _ x _ _ _ | .nilCheck x => (occ (ev τ x), [])
  | .alloc _ | .box _ _ | .makeSlice _ _ _ | .range _ _ => (dl d, dl d)
  | .next x _ => (occ (ev τ x), occ (ev τ x))
  | .store _ x _ => (occ (ev τ x), occ (ev τ x))
  | .buildSlice _ _ parts => (dl d ++ occL (parts.toList.map fun p => ev τ p.2), dl d ++ occL (parts.toList.map fun p => ev τ p.2))
  | .call c => match c.callee, c.args.toList with
    | .builtin .append, [x, y] => (dl d ++ (occ (ev τ x) ++ occ (ev τ y)), dl d ++ occ (ev τ x))
    | .builtin .len, [x] => (occ (ev τ x), [])
    | .value f, args => (dl d ++ (occ (ev τ f) ++ occL (args.map (ev τ))), dl d ++ (occ (ev τ f) ++ occL (args.map (ev τ))))
    | _, _ => ([], [])
  | _ => ([], [])
theorem foot_sub (τ : Nat → AV) (d : Option Nat) (o : Op) {k : Nat} : k ∈ (foot τ d o).2 → k ∈ (foot τ d o).1 := by
  unfold foot
  split <;> try (simp; done)
  split <;> simp
  intro h
  rcases h with h | h
  · exact .inl h
  · exact .inr (.inl h)
def touches : Op → Bool
  | .load .. | .fieldAddr .. | .indexAddr .. | .slice .. | .nilCheck _ | .alloc _ | .box .. | .store .. | .buildSlice .. | .makeSlice .. | .call _ | .range .. | .next .. => true
  | _ => false
def turns : Op → Bool
  | .alloc _ | .box .. | .store .. | .buildSlice .. | .makeSlice .. | .range .. | .next .. => true
  | .call c => match c.callee with
    | .builtin .len => false
    | _ => true
  | _ => false
theorem foot_touches (τ : Nat → AV) (d : Option Nat) (o : Op) (h : touches o = false) : foot τ d o = ([], []) := by
  cases o <;> first | rfl | cases h
theorem foot_turns (τ : Nat → AV) (d : Option Nat) (o : Op) (h : turns o = false) : (foot τ d o).2 = [] := by
  cases o <;> first | rfl | cases h | skip
  rename_i c
  unfold foot
  dsimp only
  split
  · rename_i hc _; simp [turns, hc] at h
  · rfl
  · rename_i hc; simp [turns, hc] at h
  · rfl

theorem ev_ext {τ τ' : Nat → AV} {x : Operand} (h : ∀ t, x = .tmp t → τ' t = τ t) : ev τ' x = ev τ x := by
  cases x with
  | tmp t => exact h t rfl
  | _ => rfl

section
variable {H H2 : Heap}
theorem nv_congr {d : Nat} (h : H2 d = H d) : nv H2 d = nv H d := by simp [nv, h]
theorem upd_frame {d : Nat} (b : Option Blk) : (∀ k, k ∈ [d] → upd H2 d b k = upd H d b k) ∧ ∀ k, k ∉ [d] → upd H2 d b k = H2 k ∧ upd H d b k = H k := by
  refine ⟨fun k hk => ?_, fun k hk => ?_⟩
  · have : k = d := by simpa using hk
    subst this
    simp
  · have : k ≠ d := by simpa using hk
    exact ⟨upd_other _ _ _ _ this, upd_other _ _ _ _ this⟩
end

/-- The heap may be another one where the operation does not look. -/
theorem OpR.frame {P : Program} {τ : Nat → AV} {H H' : Heap} {o : Oper} {v : AV} (h : OpR P τ H o v H') (H2 : Heap) (hag : ∀ k ∈ (foot τ o.dst o.op).1, H2 k = H k) :
    ∃ H2', OpR P τ H2 o v H2' ∧ (∀ k, k ∈ (foot τ o.dst o.op).2 → H2' k = H' k) ∧ (∀ k, k ∉ (foot τ o.dst o.op).2 → H2' k = H2 k ∧ H' k = H k) := by
  have quiet : ∀ {w : AV}, OpR P τ H2 o w H2 → (foot τ o.dst o.op).2 = [] → ∃ H2', OpR P τ H2 o w H2' ∧ (∀ k, k ∈ (foot τ o.dst o.op).2 → H2' k = H k) ∧ (∀ k, k ∉ (foot τ o.dst o.op).2 → H2' k = H2 k ∧ H k = H k) :=
    fun {w} h1 h2 => ⟨H2, h1, fun k hk => by rw [h2] at hk; simp at hk, fun k _ => ⟨rfl, rfl⟩⟩
  cases h with
  | move x h => exact quiet (.move x h) (by rw [h]; rfl)
  | assign x h => exact quiet (.assign x h) (by rw [h]; rfl)
  | pick c x y t h hc => exact quiet (.pick c x y t h hc) (by rw [h]; rfl)
  | alloc e d z h hd hz hok =>
    rw [h, hd] at hag
    have e1 : H2 d = H d := hag d (by simp [foot, dl])
    have e2 := nv_congr e1
    refine ⟨_, by have := OpR.alloc (H := H2) (τ := τ) e d z h hd hz hok; rw [e2] at this; exact this, ?_⟩
    rw [h, hd]
    exact upd_frame _
  | box e x d h hd hok =>
    rw [h, hd] at hag
    have e1 : H2 d = H d := hag d (by simp [foot, dl])
    have e2 := nv_congr e1
    refine ⟨_, by have := OpR.box (P := P) (H := H2) (τ := τ) e x d h hd hok; rw [e2] at this; exact this, ?_⟩
    rw [h, hd]
    exact upd_frame _
  | makeSlice t e l c n b d z kl kc len cap h hd he hn hb hn0 hz hzc hzn hl hc hlc hlim h63 =>
    rw [h, hd] at hag
    have e1 : H2 d = H d := hag d (by simp [foot, dl])
    have e2 := nv_congr e1
    refine ⟨_, by have := OpR.makeSlice (P := P) (H := H2) (τ := τ) t e l c n b d z kl kc len cap h hd he hn hb hn0 hz hzc hzn hl hc hlc hlim h63; rw [e2] at this; exact this, ?_⟩
    rw [h, hd]
    exact upd_frame _
  | build t parts z cells h hz hok hzc hf => exact quiet (.build t parts z cells h hz hok hzc hf) (by rw [h]; rfl)
  | lit t len parts e n z rows H1 h he hn hn0 hz hzc hzn hlim hH hf =>
    rw [h] at hag
    have hag' : ∀ k ∈ occL (parts.toList.map fun p => ev τ p.2), H2 k = H k := fun k hk => hag k (by simp [foot, hk])
    have hin := frzs_loc.2 H H2 (parts.toList.map fun p => ev τ p.2) (fun k => k ∈ occL (parts.toList.map fun p => ev τ p.2)) (fun k hk => hk) hag'
    refine ⟨frzs H2 (parts.toList.map fun p => ev τ p.2), .lit t len parts e n z rows _ h he hn hn0 hz hzc hzn hlim rfl ?_, fun k hk => ?_, fun k hk => ?_⟩
    · rw [← hf]
      refine congrArg _ (List.map_congr_left fun p hp => ?_)
      rw [pur_congr (H := H') fun k hk => ?_]
      rw [hH]
      exact hin k (occ_mem (List.mem_map_of_mem (f := fun p : Nat × Operand => ev τ p.2) hp) hk)
    · rw [h] at hk
      simp only [foot, List.mem_append] at hk
      subst hH
      by_cases hk2 : k ∈ occL (parts.toList.map fun p => ev τ p.2)
      · exact hin k hk2
      · rw [frzs_loc.1 _ _ _ hk2, frzs_loc.1 _ _ _ hk2]
        exact hag k (by simp only [foot, List.mem_append]; exact hk)
    · rw [h] at hk
      simp only [foot, List.mem_append, not_or] at hk
      subst hH
      exact ⟨frzs_loc.1 _ _ _ hk.2, frzs_loc.1 _ _ _ hk.2⟩
  | litOwn t len parts e n d z rows H1 h hd he hn hn0 hz hzc hzn hlim hH hf =>
    rw [h, hd] at hag
    have hag' : ∀ k ∈ occL (parts.toList.map fun p => ev τ p.2), H2 k = H k := fun k hk => hag k (by simp [foot, hk])
    have hA : ∀ k, (k = d ∨ k ∈ occL (parts.toList.map fun p => ev τ p.2)) → frzs H2 (parts.toList.map fun p => ev τ p.2) k = frzs H (parts.toList.map fun p => ev τ p.2) k :=
      frzs_loc.2 H H2 (parts.toList.map fun p => ev τ p.2) (fun k => k = d ∨ k ∈ occL (parts.toList.map fun p => ev τ p.2)) (fun k hk => .inr hk) fun k hk => hag k (by simpa [foot, dl] using hk)
    have e2 : nv (frzs H2 (parts.toList.map fun p => ev τ p.2)) d = nv H1 d := by rw [hH]; exact nv_congr (hA d (.inl rfl))
    refine ⟨_, by
      have := OpR.litOwn (P := P) (H := H2) (τ := τ) t len parts e n d z rows _ h hd he hn hn0 hz hzc hzn hlim rfl ?_
      · rw [e2] at this; exact this
      · rw [← hf]
        refine congrArg _ (List.map_congr_left fun p hp => ?_)
        rw [pur_congr (H := H1) fun k hk => ?_]
        rw [hH]
        exact hA k (.inr (occ_mem (List.mem_map_of_mem (f := fun p : Nat × Operand => ev τ p.2) hp) hk)), ?_⟩
    rw [h, hd]
    subst hH
    refine ⟨fun k hk => ?_, fun k hk => ?_⟩
    · have hk : k = d ∨ k ∈ occL (parts.toList.map fun p => ev τ p.2) := by simpa [foot, dl] using hk
      by_cases e : k = d
      · subst e; simp
      · rw [upd_other _ _ _ _ e, upd_other _ _ _ _ e]; exact hA k hk
    · have hk : ¬ (k = d ∨ k ∈ occL (parts.toList.map fun p => ev τ p.2)) := by simpa [foot, dl] using hk
      rw [not_or] at hk
      rw [upd_other _ _ _ _ hk.1, upd_other _ _ _ _ hk.1]
      exact ⟨frzs_loc.1 _ _ _ hk.2, frzs_loc.1 _ _ _ hk.2⟩
  | load t x n ag v h hn ha hr =>
    rw [h] at hag
    exact quiet (.load t x n ag v h hn ha (by rw [rdV_congr hag]; exact hr)) (by rw [h]; rfl)
  | store t x y n H' h hn hw =>
    rw [h] at hag
    obtain ⟨k, b, hk, rfl, h2⟩ := wrV_frame hag hw
    refine ⟨_, .store t x y n _ h hn h2, fun k' hk' => ?_, fun k' hk' => ?_⟩
    · rw [h] at hk'
      unfold upd
      split
      · rfl
      · exact hag k' hk'
    · rw [h] at hk'
      have : k' ≠ k := fun e => hk' (e ▸ hk)
      exact ⟨upd_other _ _ _ _ this, upd_other _ _ _ _ this⟩
  | binOp op t yt x y v h hv => exact quiet (.binOp op t yt x y v h hv) (by rw [h]; rfl)
  | eqAgg op t yt x y ng p v h hp hv => exact quiet (.eqAgg op t yt x y ng p v h hp hv) (by rw [h]; rfl)
  | index t x ix sb k i b h ht hx hi h0 hb => exact quiet (.index t x ix sb k i b h ht hx hi h0 hb) (by rw [h]; rfl)
  | sliceStr t x lo hi sb l' h' l hh h ht hx hlo hhi hl hh' hlh hhr => exact quiet (.sliceStr t x lo hi sb l' h' l hh h ht hx hlo hhi hl hh' hlh hhr) (by rw [h]; rfl)
  | rangeStr t x d sb h hd ht hx =>
    rw [h, hd] at hag
    have e1 : H2 d = H d := hag d (by simp [foot, dl])
    have e2 := nv_congr e1
    refine ⟨_, by have := OpR.rangeStr (H := H2) (τ := τ) t x d sb h hd ht hx; rw [e2] at this; exact this, ?_⟩
    rw [h, hd]
    exact upd_frame _
  | nextStr x k ver sb pos h hx hk hlt =>
    rw [h] at hag
    have ek : H2 k = H k := hag k (by simp [foot, hx, occ])
    refine ⟨_, .nextStr x k ver sb pos h hx (ek.trans hk) hlt, ?_⟩
    have ef : (foot τ o.dst o.op).2 = [k] := by rw [h]; simp [foot, hx, occ]
    rw [ef]
    exact upd_frame _
  | nextEnd x k ver sb pos h hx hk hge =>
    rw [h] at hag
    have ek : H2 k = H k := hag k (by simp [foot, hx, occ])
    refine ⟨H2, .nextEnd x k ver sb pos h hx (ek.trans hk) hge, fun k' hk' => ?_, fun k' _ => ⟨rfl, rfl⟩⟩
    rw [h] at hk'
    exact hag k' (by simpa [foot] using hk')
  | not t x v h hv => exact quiet (.not t x v h hv) (by rw [h]; rfl)
  | fieldAddr t x f off n v h hf hn hv =>
    rw [h] at hag
    exact quiet (.fieldAddr t x f off n v h hf hn (by rw [addA_congr hag]; exact hv)) (by rw [h]; rfl)
  | field t x f off n ag cs v h hf ha hx hv => exact quiet (.field t x f off n ag cs v h hf ha hx hv) (by rw [h]; rfl)
  | indexAddr t e x ix n k i v h he hn hi hv =>
    rw [h] at hag
    exact quiet (.indexAddr t e x ix n k i v h he hn hi (by rw [ixA_congr hag]; exact hv)) (by rw [h]; rfl)
  | indexArr t e x ix len n k i v h he hn hi h0 h1 hv =>
    rw [h] at hag
    exact quiet (.indexArr t e x ix len n k i v h he hn hi h0 h1 (by rw [addA_congr hag]; exact hv)) (by rw [h]; rfl)
  | extract x i vs v h hx hv => exact quiet (.extract x i vs v h hx hv) (by rw [h]; rfl)
  | slice t e x lo hi n l' h' rows l hh h he hn hx hsz hlo hhi hl hh' hlh hhr =>
    rw [h] at hag
    exact quiet (.slice t e x lo hi n l' h' rows l hh h he hn (by rw [rowsA_congr hag]; exact hx) hsz hlo hhi hl hh' hlh hhr) (by rw [h]; rfl)
  | makeFunc f caps h => exact quiet (.makeFunc f caps h) (by rw [h]; rfl)
  | nilCheck x h hx =>
    rw [h] at hag
    exact quiet (.nilCheck x h (by rw [okPtr_congr hag]; exact hx)) (by rw [h]; rfl)
  | convInt st dt x k k' i h hs hd hx => exact quiet (.convInt st dt x k k' i h hs hd hx) (by rw [h]; rfl)
  | len t x n h ht hx =>
    rw [h] at hag
    exact quiet (.len t x n h ht (by rw [lenA_congr hag]; exact hx)) (by rw [h]; rfl)
  | lenStr t x b h ht hx => exact quiet (.lenStr t x b h ht hx) (by rw [h]; rfl)
  | min t1 t2 x y v h hv => exact quiet (.min t1 t2 x y v h hv) (by rw [h]; rfl)
  | append t e x y n b k ver rows new h he hok hx hk hy hb =>
    rw [h] at hag
    have ax : ∀ j ∈ occ (ev τ x), H2 j = H j := fun j hj => hag j (by simp [foot, hj])
    have ay : ∀ j ∈ occ (ev τ y), H2 j = H j := fun j hj => hag j (by simp [foot, hj])
    have hkx : k ∈ occ (ev τ x) := by rw [hx]; simp [occ]
    have e1 : H2 k = H k := ax k hkx
    have e2 := nv_congr e1
    refine ⟨_, by
      have := OpR.append (P := P) (H := H2) (τ := τ) t e x y n b k ver rows new h he hok hx (e1.trans hk) (by rw [srcA_congr ay]; exact hy) hb
      rw [e2] at this; exact this, fun j hj => ?_, fun j hj => ?_⟩
    · rw [h] at hj
      unfold upd
      split
      · rfl
      · exact hag j (foot_sub τ o.dst _ hj)
    · rw [h] at hj
      have : j ≠ k := fun e => hj (by subst e; simp [foot, hkx])
      exact ⟨upd_other _ _ _ _ this, upd_other _ _ _ _ this⟩
  | appendNil t e x y n b d new h he hok hx hd hy hb =>
    rw [h, hd] at hag
    have ay : ∀ j ∈ occ (ev τ y), H2 j = H j := fun j hj => hag j (by simp [foot, hj])
    have e1 : H2 d = H d := hag d (by simp [foot, dl])
    have e2 := nv_congr e1
    refine ⟨_, by
      have := OpR.appendNil (P := P) (H := H2) (τ := τ) t e x y n b d new h he hok hx hd (by rw [srcA_congr ay]; exact hy) hb
      rw [e2] at this; exact this, fun j hj => ?_, fun j hj => ?_⟩
    · rw [h, hd] at hj
      unfold upd
      split
      · rfl
      · exact hag j (foot_sub τ (some d) _ hj)
    · rw [h, hd] at hj
      have : j ≠ d := fun e => hj (by subst e; simp [foot, dl])
      exact ⟨upd_other _ _ _ _ this, upd_other _ _ _ _ this⟩
  | call f c fid caps r H1 h hc hf hH hcl hs =>
    have hfoot : foot τ o.dst o.op = (dl o.dst ++ (occ (ev τ f) ++ occL (c.args.toList.map (ev τ))), dl o.dst ++ (occ (ev τ f) ++ occL (c.args.toList.map (ev τ)))) := by
      rw [h]; unfold foot; dsimp only; rw [hc]
    rw [hfoot] at hag ⊢
    have hA := frzs_loc.2 H H2 (c.args.toList.map (ev τ)) (fun k => k ∈ dl o.dst ++ (occ (ev τ f) ++ occL (c.args.toList.map (ev τ)))) (fun k hk => by simp [hk]) hag
    have eargs : callArgs τ (frzs H2 (c.args.toList.map (ev τ))) c caps = callArgs τ H' c caps := by
      unfold callArgs
      refine List.map_congr_left fun a ha => pur_congr fun k hk => ?_
      rw [hH]
      refine hA k ?_
      rcases List.mem_append.1 ha with ha | ha
      · simp [occ_mem ha hk]
      · have : k ∈ occ (ev τ f) := by rw [hf]; simp only [occ]; exact occ_mem ha hk
        simp [this]
    refine ⟨_, .call f c fid caps v _ h hc hf rfl (by rw [eargs]; exact hcl) (by rw [eargs]; exact hs), fun k hk => by rw [hH]; exact hA k hk, fun k hk => ?_⟩
    have hk2 : k ∉ occL (c.args.toList.map (ev τ)) := fun h => hk (by simp [h])
    rw [hH]
    exact ⟨frzs_loc.1 _ _ _ hk2, frzs_loc.1 _ _ _ hk2⟩
  | callFlat f c fid caps r H1 h hc hf hH hcl hs hfl =>
    have hfoot : foot τ o.dst o.op = (dl o.dst ++ (occ (ev τ f) ++ occL (c.args.toList.map (ev τ))), dl o.dst ++ (occ (ev τ f) ++ occL (c.args.toList.map (ev τ)))) := by
      rw [h]; unfold foot; dsimp only; rw [hc]
    rw [hfoot] at hag ⊢
    have hA := frzs_loc.2 H H2 (c.args.toList.map (ev τ)) (fun k => k ∈ dl o.dst ++ (occ (ev τ f) ++ occL (c.args.toList.map (ev τ)))) (fun k hk => by simp [hk]) hag
    have eargs : callArgs τ (frzs H2 (c.args.toList.map (ev τ))) c caps = callArgs τ H1 c caps := by
      unfold callArgs
      refine List.map_congr_left fun a ha => pur_congr fun k hk => ?_
      rw [hH]
      refine hA k ?_
      rcases List.mem_append.1 ha with ha | ha
      · simp [occ_mem ha hk]
      · have : k ∈ occ (ev τ f) := by rw [hf]; simp only [occ]; exact occ_mem ha hk
        simp [this]
    exact ⟨H2, .callFlat f c fid caps v _ h hc hf rfl (by rw [eargs]; exact hcl) (by rw [eargs]; exact hs) hfl, fun k hk => hag k (by simpa using hk), fun k _ => ⟨rfl, rfl⟩⟩
  | callRow f c fid caps H1 t sz rows d h hc hf hH hcl hd hs =>
    have hfoot : foot τ o.dst o.op = (dl o.dst ++ (occ (ev τ f) ++ occL (c.args.toList.map (ev τ))), dl o.dst ++ (occ (ev τ f) ++ occL (c.args.toList.map (ev τ)))) := by
      rw [h]; unfold foot; dsimp only; rw [hc]
    rw [hfoot] at hag ⊢
    have hA := frzs_loc.2 H H2 (c.args.toList.map (ev τ)) (fun k => k ∈ dl o.dst ++ (occ (ev τ f) ++ occL (c.args.toList.map (ev τ)))) (fun k hk => by simp [hk]) hag
    have eargs : callArgs τ (frzs H2 (c.args.toList.map (ev τ))) c caps = callArgs τ H1 c caps := by
      unfold callArgs
      refine List.map_congr_left fun a ha => pur_congr fun k hk => ?_
      rw [hH]
      refine hA k ?_
      rcases List.mem_append.1 ha with ha | ha
      · simp [occ_mem ha hk]
      · have : k ∈ occ (ev τ f) := by rw [hf]; simp only [occ]; exact occ_mem ha hk
        simp [this]
    have hdl : d ∈ dl o.dst := by rw [hd]; simp [dl]
    have e2 : nv (frzs H2 (c.args.toList.map (ev τ))) d = nv H1 d := by
      rw [hH]
      exact nv_congr (hA d (by simp [hdl]))
    refine ⟨_, by
      have := OpR.callRow (P := P) (H := H2) (τ := τ) f c fid caps _ t sz rows d h hc hf rfl (by rw [eargs]; exact hcl) hd (by rw [eargs]; exact hs)
      rw [e2] at this; exact this, fun k hk => ?_, fun k hk => ?_⟩
    · unfold upd
      split
      · rfl
      · rw [hH]; exact hA k hk
    · have hk2 : k ∉ occL (c.args.toList.map (ev τ)) := fun h => hk (by simp [h])
      have hkd : k ≠ d := fun e => hk (by subst e; simp [hdl])
      rw [hH]
      exact ⟨(upd_other _ _ _ _ hkd).trans (frzs_loc.1 _ _ _ hk2), (upd_other _ _ _ _ hkd).trans (frzs_loc.1 _ _ _ hk2)⟩

/-- The temporaries may be others where the operation does not look. -/
def tmpsOf (o : Op) : List Nat := o.operands.toList.filterMap fun | .tmp t => some t | _ => none
theorem mem_tmpsOf {o : Op} {t : Nat} (h : Operand.tmp t ∈ o.operands.toList) : t ∈ tmpsOf o := List.mem_filterMap.2 ⟨.tmp t, h, rfl⟩
theorem evs_ext {τ τ' : Nat → AV} {o : Op} (h : ∀ t ∈ tmpsOf o, τ' t = τ t) {x : Operand} (hx : x ∈ o.operands.toList) : ev τ' x = ev τ x :=
  ev_ext fun t e => h t (mem_tmpsOf (e ▸ hx))

theorem OpR.tmps {P : Program} {τ τ' : Nat → AV} {H H' : Heap} {o : Oper} {v : AV} (h : OpR P τ H o v H') (ht : ∀ t ∈ tmpsOf o.op, τ' t = τ t) : OpR P τ' H o v H' := by
  have E : ∀ x ∈ o.op.operands.toList, ev τ' x = ev τ x := fun x hx => evs_ext ht hx
  cases h with
  | move x h => rw [← E x (by rw [h]; simp [Op.operands])]; exact .move x h
  | assign x h => rw [← E x (by rw [h]; simp [Op.operands])]; exact .assign x h
  | pick c x y t h hc =>
    rw [← E x (by rw [h]; simp [Op.operands]), ← E y (by rw [h]; simp [Op.operands])]
    exact .pick c x y t h (by rw [E c (by rw [h]; simp [Op.operands])]; exact hc)
  | alloc e d z h hd hz hok => exact .alloc e d z h hd hz hok
  | box e x d h hd hok =>
    have ex := E x (by rw [h]; simp [Op.operands])
    rw [← ex]
    exact .box e x d h hd (by rw [ex]; exact hok)
  | build t parts z cells h hz hok hzc hf =>
    refine .build t parts z cells h hz hok hzc ?_
    rw [← hf]
    exact congrArg _ (List.map_congr_left fun p hp => by rw [E p.2 (by rw [h]; simp only [Op.operands]; exact List.mem_map_of_mem hp)])
  | lit t len parts e n z rows H1 h he hn hn0 hz hzc hzn hlim hH hf =>
    have el : (parts.toList.map fun p => ev τ' p.2) = parts.toList.map fun p => ev τ p.2 := List.map_congr_left fun p hp => by rw [E p.2 (by rw [h]; simp only [Op.operands]; exact List.mem_map_of_mem hp)]
    refine .lit t len parts e n z rows _ h he hn hn0 hz hzc hzn hlim (by rw [el]; exact hH) ?_
    rw [← hf]
    exact congrArg _ (List.map_congr_left fun p hp => by rw [E p.2 (by rw [h]; simp only [Op.operands]; exact List.mem_map_of_mem hp)])
  | litOwn t len parts e n d z rows H1 h hd he hn hn0 hz hzc hzn hlim hH hf =>
    have el : (parts.toList.map fun p => ev τ' p.2) = parts.toList.map fun p => ev τ p.2 := List.map_congr_left fun p hp => by rw [E p.2 (by rw [h]; simp only [Op.operands]; exact List.mem_map_of_mem hp)]
    refine .litOwn t len parts e n d z rows _ h hd he hn hn0 hz hzc hzn hlim (by rw [el]; exact hH) ?_
    rw [← hf]
    exact congrArg _ (List.map_congr_left fun p hp => by rw [E p.2 (by rw [h]; simp only [Op.operands]; exact List.mem_map_of_mem hp)])
  | makeSlice t e l c n b d z kl kc len cap h hd he hn hb hn0 hz hzc hzn hl hc hlc hlim h63 =>
    exact .makeSlice t e l c n b d z kl kc len cap h hd he hn hb hn0 hz hzc hzn (by rw [E l (by rw [h]; simp [Op.operands])]; exact hl) (by rw [E c (by rw [h]; simp [Op.operands])]; exact hc) hlc hlim h63
  | load t x n ag v h hn ha hr => exact .load t x n ag v h hn ha (by rw [E x (by rw [h]; simp [Op.operands])]; exact hr)
  | store t x y n H' h hn hw => exact .store t x y n H' h hn (by rw [E x (by rw [h]; simp [Op.operands]), E y (by rw [h]; simp [Op.operands])]; exact hw)
  | binOp op t yt x y v h hv => exact .binOp op t yt x y v h (by rw [E x (by rw [h]; simp [Op.operands]), E y (by rw [h]; simp [Op.operands])]; exact hv)
  | eqAgg op t yt x y ng p v h hp hv => exact .eqAgg op t yt x y ng p v h hp (by rw [E x (by rw [h]; simp [Op.operands]), E y (by rw [h]; simp [Op.operands])]; exact hv)
  | index t x ix sb k i b h ht hx hi h0 hb => exact .index t x ix sb k i b h ht (by rw [E x (by rw [h]; simp [Op.operands])]; exact hx) (by rw [E ix (by rw [h]; simp [Op.operands])]; exact hi) h0 hb
  | sliceStr t x lo hi sb l' h' l hh h ht hx hlo hhi hl hh' hlh hhr =>
    refine .sliceStr t x lo hi sb l' h' l hh h ht (by rw [E x (by rw [h]; simp [Op.operands])]; exact hx) ?_ ?_ hl hh' hlh hhr
    · rw [← hlo]
      cases lo with
      | none => rfl
      | some q => simp only [ixV]; rw [E q (by rw [h]; simp [Op.operands])]
    · rw [← hhi]
      cases hi with
      | none => rfl
      | some q => simp only [ixV]; rw [E q (by rw [h]; simp [Op.operands])]
  | rangeStr t x d sb h hd ht hx => exact .rangeStr t x d sb h hd ht (by rw [E x (by rw [h]; simp [Op.operands])]; exact hx)
  | nextStr x k ver sb pos h hx hk hlt => exact .nextStr x k ver sb pos h (by rw [E x (by rw [h]; simp [Op.operands])]; exact hx) hk hlt
  | nextEnd x k ver sb pos h hx hk hge => exact .nextEnd x k ver sb pos h (by rw [E x (by rw [h]; simp [Op.operands])]; exact hx) hk hge
  | not t x v h hv => exact .not t x v h (by rw [E x (by rw [h]; simp [Op.operands])]; exact hv)
  | fieldAddr t x f off n v h hf hn hv => exact .fieldAddr t x f off n v h hf hn (by rw [E x (by rw [h]; simp [Op.operands])]; exact hv)
  | field t x f off n ag cs v h hf ha hx hv => exact .field t x f off n ag cs v h hf ha (by rw [E x (by rw [h]; simp [Op.operands])]; exact hx) hv
  | indexAddr t e x ix n k i v h he hn hi hv => exact .indexAddr t e x ix n k i v h he hn (by rw [E ix (by rw [h]; simp [Op.operands])]; exact hi) (by rw [E x (by rw [h]; simp [Op.operands])]; exact hv)
  | indexArr t e x ix len n k i v h he hn hi h0 h1 hv => exact .indexArr t e x ix len n k i v h he hn (by rw [E ix (by rw [h]; simp [Op.operands])]; exact hi) h0 h1 (by rw [E x (by rw [h]; simp [Op.operands])]; exact hv)
  | extract x i vs v h hx hv => exact .extract x i vs v h (by rw [E x (by rw [h]; simp [Op.operands])]; exact hx) hv
  | slice t e x lo hi n l' h' rows l hh h he hn hx hsz hlo hhi hl hh' hlh hhr =>
    refine .slice t e x lo hi n l' h' rows l hh h he hn (by rw [E x (by rw [h]; simp [Op.operands])]; exact hx) hsz ?_ ?_ hl hh' hlh hhr
    · rw [← hlo]
      cases lo with
      | none => rfl
      | some q => simp only [ixV]; rw [E q (by rw [h]; simp [Op.operands])]
    · rw [← hhi]
      cases hi with
      | none => rfl
      | some q => simp only [ixV]; rw [E q (by rw [h]; simp [Op.operands])]
  | makeFunc f caps h =>
    have : caps.toList.map (ev τ) = caps.toList.map (ev τ') := List.map_congr_left fun x hx => (E x (by rw [h]; simpa [Op.operands] using hx)).symm
    rw [this]
    exact .makeFunc f caps h
  | nilCheck x h hx =>
    have ex := E x (by rw [h]; simp [Op.operands])
    rw [← ex] at hx ⊢
    exact .nilCheck x h hx
  | convInt st dt x k k' i h hs hd hx => exact .convInt st dt x k k' i h hs hd (by rw [E x (by rw [h]; simp [Op.operands])]; exact hx)
  | len t x n h ht hx => exact .len t x n h ht (by rw [E x (by rw [h]; simp [Op.operands, Call.operands])]; exact hx)
  | lenStr t x b h ht hx => exact .lenStr t x b h ht (by rw [E x (by rw [h]; simp [Op.operands, Call.operands])]; exact hx)
  | min t1 t2 x y v h hv => exact .min t1 t2 x y v h (by rw [E x (by rw [h]; simp [Op.operands, Call.operands]), E y (by rw [h]; simp [Op.operands, Call.operands])]; exact hv)
  | append t e x y n b k ver rows new h he hok hx hk hy hb =>
    exact .append t e x y n b k ver rows new h he hok (by rw [E x (by rw [h]; simp [Op.operands, Call.operands])]; exact hx) hk (by rw [E y (by rw [h]; simp [Op.operands, Call.operands])]; exact hy) hb
  | appendNil t e x y n b d new h he hok hx hd hy hb =>
    exact .appendNil t e x y n b d new h he hok (by rw [E x (by rw [h]; simp [Op.operands, Call.operands])]; exact hx) hd (by rw [E y (by rw [h]; simp [Op.operands, Call.operands])]; exact hy) hb
  | call f c fid caps r H1 h hc hf hH hcl hs =>
    have ef : ev τ' f = ev τ f := E f (by rw [h]; simp [Op.operands, Call.operands, hc])
    have ea : c.args.toList.map (ev τ') = c.args.toList.map (ev τ) := List.map_congr_left fun x hx => E x (by rw [h]; simp only [Op.operands, Call.operands, Array.toList_append, List.mem_append]; exact .inr hx)
    have ec : callArgs τ' H' c caps = callArgs τ H' c caps := by unfold callArgs; rw [ea]
    exact .call f c fid caps v _ h hc (ef.trans hf) (by rw [ea]; exact hH) (by rw [ec]; exact hcl) (by rw [ec]; exact hs)
  | callFlat f c fid caps r H1 h hc hf hH hcl hs hfl =>
    have ef : ev τ' f = ev τ f := E f (by rw [h]; simp [Op.operands, Call.operands, hc])
    have ea : c.args.toList.map (ev τ') = c.args.toList.map (ev τ) := List.map_congr_left fun x hx => E x (by rw [h]; simp only [Op.operands, Call.operands, Array.toList_append, List.mem_append]; exact .inr hx)
    have ec : callArgs τ' H1 c caps = callArgs τ H1 c caps := by unfold callArgs; rw [ea]
    exact .callFlat f c fid caps v H1 h hc (ef.trans hf) (by rw [ea]; exact hH) (by rw [ec]; exact hcl) (by rw [ec]; exact hs) hfl
  | callRow f c fid caps H1 t sz rows d h hc hf hH hcl hd hs =>
    have ef : ev τ' f = ev τ f := E f (by rw [h]; simp [Op.operands, Call.operands, hc])
    have ea : c.args.toList.map (ev τ') = c.args.toList.map (ev τ) := List.map_congr_left fun x hx => E x (by rw [h]; simp only [Op.operands, Call.operands, Array.toList_append, List.mem_append]; exact .inr hx)
    have ec : callArgs τ' H1 c caps = callArgs τ H1 c caps := by unfold callArgs; rw [ea]
    exact .callRow f c fid caps H1 t sz rows d h hc (ef.trans hf) (by rw [ea]; exact hH) (by rw [ec]; exact hcl) hd (by rw [ec]; exact hs)

/-- What it hangs on is told by the same temporaries. -/
theorem foot_ext {τ τ' : Nat → AV} {d : Option Nat} {o : Op} (ht : ∀ t ∈ tmpsOf o, τ' t = τ t) : foot τ' d o = foot τ d o := by
  have E : ∀ x ∈ o.operands.toList, ev τ' x = ev τ x := fun x hx => evs_ext ht hx
  cases o <;> try rfl
  case load t x => simp only [foot]; rw [E x (by simp [Op.operands])]
  case fieldAddr t x f => simp only [foot]; rw [E x (by simp [Op.operands])]
  case indexAddr t x i => simp only [foot]; rw [E x (by simp [Op.operands])]
  case slice t x l h m => simp only [foot]; rw [E x (by simp [Op.operands])]
  case nilCheck x => simp only [foot]; rw [E x (by simp [Op.operands])]
  case store t x y => simp only [foot]; rw [E x (by simp [Op.operands])]
  case next x b => simp only [foot]; rw [E x (by simp [Op.operands])]
  case buildSlice t len parts =>
    have : (parts.toList.map fun p => ev τ' p.2) = parts.toList.map fun p => ev τ p.2 := List.map_congr_left fun p hp => by rw [E p.2 (by simp only [Op.operands]; exact List.mem_map_of_mem hp)]
    simp only [foot]; rw [this]
  case call c =>
    have ea : ∀ x ∈ c.args.toList, ev τ' x = ev τ x := fun x hx => E x (by simp only [Op.operands, Call.operands, Array.toList_append, List.mem_append]; exact .inr hx)
    simp only [foot]
    split
    · rename_i x y hc hx
      rw [ea x (by simp [hx]), ea y (by simp [hx])]
    · rename_i x hc hx
      rw [ea x (by simp [hx])]
    · rename_i hx f hc
      rw [E f (by simp [Op.operands, Call.operands, hc]), List.map_congr_left ea]
    · rfl

end Go.Am
