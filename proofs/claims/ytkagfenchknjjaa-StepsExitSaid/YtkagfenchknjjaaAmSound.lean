import Derived.Test.YtkagfenchknjjaaAmRel
set_option linter.unusedVariables false
set_option linter.unusedSimpArgs false
namespace Go.Am
open Go.RowKit

theorem Rel.evR {E : Env} {s : St} {a : Act} {w : World} {S : Nat → Prop} {own : Nat → Option Nat} {C D : Nat → Prop} {Ds : List Nat} (h : RelAt E s a w S own C D Ds) (x : Operand) : R (ctx E s w S own) (ev s.τ x) (a.eval x) := R_ev h.tmps x

theorem map_vals {C : Ctx} {τ : Nat → AV} {a : Act} (h : ∀ i, R C (τ i) (a.tmps.getD i undef)) (f : AV → AV) (hf : ∀ x v, R C x v → R C (f x) v) (parts : Array (Nat × Operand)) :
    ((parts.map fun (i, x) => (i, a.eval x)).toList.map (·.1) = (parts.toList.map fun p => (p.1, f (ev τ p.2))).map (·.1)) ∧
    (∀ (i : Nat) (p : Nat × AV) (q : Nat × Value), (parts.toList.map fun p => (p.1, f (ev τ p.2)))[i]? = some p → (parts.map fun (i, x) => (i, a.eval x)).toList[i]? = some q → R C p.2 q.2) := by
  refine ⟨by simp [Function.comp_def], fun i p q hp hq => ?_⟩
  rw [Array.toList_map, List.getElem?_map] at hq
  rw [List.getElem?_map] at hp
  cases hx : parts.toList[i]? with
  | none => rw [hx] at hp; cases hp
  | some x =>
    rw [hx] at hp hq
    cases hp
    cases hq
    exact hf _ _ (R_ev h x.2)

section
variable {P : Program} (w : World)
theorem run_index_str {t : TypeId} {s : ByteArray} {k : IntKind} {i : Int} {b : UInt8} (ht : P.underlying t = some .string) (h0 : 0 ≤ i) (hb : s[i.toNat]? = some b) : (Instr.index t (.string s) (.int k i)).run P w = .ok (.int .u8 b.toNat) w := by
  unfold Instr.index
  simp only [asIntOf, Sem.run_bind, Sem.run_pure, Result.andThen_ok, run_underlying ht, if_pos h0, hb]
theorem run_slice_str {t : TypeId} {s : ByteArray} (ht : P.underlying t = some .string) (lo hi : Option (IntKind × Int)) {l h : Nat} (hl : (lo.map (·.2)).getD 0 = (l : Int)) (hh' : (hi.map (·.2)).getD (s.size : Int) = (h : Int)) (hlh : l ≤ h) (hhr : h ≤ s.size) :
    (Instr.sliceAt t (.string s) (lo.map fun p => .int p.1 p.2) (hi.map fun p => .int p.1 p.2) none).run P w = .ok (.string (s.extract l h)) w := by
  have hb : (Instr.sliceBounds false s.size s.size (lo.map fun p => .int p.1 p.2) (hi.map fun p => .int p.1 p.2) none).run P w = .ok (l, h, s.size) w := by
    cases lo with
    | none =>
      have hl0 : l = 0 := by simp at hl; omega
      subst hl0
      cases hi with
      | none =>
        have e : s.size = h := by simp at hh'; omega
        subst e
        rfl
      | some p =>
        obtain ⟨k1, i1⟩ := p
        have e : i1 = (h : Int) := by simpa using hh'
        subst e
        simp only [Instr.sliceBounds, Option.map_some, Option.map_none, Sem.run_bind, Sem.run_pure, Result.andThen_ok, run_sliceBound w k1 (h : Int) s.size _ (by omega) (by omega), Int.toNat_natCast]
    | some q =>
      obtain ⟨k2, i2⟩ := q
      have e2 : i2 = (l : Int) := by simpa using hl
      subst e2
      cases hi with
      | none =>
        have e : s.size = h := by simp at hh'; omega
        subst e
        simp only [Instr.sliceBounds, Option.map_some, Option.map_none, Sem.run_bind, Sem.run_pure, Result.andThen_ok, run_sliceBound w k2 (l : Int) s.size _ (by omega) (by omega), Int.toNat_natCast]
      | some p =>
        obtain ⟨k1, i1⟩ := p
        have e : i1 = (h : Int) := by simpa using hh'
        subst e
        simp only [Instr.sliceBounds, Option.map_some, Option.map_none, Sem.run_bind, Sem.run_pure, Result.andThen_ok, run_sliceBound w k1 (h : Int) s.size _ (by omega) (by omega), Int.toNat_natCast, run_sliceBound w k2 (l : Int) h _ (by omega) (by omega)]
  unfold Instr.sliceAt
  simp only [Sem.run_bind, run_underlying ht, Result.andThen_ok]
  unfold Instr.slice
  simp only [Sem.run_bind, run_underlying ht, Result.andThen_ok, Option.isSome_none, Bool.false_eq_true, if_false, hb, Sem.run_pure]
theorem run_range_str {t : TypeId} {s : ByteArray} (ht : P.underlying t = some .string) : (Instr.range t (.string s)).run P w = .ok (.pointer (some ⟨w.heap.size, 0, none⟩)) (w.alloc (.stringIter s 0)) := by
  unfold Instr.range
  simp only [Sem.run_bind, run_underlying ht, Result.andThen_ok, Sem.run_pure, run_newObj_alloc]
theorem run_next_str {g : Nat} {s : ByteArray} {pos : Nat} (t : TypeId) (h : w.heap[g]? = some (.stringIter s pos)) (hlt : pos < s.size) :
    (Instr.next (.pointer (some ⟨g, 0, none⟩)) true t).run P w = .ok (.tuple #[.bool true, .int .i64 pos, .int .i32 (Utf8.decode s pos).1]) (w.putObj g (.stringIter s (pos + (Utf8.decode s pos).2))) := by
  have hg : (getObj g).run P w = .ok (.stringIter s pos) w := by simp [getObj, Sem.run, h]
  have hs : ∀ o, (setObj g o).run P w = .ok () (w.putObj g o) := fun o => by simp [setObj, Sem.run, h, World.putObj]
  unfold Instr.next
  simp only [Sem.run_bind, hg, Result.andThen_ok, if_pos hlt, hs, Sem.run_pure]
  rfl
theorem run_next_end {g : Nat} {s : ByteArray} {pos : Nat} (t : TypeId) (h : w.heap[g]? = some (.stringIter s pos)) (hge : ¬ pos < s.size) :
    (Instr.next (.pointer (some ⟨g, 0, none⟩)) true t).run P w = .ok (.tuple #[.bool false]) w := by
  have hg : (getObj g).run P w = .ok (.stringIter s pos) w := by simp [getObj, Sem.run, h]
  unfold Instr.next
  simp only [Sem.run_bind, hg, Result.andThen_ok, if_neg hge, Sem.run_pure]
end

section
variable {E : Env} {s : St} {o : Oper} {v : AV} {H' : Heap} {a : Act} {w : World} {next : Act → World → Prop} {ro : Option Nat} {Q : Exit → Act → World → Prop}

theorem run_op {P : Program} {x : Sem Value} {u : Value} {w w' : World} (h : x.run P w = .ok u w') : (do pure (.value (← x)) : Sem Next).run P w = .ok (.value u) w' := by
  simp only [Sem.run_bind, h, Result.andThen_ok, Sem.run_pure]

theorem OpR.sound (hJ : JOk E.J) (hd : ∀ d, o.dst = some d → d < E.n) (h : OpR E.P s.τ s.H o v H') (hr : Rel E s a w) (hnx : ∀ a' w', Rel E (s.put o.dst v H') a' w' → next a' w') : o.wpIn (FW ro) 0 E.P a w next Q := by
  cases h with
  | move x h =>
    obtain ⟨S, own, C, D, Ds, hr⟩ := hr
    exact wpIn_value (v := a.eval x) (w' := w) (by simp [h, Op.isDefer]) (by simp [execOp, h]) (hnx _ _ (hr.putOld hJ hd (R_ev hr.tmps x) (Grows.refl w _)))
  | assign x h =>
    obtain ⟨S, own, C, D, Ds, hr⟩ := hr
    exact wpIn_value (v := a.eval x) (w' := w) (by simp [h, Op.isDefer]) (by simp [execOp, h]) (hnx _ _ (hr.putOld hJ hd (R_ev hr.tmps x) (Grows.refl w _)))
  | pick c x y t h hc =>
    obtain ⟨S, own, C, D, Ds, hr⟩ := hr
    have h1 := R_ev hr.tmps c
    rw [hc] at h1
    have e : a.eval c = .bool t := by generalize a.eval c = z at h1; cases h1; rfl
    refine wpIn_value (v := if t then a.eval x else a.eval y) (w' := w) (by simp [h, Op.isDefer]) (by simp only [execOp, h, e, asBool, Sem.run_bind, Sem.run_pure, Result.andThen_ok]) (hnx _ _ (hr.putOld hJ hd ?_ (Grows.refl w _)))
    cases t
    · exact R_ev hr.tmps y
    · exact R_ev hr.tmps x
  | alloc e d z h hdd hz hok =>
    obtain ⟨S, own, C, D, Ds, hr⟩ := hr
    obtain ⟨g1, g2⟩ := (R_ofVal (ctx E s w S own) z).holds hok
    have hrel := hr.putBox hJ (hd d hdd) e g1 g2
    rw [← hdd] at hrel
    refine wpIn_value (by simp [h, Op.isDefer]) ?_ (hnx _ _ hrel)
    simp only [execOp, h]
    refine run_op ?_
    unfold Instr.alloc
    simp only [Sem.run_bind, run_zero w hz, Result.andThen_ok]
    simp [newVar, newRow, newObj, Sem.run]
  | box e x d h hdd hok =>
    obtain ⟨S, own, C, D, Ds, hr⟩ := hr
    obtain ⟨g1, g2⟩ := (R_ev hr.tmps x).holds hok
    have hrel := hr.putBox hJ (hd d hdd) e g1 g2
    rw [← hdd] at hrel
    refine wpIn_value (by simp [h, Op.isDefer]) ?_ (hnx _ _ hrel)
    simp only [execOp, h]
    refine run_op ?_
    simp [Instr.box, newVar, newRow, newObj, Sem.run]
  | build t parts z cells h hz hok hzc hf =>
    obtain ⟨S, own, C, D, Ds, hr⟩ := hr
    obtain ⟨q1, q2⟩ := map_vals hr.tmps id (fun x v h => h) parts
    obtain ⟨u, r1, r2⟩ := run_build (C := ctx E s w S own) hz hok hzc q1 q2 hf
    refine wpIn_value (v := u) (w' := w) (by simp [h, Op.isDefer]) ?_ (hnx _ _ (hr.putOld hJ hd r2 (Grows.refl w _)))
    simp only [execOp, h]
    exact run_op r1
  | lit t len parts e n z rows H1 h he hn hn0 hz hzc hzn hlim hH hf =>
    subst hH
    obtain ⟨S, own, C, D, Ds, hr⟩ := hr.frzs (parts.toList.map fun p => ev s.τ p.2)
    obtain ⟨q1, q2⟩ := map_vals hr.tmps (pur (frzs s.H (parts.toList.map fun p => ev s.τ p.2))) (fun x v h => h.pur hr.heap) parts
    obtain ⟨cs, r1, r2, r3, r4, r5⟩ := run_buildSlice (C := ctx E { s with H := frzs s.H (parts.toList.map fun p => ev s.τ p.2) } w S own) he hn hz hzc hzn hlim q1 q2 hf
    have hgr := Grows.alloc w (.cells cs e) fun _ => False
    have hlen : len ≤ maxLen := by
      have : len ≤ len * n := Nat.le_mul_of_pos_right _ hn0
      simp only [maxLen]
      omega
    have hput := hr.putNew hJ (d := o.dst) hd (x := .slt rows) (v := .slice (some ⟨w.heap.size, 0, none⟩) len len) hgr (by
      have hle := hr.leQuiet hgr (S' := fun b => S b ∨ (w.heap.size ≤ b ∧ b < (w.alloc (.cells cs e)).heap.size)) fun b hb => .inl hb
      have hres := R_slt_of (C := ctx E { s with H := frzs s.H (parts.toList.map fun p => ev s.τ p.2) } (w.alloc (.cells cs e)) (fun b => S b ∨ (w.heap.size ≤ b ∧ b < (w.alloc (.cells cs e)).heap.size)) own)
        (heap_alloc_new w (.cells cs e)) (.inr ⟨Nat.le_refl _, by simp⟩) (r3.mono hle) r4 (by omega)
      rwa [r5] at hres)
    refine wpIn_value (by simp [h, Op.isDefer]) ?_ (hnx _ _ hput)
    simp only [execOp, h]
    exact run_op r1
  | litOwn t len parts e n d z rows H1 h hdd he hn hn0 hz hzc hzn hlim hH hf =>
    subst hH
    obtain ⟨S, own, C, D, Ds, hr⟩ := hr.frzs (parts.toList.map fun p => ev s.τ p.2)
    obtain ⟨q1, q2⟩ := map_vals hr.tmps (pur (frzs s.H (parts.toList.map fun p => ev s.τ p.2))) (fun x v h => h.pur hr.heap) parts
    obtain ⟨cs, r1, r2, r3, r4, r5⟩ := run_buildSlice (C := ctx E { s with H := frzs s.H (parts.toList.map fun p => ev s.τ p.2) } w S own) he hn hz hzc hzn hlim q1 q2 hf
    have hlen : len ≤ maxLen := by
      have : len ≤ len * n := Nat.le_mul_of_pos_right _ hn0
      simp only [maxLen]
      omega
    refine wpIn_value (v := .slice (some ⟨w.heap.size, 0, none⟩) len len) (w' := w.alloc (.cells cs e)) (by simp [h, Op.isDefer]) ?_ (hnx _ _ ?_)
    · simp only [execOp, h]
      exact run_op r1
    · rw [hdd]
      refine ⟨S, upd own d (some w.heap.size), C, D, Ds, hr.key hJ d (some w.heap.size) (.row (nv (frzs s.H (parts.toList.map fun p => ev s.τ p.2)) d) e n rows) (Grows.alloc w _ _) (fun blk hk => ?_)
        (fun g e => .inl (by cases e; exact ⟨Nat.le_refl _, by simp⟩)) (fun hle => ?_) (put_size a _ _) (put_defers a _ _) fun hle => ?_⟩
      · have := nv_gt hk
        exact ⟨Nat.le_of_lt this, fun e => absurd e (by show nv (frzs s.H _) d ≠ blk.ver; exact Nat.ne_of_gt this)⟩
      · exact ⟨cs, len, heap_alloc_new w _, r2, by omega, hlen, hn0, r4, r3.mono hle⟩
      · refine R_put (fun i => (hr.tmps i).mono hle) hr.size (fun k e => by cases e; exact hd d hdd) ?_
        refine .ref d _ .o _ _ (upd_same _ _ _) (Nat.le_refl _) rfl fun _ => ?_
        show RefVal (w.alloc (.cells cs e)) (upd own d (some w.heap.size) d) _ _ _
        rw [upd_same]
        refine ⟨len, by rw [r5], fun cs' t' fr hcs => ?_⟩
        rw [heap_alloc_new w (.cells cs e)] at hcs
        cases hcs
        exact r2
  | makeSlice t e l c n b d z kl kc len cap h hdd he hn hb hn0 hz hzc hzn hl hc hlc hlim h63 =>
    obtain ⟨S, own, C, D, Ds, hr⟩ := hr
    have hval : ∀ (y : Operand) (k : IntKind) (i : Int), ev s.τ y = .int k i → a.eval y = .int k i := fun y k i hy => by
      have h1 := R_ev hr.tmps y
      rw [hy] at h1
      generalize a.eval y = z at h1
      cases h1; rfl
    obtain ⟨cs, r1, r2, r3⟩ := run_makeSlice (C := ctx E s w S own) he hn hb hz hzc hzn kl kc hlc hlim h63
    refine wpIn_value (v := .slice (some ⟨w.heap.size, 0, none⟩) len cap) (w' := w.alloc (.cells cs e)) (by simp [h, Op.isDefer]) ?_ (hnx _ _ ?_)
    · simp only [execOp, h, hval l kl len hl, hval c kc cap hc]
      exact run_op r1
    · rw [hdd]
      refine ⟨S, upd own d (some w.heap.size), C, D, Ds, hr.key hJ d (some w.heap.size) (.row (nv s.H d) e n (List.replicate len (ofVal z).cells)) (Grows.alloc w _ _) (fun blk hk => ?_)
        (fun g e => .inl (by cases e; exact ⟨Nat.le_refl _, by simp⟩)) (fun hle => ?_) (put_size a _ _) (put_defers a _ _) fun hle => ?_⟩
      · have := nv_gt hk
        exact ⟨Nat.le_of_lt this, fun e => absurd e (by show nv s.H d ≠ blk.ver; exact Nat.ne_of_gt this)⟩
      · exact ⟨cs, cap, heap_alloc_new w _, r2, by rw [List.length_replicate]; exact hlc, h63, hn0, fun r hr => by rw [(List.mem_replicate.1 hr).2, hzn], r3.mono hle⟩
      · refine R_put (fun i => (hr.tmps i).mono hle) hr.size (fun k e => by cases e; exact hd d hdd) ?_
        refine .ref d _ .o _ _ (upd_same _ _ _) (Nat.le_refl _) rfl fun _ => ?_
        show RefVal (w.alloc (.cells cs e)) (upd own d (some w.heap.size) d) _ _ _
        rw [upd_same]
        refine ⟨cap, by rw [List.length_replicate], fun cs' t' fr hcs => ?_⟩
        rw [heap_alloc_new w (.cells cs e)] at hcs
        cases hcs
        exact r2
  | load t x n ag v h hn ha hv =>
    obtain ⟨S, own, C, D, Ds, hr⟩ := hr
    obtain ⟨u, r1, r2⟩ := hr.rdV (R_ev hr.tmps x) hn ha hv
    refine wpIn_value (v := u) (w' := w) (by simp [h, Op.isDefer]) ?_ (hnx _ _ (hr.putOld hJ hd r2 (Grows.refl w _)))
    simp only [execOp, h]
    exact run_op r1
  | store t x y n H' h hn hw =>
    obtain ⟨S, own, C, D, Ds, hr⟩ := hr
    obtain ⟨w', r1, r2⟩ := hr.wrV hJ (R_ev hr.tmps x) (R_ev hr.tmps y) hn hw hd
    refine wpIn_none (w' := w') (by simp [h, Op.isDefer]) ?_ (hnx _ _ r2)
    simp only [execOp, h, Sem.run_bind, r1, Result.andThen_ok, Sem.run_pure]
  | binOp op t yt x y v h hv =>
    obtain ⟨S, own, C, D, Ds, hr⟩ := hr
    obtain ⟨u, r1, r2⟩ := binV_sound x y (R_ev hr.tmps x) (R_ev hr.tmps y) hv w
    refine wpIn_value (v := u) (w' := w) (by simp [h, Op.isDefer]) ?_ (hnx _ _ (hr.putOld hJ hd r2 (Grows.refl w _)))
    simp only [execOp, h]
    exact run_op r1
  | eqAgg op t yt x y ng p v h hp hv =>
    obtain ⟨S, own, C, D, Ds, hr⟩ := hr
    obtain ⟨u, r1, r2⟩ := eqA_sound x y hp (R_ev hr.tmps x) (R_ev hr.tmps y) hv w
    refine wpIn_value (v := u) (w' := w) (by simp [h, Op.isDefer]) ?_ (hnx _ _ (hr.putOld hJ hd r2 (Grows.refl w _)))
    simp only [execOp, h]
    exact run_op r1
  | index t x ix sb k i b h ht hx hi h0 hb =>
    obtain ⟨S, own, C, D, Ds, hr⟩ := hr
    have h1 := R_ev hr.tmps x
    rw [hx] at h1
    have h2 := R_ev hr.tmps ix
    rw [hi] at h2
    have e1 : a.eval x = .string sb := by generalize a.eval x = z at h1; cases h1; rfl
    have e2 : a.eval ix = .int k i := by generalize a.eval ix = z at h2; cases h2; rfl
    refine wpIn_value (v := .int .u8 b.toNat) (w' := w) (by simp [h, Op.isDefer]) ?_ (hnx _ _ (hr.putOld hJ hd (.int _ _) (Grows.refl w _)))
    simp only [execOp, h, e1, e2]
    exact run_op (run_index_str w ht h0 hb)
  | sliceStr t x lo hi sb l' h' l hh h ht hx hlo hhi hl hh' hlh hhr =>
    obtain ⟨S, own, C, D, Ds, hr⟩ := hr
    have h1 := R_ev hr.tmps x
    rw [hx] at h1
    have e1 : a.eval x = .string sb ∧ sb.size ≤ maxLen := by generalize a.eval x = z at h1; cases h1; exact ⟨rfl, by assumption⟩
    have hix : ∀ (y : Option Operand) z, ixV s.τ y = some z → y.map a.eval = z.map fun p => .int p.1 p.2 := fun y z hy => by
      unfold ixV at hy
      cases y with
      | none => cases hy; rfl
      | some q =>
        dsimp only at hy
        split at hy
        · rename_i k i hq
          cases hy
          have h1 := R_ev hr.tmps q
          rw [hq] at h1
          have e : a.eval q = .int k i := by generalize a.eval q = z at h1; cases h1; rfl
          simp [e]
        · cases hy
    refine wpIn_value (v := .string (sb.extract l hh)) (w' := w) (by simp [h, Op.isDefer]) ?_ (hnx _ _ (hr.putOld hJ hd (.str _ (by have := e1.2; rw [ByteArray.size_extract]; omega)) (Grows.refl w _)))
    simp only [execOp, h, e1.1, hix lo l' hlo, hix hi h' hhi]
    exact run_op (run_slice_str w ht l' h' hl hh' hlh hhr)
  | rangeStr t x d sb h hdd ht hx =>
    obtain ⟨S, own, C, D, Ds, hr⟩ := hr
    have h1 := R_ev hr.tmps x
    rw [hx] at h1
    have e1 : a.eval x = .string sb ∧ sb.size ≤ maxLen := by generalize a.eval x = z at h1; cases h1; exact ⟨rfl, by assumption⟩
    have hrel : Rel E (s.put o.dst (.ref d (nv s.H d) (.p 0)) (upd s.H d (some (.obj (nv s.H d) (.siter sb 0))))) (a.put o.dst (.pointer (some ⟨w.heap.size, 0, none⟩))) (w.alloc (.stringIter sb 0)) := by
      rw [hdd]
      refine ⟨S, upd own d (some w.heap.size), C, D, Ds, hr.key hJ d (some w.heap.size) (.obj (nv s.H d) (.siter sb 0)) (Grows.alloc w _ _) (fun blk hk => ?_) (fun g e => .inl (by cases e; exact ⟨Nat.le_refl _, by simp⟩)) (fun hle => ?_) (put_size a _ _) (put_defers a _ _) fun hle => ?_⟩
      · have := nv_gt hk
        exact ⟨Nat.le_of_lt this, fun e => by have e2 : nv s.H d = blk.ver := e; omega⟩
      · exact ⟨_, heap_alloc_new w _, rfl, e1.2⟩
      · refine R_put (fun i => (hr.tmps i).mono hle) hr.size (fun k e => by cases e; exact hd _ hdd) ?_
        exact .ref d (nv s.H d) (.p 0) _ _ (upd_same _ _ _) (Nat.le_refl _) rfl fun _ => by simp [RefVal, upd]
    refine wpIn_value (by simp [h, Op.isDefer]) ?_ (hnx _ _ hrel)
    simp only [execOp, h, e1.1]
    exact run_op (run_range_str w ht)
  | nextStr x k ver sb pos h hx hk hlt =>
    obtain ⟨S, own, C, D, Ds, hr⟩ := hr
    have h1 := R_ev hr.tmps x
    rw [hx] at h1
    obtain ⟨q1, q2⟩ := hr.ref_at h1 hk rfl
    cases hog : own k with
    | none => rw [hog] at q2; exact q2.elim
    | some g =>
      rw [hog] at q1 q2
      obtain ⟨ob, g1, rfl, g2⟩ := q2
      have e1 : a.eval x = .pointer (some ⟨g, 0, none⟩) := q1
      have hgr : Grows w (w.putObj g (.stringIter sb (pos + (Utf8.decode sb pos).2))) (LiveAt s own k) := ⟨rfl, rfl, rfl, Nat.le_of_eq World.putObj_size.symm, fun b hb hn => World.putObj_heap_other fun e => hn ⟨_, hk, rfl, by rw [hog, e]⟩⟩
      refine wpIn_value (w' := w.putObj g (.stringIter sb (pos + (Utf8.decode sb pos).2))) (v := .tuple #[.bool true, .int .i64 pos, .int .i32 (Utf8.decode sb pos).1]) (by simp [h, Op.isDefer]) ?_ (hnx _ _ ?_)
      · simp only [execOp, h, e1]
        exact run_op (run_next_str w _ g1 hlt)
      · refine ⟨S, upd own k (some g), C, D, Ds, hr.key hJ k (some g) (.obj ver (.siter sb (pos + (Utf8.decode sb pos).2))) hgr (fun blk hk' => ?_) (fun g' e => by cases e; exact .inr ⟨_, hk, rfl, hog⟩) (fun hle' => ?_) (put_size a _ _) (put_defers a _ _) fun hle' => ?_⟩
        · rw [hk] at hk'
          cases hk'
          refine ⟨Nat.le_refl _, fun _ r u hu => ?_⟩
          rw [hog] at hu
          cases r <;> exact hu
        · exact ⟨_, World.putObj_heap_same (Array.getElem?_eq_some_iff.1 g1).1, rfl, g2⟩
        · refine R_put (fun i => (hr.tmps i).mono hle') hr.size hd ?_
          exact .tup [.bool true, .int .i64 pos, .int .i32 (Utf8.decode sb pos).1] [.bool true, .int .i64 pos, .int .i32 (Utf8.decode sb pos).1] rfl fun i z hz => by
            match i, hz with
            | 0, hz => simp at hz; subst hz; exact .bool _
            | 1, hz => simp at hz; subst hz; exact .int _ _
            | 2, hz => simp at hz; subst hz; exact .int _ _
            | i + 3, hz => simp at hz
  | nextEnd x k ver sb pos h hx hk hge =>
    obtain ⟨S, own, C, D, Ds, hr⟩ := hr
    have h1 := R_ev hr.tmps x
    rw [hx] at h1
    obtain ⟨q1, q2⟩ := hr.ref_at h1 hk rfl
    cases hog : own k with
    | none => rw [hog] at q2; exact q2.elim
    | some g =>
      rw [hog] at q1 q2
      obtain ⟨ob, g1, rfl, g2⟩ := q2
      have e1 : a.eval x = .pointer (some ⟨g, 0, none⟩) := q1
      refine wpIn_value (w' := w) (v := .tuple #[.bool false]) (by simp [h, Op.isDefer]) ?_ (hnx _ _ (hr.putOld hJ hd (.tup [.bool false] [.bool false] rfl fun i z hz => ?_) (Grows.refl w _)))
      · simp only [execOp, h, e1]
        exact run_op (run_next_end w _ g1 hge)
      · match i, hz with
        | 0, hz => simp at hz; subst hz; exact .bool _
        | i + 1, hz => simp at hz
  | not t x v h hv =>
    obtain ⟨S, own, C, D, Ds, hr⟩ := hr
    have h1 := R_ev hr.tmps x
    unfold notV at hv
    split at hv
    · rename_i b hb
      cases hv
      rw [hb] at h1
      have e : a.eval x = .bool b := by generalize a.eval x = z at h1; cases h1; rfl
      refine wpIn_value (v := .bool (!b)) (w' := w) (by simp [h, Op.isDefer]) ?_ (hnx _ _ (hr.putOld hJ hd (.bool _) (Grows.refl w _)))
      simp only [execOp, h, e]
      exact run_op rfl
    · cases hv
  | fieldAddr t x f off n v h hf hn hv =>
    obtain ⟨S, own, C, D, Ds, hr⟩ := hr
    obtain ⟨g, p, e, r2⟩ := hr.addA (R_ev hr.tmps x) hv
    refine wpIn_value (w' := w) (by simp [h, Op.isDefer]) ?_ (hnx _ _ (hr.putOld hJ hd r2 (Grows.refl w _)))
    simp only [execOp, h, e]
    exact run_op (run_fieldAt hf hn w g p)
  | field t x f off n ag cs v h hf ha hx hv =>
    obtain ⟨S, own, C, D, Ds, hr⟩ := hr
    have h1 := R_ev hr.tmps x
    rw [hx] at h1
    generalize hz : a.eval x = z at h1
    cases h1 with
    | agg _ us hl hh =>
      obtain ⟨u, hu, hR⟩ := run_field w hf ha us hl hh hv
      refine wpIn_value (v := u) (w' := w) (by simp [h, Op.isDefer]) ?_ (hnx _ _ (hr.putOld hJ hd hR (Grows.refl w _)))
      simp only [execOp, h, hz]
      exact run_op hu
  | indexAddr t e x ix n k i v h he hn hi hv =>
    obtain ⟨S, own, C, D, Ds, hr⟩ := hr
    have h1 := R_ev hr.tmps ix
    rw [hi] at h1
    have ei : a.eval ix = .int k i := by generalize a.eval ix = z at h1; cases h1; rfl
    obtain ⟨u, r1, r2⟩ := hr.ixA (R_ev hr.tmps x) he hn k hv
    refine wpIn_value (v := u) (w' := w) (by simp [h, Op.isDefer]) ?_ (hnx _ _ (hr.putOld hJ hd r2 (Grows.refl w _)))
    simp only [execOp, h, ei]
    exact run_op r1
  | indexArr t e x ix len n k i v h he hn hi h0 h1 hv =>
    obtain ⟨S, own, C, D, Ds, hr⟩ := hr
    have h2 := R_ev hr.tmps ix
    rw [hi] at h2
    have ei : a.eval ix = .int k i := by generalize a.eval ix = z at h2; cases h2; rfl
    obtain ⟨g, p, e, r2⟩ := hr.addA (R_ev hr.tmps x) hv
    refine wpIn_value (w' := w) (by simp [h, Op.isDefer]) ?_ (hnx _ _ (hr.putOld hJ hd r2 (Grows.refl w _)))
    simp only [execOp, h, ei, e]
    exact run_op (run_indexAt_array he hn w k i g p h0 h1)
  | extract x i vs v h hx hv =>
    obtain ⟨S, own, C, D, Ds, hr⟩ := hr
    have h1 := R_ev hr.tmps x
    rw [hx] at h1
    generalize hz : a.eval x = z at h1
    cases h1 with
    | tup _ us hl hh =>
      have hi : i < us.length := by have := (List.getElem?_eq_some_iff.1 hv).1; omega
      have hv2 := hh i v hv
      rw [List.getD_eq_getElem?_getD, List.getElem?_eq_getElem hi] at hv2
      refine wpIn_value (v := us[i]) (w' := w) (by simp [h, Op.isDefer]) ?_ (hnx _ _ (hr.putOld hJ hd hv2 (Grows.refl w _)))
      simp only [execOp, h, hz]
      refine run_op ?_
      simp [Instr.extract, hi]
  | slice t e x lo hi n l' h' rows l hh h he hn hx hsz hlo hhi hl hh' hlh hhr =>
    obtain ⟨S, own, C, D, Ds, hr⟩ := hr
    have hix : ∀ (y : Option Operand) z, ixV s.τ y = some z → y.map a.eval = z.map fun p => .int p.1 p.2 := fun y z hy => by
      unfold ixV at hy
      cases y with
      | none => cases hy; rfl
      | some q =>
        dsimp only at hy
        split at hy
        · rename_i k i hq
          cases hy
          have h1 := R_ev hr.tmps q
          rw [hq] at h1
          have e : a.eval q = .int k i := by generalize a.eval q = z at h1; cases h1; rfl
          simp [e]
        · cases hy
    obtain ⟨u, r1, r2⟩ := run_slice_view (C := ctx E s w S own) he hn (hr.rowsA (R_ev hr.tmps x) hx) hsz l' h' hl hh' hlh hhr
    refine wpIn_value (v := u) (w' := w) (by simp [h, Op.isDefer]) ?_ (hnx _ _ (hr.putOld hJ hd r2 (Grows.refl w _)))
    simp only [execOp, h, hix lo l' hlo, hix hi h' hhi]
    exact run_op r1
  | makeFunc f caps h =>
    obtain ⟨S, own, C, D, Ds, hr⟩ := hr
    have hv : R (ctx E s w S own) (.func f (caps.toList.map (ev s.τ))) (.func (.func f) #[] (caps.map a.eval)) := by
      have := R.func (C := ctx E s w S own) f (caps.toList.map (ev s.τ)) (caps.toList.map a.eval) (by simp) fun i x hx => by
        rw [List.getElem?_map] at hx
        obtain ⟨y, hy, rfl⟩ := Option.map_eq_some_iff.1 hx
        rw [List.getD_eq_getElem?_getD, List.getElem?_map, hy]
        exact R_ev hr.tmps y
      have e : (List.map a.eval caps.toList).toArray = caps.map a.eval := by rw [← Array.toList_map]
      rwa [e] at this
    refine wpIn_value (w' := w) (by simp [h, Op.isDefer]) ?_ (hnx _ _ (hr.putOld hJ hd hv (Grows.refl w _)))
    simp only [execOp, h]
    refine run_op ?_
    simp [Instr.makeFunc]
  | nilCheck x h hx =>
    obtain ⟨S, own, C, D, Ds, hr⟩ := hr
    have h1 := R_ev hr.tmps x
    have hv : (∃ p, a.eval x = .pointer (some p)) ∨ (∃ f vs, a.eval x = .func (.func f) #[] vs) ∨ (∃ l, a.eval x = .func (.yield l) #[] #[]) := by
      unfold okPtr at hx
      split at hx
      · rename_i k ver off hev
        rw [hev] at h1
        split at hx
        · rename_i v t cells hk
          obtain ⟨g1, g2⟩ := hr.ref_at h1 hk (beq_iff_eq.1 hx)
          cases hog : own k with
          | none => rw [hog] at g2; exact g2.elim
          | some g => rw [hog] at g1; exact .inl ⟨_, g1⟩
        · rename_i v cells hk
          obtain ⟨g1, g2⟩ := hr.ref_at h1 hk (beq_iff_eq.1 hx)
          cases hog : own k with
          | none => rw [hog] at g2; exact g2.elim
          | some g => rw [hog] at g1; exact .inl ⟨_, g1⟩
        · cases hx
      · rename_i k ver i off hev
        rw [hev] at h1
        split at hx
        · rename_i v t sz rows hk
          simp only [Bool.and_eq_true, beq_iff_eq, decide_eq_true_eq] at hx
          obtain ⟨g1, g2⟩ := hr.ref_at h1 hk hx.1
          cases hog : own k with
          | none =>
            rw [hog] at g2
            have e : rows = [] := g2.1
            subst e
            simp at hx
          | some g => rw [hog] at g1; exact .inl ⟨_, g1⟩
        · cases hx
      · rename_i hev
        rw [hev] at h1
        generalize a.eval x = z at h1
        cases h1
        exact .inl ⟨_, rfl⟩
      · rename_i hev
        rw [hev] at h1
        generalize a.eval x = z at h1
        cases h1
        exact .inr (.inl ⟨_, _, rfl⟩)
      · rename_i hev
        rw [hev] at h1
        generalize a.eval x = z at h1
        cases h1
        exact .inr (.inr ⟨_, rfl⟩)
      · cases hx
    refine wpIn_value (v := a.eval x) (w' := w) (by simp [h, Op.isDefer]) ?_ (hnx _ _ (hr.putOld hJ hd h1 (Grows.refl w _)))
    rcases hv with ⟨p, e⟩ | ⟨f, vs, e⟩ | ⟨l, e⟩ <;> simp [execOp, h, e]
  | convInt st dt x k k' i h hs hdt hx =>
    obtain ⟨S, own, C, D, Ds, hr⟩ := hr
    have h1 := R_ev hr.tmps x
    rw [hx] at h1
    have e : a.eval x = .int k' i := by generalize a.eval x = z at h1; cases h1; rfl
    obtain ⟨sd, hsd⟩ := Option.isSome_iff_exists.1 hs
    refine wpIn_value (v := .int k (k.wrap i)) (w' := w) (by simp [h, Op.isDefer]) ?_ (hnx _ _ (hr.putOld hJ hd (.int _ _) (Grows.refl w _)))
    simp only [execOp, h, e]
    refine run_op ?_
    unfold convert
    simp only [Sem.run_bind, run_underlying hsd, run_underlying hdt, Result.andThen_ok]
    simp [Conv.intToInt]
  | len t x n h ht hx =>
    obtain ⟨S, own, C, D, Ds, hr⟩ := hr
    obtain ⟨hmax, hcase⟩ := hr.lenA (R_ev hr.tmps x) hx
    obtain ⟨A, cap, e⟩ := hcase
    obtain ⟨el, hel⟩ := Option.isSome_iff_exists.1 ht
    refine wpIn_value (v := .int .i64 n) (w' := w) (by simp [h, Op.isDefer]) ?_ (hnx _ _ (hr.putOld hJ hd (.int _ _) (Grows.refl w _)))
    simp [execOp, h, resolve, invoke, builtin, Builtin.len_, e, run_underlying (elOf_iff hel), goInt]
  | lenStr t x b h ht hx =>
    obtain ⟨S, own, C, D, Ds, hr⟩ := hr
    have h1 := R_ev hr.tmps x
    rw [hx] at h1
    have e : a.eval x = .string b := by generalize a.eval x = z at h1; cases h1; rfl
    refine wpIn_value (v := .int .i64 b.size) (w' := w) (by simp [h, Op.isDefer]) ?_ (hnx _ _ (hr.putOld hJ hd (.int _ _) (Grows.refl w _)))
    simp [execOp, h, resolve, invoke, builtin, Builtin.len_, e, run_underlying ht, goInt]
  | min t1 t2 x y v h hv =>
    obtain ⟨S, own, C, D, Ds, hr⟩ := hr
    have h1 := R_ev hr.tmps x
    have h2 := R_ev hr.tmps y
    unfold minV at hv
    split at hv
    · rename_i k i k' j hx hy
      cases hv
      rw [hx] at h1
      rw [hy] at h2
      have e1 : a.eval x = .int k i := by generalize a.eval x = z at h1; cases h1; rfl
      have e2 : a.eval y = .int k' j := by generalize a.eval y = z at h2; cases h2; rfl
      refine wpIn_value (v := .int k (if j < i then j else i)) (w' := w) (by simp [h, Op.isDefer]) ?_ (hnx _ _ (hr.putOld hJ hd (.int _ _) (Grows.refl w _)))
      simp [execOp, h, resolve, invoke, builtin, Builtin.min_, e1, e2, Builtin.min2]
    · cases hv
  | append t e x y n b k ver rows new h he hok hx hk hy hb =>
    obtain ⟨S, own, C, D, Ds, hr⟩ := hr
    obtain ⟨v', w', r1, r2⟩ := hr.append hJ (k := k) (t := t) (ty := o.type) (ver := ver) he hok (R_ev hr.tmps x) (R_ev hr.tmps y) hy hb (.inl ⟨hx, hk⟩) hd
    refine wpIn_value (v := v') (w' := w') (by simp [h, Op.isDefer]) ?_ (hnx _ _ r2)
    simp only [execOp, h, resolve, invoke, builtin, Sem.run_bind, Sem.run_pure, Result.andThen_ok, List.map_toArray, List.map_cons, List.map_nil, r1]
  | appendNil t e x y n b d new h he hok hx hdd hy hb =>
    obtain ⟨S, own, C, D, Ds, hr⟩ := hr
    obtain ⟨v', w', r1, r2⟩ := hr.append hJ (k := d) (t := t) (ty := o.type) (ver := nv s.H d) (rows := []) he hok (R_ev hr.tmps x) (R_ev hr.tmps y) hy (by simpa using hb) (.inr ⟨hx, rfl, rfl⟩) hd
    refine wpIn_value (v := v') (w' := w') (by simp [h, Op.isDefer]) ?_ (hnx _ _ r2)
    simp only [execOp, h, resolve, invoke, builtin, Sem.run_bind, Sem.run_pure, Result.andThen_ok, List.map_toArray, List.map_cons, List.map_nil, r1]
  | call f c fid caps r H1 h hc hf hH hcl hs =>
    subst hH
    obtain ⟨S, own, C, D, Ds, hr⟩ := hr.frzs (c.args.toList.map (ev s.τ))
    have h1 := R_ev hr.tmps f
    rw [show ev ({ s with H := frzs s.H (c.args.toList.map (ev s.τ)) } : St).τ f = .func fid caps from hf] at h1
    generalize hz : a.eval f = z at h1
    cases h1 with
    | func _ _ us hl hh =>
      have hargs : RL (bare S w E.l) (callArgs s.τ (frzs s.H (c.args.toList.map (ev s.τ))) c caps) (c.args.toList.map a.eval ++ us) := by
        refine ⟨by simp [callArgs, hl], fun i x hx => ?_⟩
        have hcx := closedL_get hcl hx
        unfold callArgs at hx
        rw [List.getElem?_map] at hx
        obtain ⟨y, hy, rfl⟩ := Option.map_eq_some_iff.1 hx
        rw [List.getElem?_append] at hy
        have hR : R (ctx E { s with H := frzs s.H (c.args.toList.map (ev s.τ)) } w S own) y ((c.args.toList.map a.eval ++ us).getD i undef) := by
          rw [List.getD_eq_getElem?_getD, List.getElem?_append]
          simp only [List.length_map] at hy ⊢
          split at hy
          · rename_i hi
            rw [if_pos hi, List.getElem?_map]
            rw [List.getElem?_map] at hy
            obtain ⟨q, hq, rfl⟩ := Option.map_eq_some_iff.1 hy
            rw [hq]
            exact R_ev hr.tmps q
          · rename_i hi
            rw [if_neg hi, ← List.getD_eq_getElem?_getD]
            exact hh _ y hy
        exact (hR.pur hr.heap).bare E.l hcx
      have hcall := hs.calls w S E.l _ (fun b hb => (hr.hS b hb).1) hargs
      refine wpIn_enter (f := fid) (args := (c.args.toList.map a.eval ++ us).toArray) (w' := w) (by simp [h, Op.isDefer]) ?_ (hcall.mono fun e w' ⟨u, he, hb, hu⟩ => ⟨u, he, hnx _ _ ?_⟩)
      · have e1 : execOp a.eval o = (do let d ← resolve a.eval c o.type; invoke d.target d.args) := by simp only [execOp, h]
        rw [e1]
        unfold resolve
        simp only [hc, hz, Deferred.ofValue, Sem.run_bind, Sem.run_pure, Result.andThen_ok, invoke]
        have e2 : (#[] ++ c.args.map a.eval ++ us.toArray) = (c.args.toList.map a.eval ++ us).toArray := by
          apply Array.toList_inj.1
          simp
        rw [e2]
        exact hs.enters _ _
      · exact hr.putNew hJ hd (Grows.of_below hb _) (hu.of_bare _ rfl (fun b hb => hb) rfl)
  | callRow f c fid caps H1 t sz rows d h hc hf hH hcl hdd hs =>
    subst hH
    obtain ⟨S, own, C, D, Ds, hr⟩ := hr.frzs (c.args.toList.map (ev s.τ))
    have h1 := R_ev hr.tmps f
    rw [show ev ({ s with H := frzs s.H (c.args.toList.map (ev s.τ)) } : St).τ f = .func fid caps from hf] at h1
    generalize hz : a.eval f = z at h1
    cases h1 with
    | func _ _ us hl hh =>
      have hargs : RL (bare S w E.l) (callArgs s.τ (frzs s.H (c.args.toList.map (ev s.τ))) c caps) (c.args.toList.map a.eval ++ us) := by
        refine ⟨by simp [callArgs, hl], fun i x hx => ?_⟩
        have hcx := closedL_get hcl hx
        unfold callArgs at hx
        rw [List.getElem?_map] at hx
        obtain ⟨y, hy, rfl⟩ := Option.map_eq_some_iff.1 hx
        rw [List.getElem?_append] at hy
        have hR : R (ctx E { s with H := frzs s.H (c.args.toList.map (ev s.τ)) } w S own) y ((c.args.toList.map a.eval ++ us).getD i undef) := by
          rw [List.getD_eq_getElem?_getD, List.getElem?_append]
          simp only [List.length_map] at hy ⊢
          split at hy
          · rename_i hi
            rw [if_pos hi, List.getElem?_map]
            rw [List.getElem?_map] at hy
            obtain ⟨q, hq, rfl⟩ := Option.map_eq_some_iff.1 hy
            rw [hq]
            exact R_ev hr.tmps q
          · rename_i hi
            rw [if_neg hi, ← List.getD_eq_getElem?_getD]
            exact hh _ y hy
        exact (hR.pur hr.heap).bare E.l hcx
      have hcall := hs.calls w S E.l _ (fun b hb => (hr.hS b hb).1) hargs
      refine wpIn_enter (f := fid) (args := (c.args.toList.map a.eval ++ us).toArray) (w' := w) (by simp [h, Op.isDefer]) ?_ (hcall.mono fun e w' ⟨u, og, S', he, hb, hog, hrow, hval, hone⟩ => ⟨u, he, hnx _ _ ?_⟩)
      · have e1 : execOp a.eval o = (do let d ← resolve a.eval c o.type; invoke d.target d.args) := by simp only [execOp, h]
        rw [e1]
        unfold resolve
        simp only [hc, hz, Deferred.ofValue, Sem.run_bind, Sem.run_pure, Result.andThen_ok, invoke]
        have e2 : (#[] ++ c.args.map a.eval ++ us.toArray) = (c.args.toList.map a.eval ++ us).toArray := by
          apply Array.toList_inj.1
          simp
        rw [e2]
        exact hs.enters _ _
      · rw [hdd]
        refine ⟨S, upd own d og, C, D, Ds, hr.key hJ d og (.row (nv (frzs s.H (c.args.toList.map (ev s.τ))) d) t sz rows) (Grows.of_below hb _) (fun blk hk => ?_)
          (fun g e => .inl (hog g e)) (fun hle => hrow.flatRow hs.flat rfl) (put_size a _ _) (put_defers a _ _) fun hle => ?_⟩
        · have := nv_gt hk
          exact ⟨Nat.le_of_lt this, fun e => absurd e (by show nv _ d ≠ blk.ver; exact Nat.ne_of_gt this)⟩
        · refine R_put (fun i => (hr.tmps i).mono hle) hr.size (fun k e => by cases e; exact hd d hdd) ?_
          refine .ref d _ .o _ _ (upd_same _ _ _) (Nat.le_refl _) hone fun _ => ?_
          show RefVal w' (upd own d og d) _ _ _
          rw [upd_same]
          cases og <;> exact hval
  | callFlat f c fid caps r H1 h hc hf hH hcl hs hfl =>
    subst hH
    obtain ⟨S0, own0, C0, D0, Ds0, hr0⟩ := hr
    obtain ⟨S, hr, _⟩ := frz_ok.fold (c.args.toList.map (ev s.τ)) E s a w S0 own0 C0 D0 Ds0 hr0
    change RelAt E { s with H := frzs s.H (c.args.toList.map (ev s.τ)) } a w S own0 C0 D0 Ds0 at hr
    have h1 := R_ev hr.tmps f
    rw [show ev ({ s with H := frzs s.H (c.args.toList.map (ev s.τ)) } : St).τ f = .func fid caps from hf] at h1
    generalize hz : a.eval f = z at h1
    cases h1 with
    | func _ _ us hl hh =>
      have hargs : RL (bare S w E.l) (callArgs s.τ (frzs s.H (c.args.toList.map (ev s.τ))) c caps) (c.args.toList.map a.eval ++ us) := by
        refine ⟨by simp [callArgs, hl], fun i x hx => ?_⟩
        have hcx := closedL_get hcl hx
        unfold callArgs at hx
        rw [List.getElem?_map] at hx
        obtain ⟨y, hy, rfl⟩ := Option.map_eq_some_iff.1 hx
        rw [List.getElem?_append] at hy
        have hR : R (ctx E { s with H := frzs s.H (c.args.toList.map (ev s.τ)) } w S own0) y ((c.args.toList.map a.eval ++ us).getD i undef) := by
          rw [List.getD_eq_getElem?_getD, List.getElem?_append]
          simp only [List.length_map] at hy ⊢
          split at hy
          · rename_i hi
            rw [if_pos hi, List.getElem?_map]
            rw [List.getElem?_map] at hy
            obtain ⟨q, hq, rfl⟩ := Option.map_eq_some_iff.1 hy
            rw [hq]
            exact R_ev hr.tmps q
          · rename_i hi
            rw [if_neg hi, ← List.getD_eq_getElem?_getD]
            exact hh _ y hy
        exact (hR.pur hr.heap).bare E.l hcx
      have hcall := hs.calls w S E.l _ (fun b hb => (hr.hS b hb).1) hargs
      refine wpIn_enter (f := fid) (args := (c.args.toList.map a.eval ++ us).toArray) (w' := w) (by simp [h, Op.isDefer]) ?_ (hcall.mono fun e w' ⟨u, he, hb, hu⟩ => ⟨u, he, hnx _ _ ?_⟩)
      · have e1 : execOp a.eval o = (do let d ← resolve a.eval c o.type; invoke d.target d.args) := by simp only [execOp, h]
        rw [e1]
        unfold resolve
        simp only [hc, hz, Deferred.ofValue, Sem.run_bind, Sem.run_pure, Result.andThen_ok, invoke]
        have e2 : (#[] ++ c.args.map a.eval ++ us.toArray) = (c.args.toList.map a.eval ++ us).toArray := by
          apply Array.toList_inj.1
          simp
        rw [e2]
        exact hs.enters _ _
      · exact hr0.putNew hJ hd (Grows.of_below hb _) (hu.flat hfl)
end

end Go.Am
