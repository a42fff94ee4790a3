import Derived.Test.YtkagfenchknjjaaAmSpec
set_option linter.unusedVariables false
set_option linter.unusedSimpArgs false
namespace Go.Am
open Go.RowKit

/-! ### The surface: what code does, in the order of its text, with types' facts reckoned -/
def xMov (v : AV) (H : Heap) : Stp := some (v, H)
def xPick (c x y : AV) (H : Heap) : Stp := ob (pickV c x y) fun v => some (v, H)
def xAlloc (d : Nat) (e : TypeId) (z : List AV) (H : Heap) : Stp := some (.ref d (nv H d) (.p 0), upd H d (some (.box (nv H d) e z)))
def xBox (d : Nat) (e : TypeId) (v : AV) (H : Heap) : Stp := oif (okCells v.cells) (some (.ref d (nv H d) (.p 0), upd H d (some (.box (nv H d) e v.cells))))
def fillP : List AV → List (Nat × Nat × AV) → Option (List AV)
  | cells, [] => some cells
  | cells, (o, n, x) :: rest => if okCells x.cells = true ∧ x.cells.length = n ∧ o + n ≤ cells.length then fillP (setL cells o x.cells) rest else none
def xBuild (z : List AV) (parts : List (Nat × Nat × AV)) (H : Heap) : Stp := ob (fillP z parts) fun cells => some (.agg cells, H)
def xLit (n len : Nat) (z : List AV) (parts : List (Nat × AV)) (H : Heap) : Stp :=
  ob (fillR n (List.replicate len z) (parts.map fun p => (p.1, pur (frzs H (parts.map fun p => p.2)) p.2))) fun rows => some (.slt rows, frzs H (parts.map fun p => p.2))
def xRow (d : Nat) (e : TypeId) (n len : Nat) (z : List AV) (parts : List (Nat × AV)) (H : Heap) : Stp :=
  ob (fillR n (List.replicate len z) (parts.map fun p => (p.1, pur (frzs H (parts.map fun p => p.2)) p.2))) fun rows => some (.ref d (nv (frzs H (parts.map fun p => p.2)) d) .o,
    upd (frzs H (parts.map fun p => p.2)) d (some (.row (nv (frzs H (parts.map fun p => p.2)) d) e n rows)))
def xMks (d : Nat) (e : TypeId) (n b : Nat) (z : List AV) (l c : AV) (H : Heap) : Stp := ob (intV l) fun p => ob (intV c) fun q =>
  oif (decide (0 ≤ p.2 ∧ p.2 ≤ q.2 ∧ b * q.2.toNat ≤ 281474976710656 ∧ q.2.toNat ≤ maxLen)) (some (.ref d (nv H d) .o, upd H d (some (.row (nv H d) e n (List.replicate p.2.toNat z)))))
def xLoad (n : Nat) (ag : Bool) (x : AV) (H : Heap) : Stp := ob (rdV H n ag x) fun v => some (v, H)
def xStore (n : Nat) (x y : AV) (H : Heap) : Stp := ob (wrV H n y.cells x) fun H' => some (.tup [], H')
def xBin (op : BinOp) (ib : Bool) (x y : AV) (H : Heap) : Stp := ob (binV ib op x y) fun v => some (v, H)
def xNot (x : AV) (H : Heap) : Stp := ob (notV x) fun v => some (v, H)
def xFld (off : Nat) (x : AV) (H : Heap) : Stp := ob (addA H off x) fun v => some (v, H)
def xIx (n : Nat) (x i : AV) (H : Heap) : Stp := ob (intV i) fun p => ob (ixA H n p.2 x) fun v => some (v, H)
def xIxA (len n : Nat) (x i : AV) (H : Heap) : Stp := ob (intV i) fun p => oif (decide (0 ≤ p.2 ∧ p.2 < len)) (ob (addA H (p.2.toNat * n) x) fun v => some (v, H))
def xField (off n : Nat) (ag : Bool) (x : AV) (H : Heap) : Stp := ob (aggV x) fun cs => ob (readA cs off n ag) fun v => some (v, H)
def xExt (x : AV) (i : Nat) (H : Heap) : Stp := ob (extV i x) fun v => some (v, H)
def ixO : Option AV → Option (Option (IntKind × Int))
  | none => some none
  | some (.int k i) => some (some (k, i))
  | _ => none
def xSlc (n : Nat) (x : AV) (lo hi : Option AV) (H : Heap) : Stp := ob (rowsA H x) fun rows => ob (ixO lo) fun l => ob (ixO hi) fun h => ob (slcV n rows l h) fun v => some (v, H)
def xMkf (f : FuncId) (caps : List AV) (H : Heap) : Stp := some (.func f caps, H)
def xNil (x : AV) (H : Heap) : Stp := oif (okPtr H x) (some (x, H))
def xConv (k : IntKind) (x : AV) (H : Heap) : Stp := ob (intV x) fun p => some (.int k (k.wrap p.2), H)
def xLen (x : AV) (H : Heap) : Stp := ob (lenV H x) fun v => some (v, H)
def xSlen (x : AV) (H : Heap) : Stp := ob (slenV x) fun v => some (v, H)
def xMin (x y : AV) (H : Heap) : Stp := ob (minV x y) fun v => some (v, H)
def xApp (P : Program) (e : TypeId) (n b : Nat) (d : Option Nat) (x y : AV) (H : Heap) : Stp := ob (srcA H n y) fun new => appV P H e n b d new x

def xEq (ng : Bool) (p : List (Nat × LK)) (x y : AV) (H : Heap) : Stp := ob (eqA ng p x y) fun v => some (v, H)
def xSix (x i : AV) (H : Heap) : Stp := ob (sixV x i) fun v => some (v, H)
def xSsl (x : AV) (lo hi : Option AV) (H : Heap) : Stp := ob (strV x) fun s => ob (ixO lo) fun l => ob (ixO hi) fun h => ob (sslV s l h) fun v => some (v, H)
def xRng (d : Nat) (x : AV) (H : Heap) : Stp := ob (strV x) fun s => some (.ref d (nv H d) (.p 0), upd H d (some (.obj (nv H d) (.siter s 0))))
def xNxt (x : AV) (H : Heap) : Stp := nxtV H x

def cLoop (B : (St → Prop) → St → Prop) (s : St) : Prop := ∃ (I : Nat → St → Prop) (k : Nat) (s0 : St), s.le s0 ∧ I k s0 ∧ ∀ k s, I k s → B (fun s' => ∃ k' s'', k' < k ∧ s'.le s'' ∧ I k' s'') s

theorem cOp_some (d : Option Nat) (v : AV) (H : Heap) (s : St) (K : St → Prop) : cOp d (some (v, H)) s K = K (s.put d v H) := rfl
theorem cGrd_true (d : Option Nat) (one : St → (St → Prop) → Prop) (s : St) (K : St → Prop) : cGrd (.bool true) d one s K = one s K := rfl
theorem cGrd_false (d : Option Nat) (one : St → (St → Prop) → Prop) (s : St) (K : St → Prop) : cGrd (.bool false) d one s K = K (s.put d (.tup []) s.H) := rfl
theorem cGrd_of {b : Bool} {d : Option Nat} {one : St → (St → Prop) → Prop} {s : St} {K : St → Prop} (h1 : b = true → one s K) (h2 : b = false → K (s.put d (.tup []) s.H)) : cGrd (.bool b) d one s K := by
  cases b
  · exact h2 rfl
  · exact h1 rfl
theorem cGrd_dec {p : Prop} [Decidable p] {d : Option Nat} {one : St → (St → Prop) → Prop} {s : St} {K : St → Prop} (h1 : p → one s K) (h2 : ¬ p → K (s.put d (.tup []) s.H)) : cGrd (.bool (decide p)) d one s K :=
  cGrd_of (fun h => h1 (of_decide_eq_true h)) fun h => h2 (of_decide_eq_false h)

/-! ### States by lists -/
def look : List (Nat × AV) → Nat → AV
  | [], _ => .any
  | (i, v) :: l, j => if i = j then v else look l j
def insT : List (Nat × AV) → Nat → AV → List (Nat × AV)
  | [], j, x => [(j, x)]
  | (i, v) :: l, j, x => if i = j then (j, x) :: l else (i, v) :: insT l j x
def insH : List (Nat × Blk) → Nat → Blk → List (Nat × Blk)
  | [], j, x => [(j, x)]
  | (i, v) :: l, j, x => if i = j then (j, x) :: l else (i, v) :: insH l j x
theorem look_ins : ∀ (l : List (Nat × AV)) (d : Nat) (v : AV) (j : Nat), look (insT l d v) j = if j = d then v else look l j
  | [], d, v, j => by by_cases h : j = d <;> simp [insT, look, h, eq_comm]; intro e; exact (h e.symm).elim
  | (i, x) :: l, d, v, j => by
    unfold insT
    by_cases h : i = d
    · subst h
      by_cases h2 : j = i <;> simp [look, h2]
      simp [look, Ne.symm h2]
    · rw [if_neg h]
      unfold look
      rw [look_ins l d v j]
      by_cases h2 : i = j
      · subst h2; simp [h]
      · simp [h2]
theorem lookB_ins : ∀ (l : List (Nat × Blk)) (d : Nat) (v : Blk) (j : Nat), lookB (insH l d v) j = if j = d then some v else lookB l j
  | [], d, v, j => by by_cases h : j = d <;> simp [insH, lookB, h, eq_comm]; intro e; exact (h e.symm).elim
  | (i, x) :: l, d, v, j => by
    unfold insH
    by_cases h : i = d
    · subst h
      by_cases h2 : j = i <;> simp [lookB, h2]
      simp [lookB, Ne.symm h2]
    · rw [if_neg h]
      unfold lookB
      rw [lookB_ins l d v j]
      by_cases h2 : i = j
      · subst h2; simp [h]
      · simp [h2]
@[simp] theorem upd_look (l : List (Nat × AV)) (d : Nat) (v : AV) : upd (look l) d v = look (insT l d v) := by
  funext j; rw [look_ins]; rfl
@[simp] theorem upd_hls (l : List (Nat × Blk)) (vs : Nat → Nat) (d : Nat) (v : Blk) : upd (hls l vs) d (some v) = hls (insH l d v) vs := by
  funext j
  unfold hls
  rw [lookB_ins]
  unfold upd
  by_cases h : j = d <;> simp [h]
@[simp] theorem put_some (τ : Nat → AV) (H : Heap) (g : G) (d : Nat) (v : AV) (H' : Heap) : St.put ⟨τ, H, g⟩ (some d) v H' = ⟨upd τ d v, H', g⟩ := rfl
@[simp] theorem put_none (τ : Nat → AV) (H : Heap) (g : G) (v : AV) (H' : Heap) : St.put ⟨τ, H, g⟩ none v H' = ⟨τ, H', g⟩ := rfl

/-! ### Less is known, by lists -/
def subT (l : List (Nat × AV)) : List (Nat × AV) → Prop
  | [] => True
  | (i, v) :: r => look l i = v ∧ subT l r
theorem look_of_subT {l l' : List (Nat × AV)} (h : subT l l') (i : Nat) : look l' i = look l i ∨ look l' i = .any := by
  induction l' with
  | nil => exact .inr rfl
  | cons p r ih =>
    obtain ⟨j, v⟩ := p
    have e0 : look ((j, v) :: r) i = if j = i then v else look r i := rfl
    rw [e0]
    by_cases e : j = i
    · rw [if_pos e]; subst e; exact .inl h.1.symm
    · rw [if_neg e]; exact ih h.2
theorem le_of_sub {l l' : List (Nat × AV)} {h h' : List (Nat × Blk)} {VS : Nat → Nat} {g : G} (hT : subT l l') (hH : subA h h') :
    St.le ⟨look l, hls h VS, g⟩ ⟨look l', hls h' (fun k => ver0 (hls h VS) k), g⟩ where
  τ := look_of_subT hT
  H := hls_le hH VS
  g := rfl

/-- A loop: inv, the state (T, Hh: the blocks that are known), a measure; x0 at the start. -/
theorem cLoop_introG {α : Type} {B : (St → Prop) → St → Prop} {l : List (Nat × AV)} {h : List (Nat × Blk)} {VS : Nat → Nat} {g : G} (inv : α → Prop) (μ : α → Nat) (T : α → List (Nat × AV)) (Hh : α → List (Nat × Blk)) (Gg : α → G) (x0 : α)
    (h0 : inv x0) (hT : subT l (T x0)) (hH : subA h (Hh x0)) (hG : g = Gg x0)
    (hb : ∀ (L : St → Prop) (x : α) (vs : Nat → Nat), inv x → (∀ l' h' vs' g' x', inv x' → μ x' < μ x → subT l' (T x') → subA h' (Hh x') → g' = Gg x' → L ⟨look l', hls h' vs', g'⟩) →
      B L ⟨look (T x), hls (Hh x) vs, Gg x⟩) : cLoop B ⟨look l, hls h VS, g⟩ := by
  subst hG
  refine ⟨fun k s => ∃ (x : α) (vs : Nat → Nat), inv x ∧ μ x = k ∧ s = ⟨look (T x), hls (Hh x) vs, Gg x⟩, μ x0, _, le_of_sub hT hH, ⟨x0, _, h0, rfl, rfl⟩, ?_⟩
  rintro k s ⟨x, vs, hi, rfl, rfl⟩
  refine hb _ x vs hi fun l' h' vs' g' x' hi' hlt hT' hH' hG' => ?_
  subst hG'
  exact ⟨_, _, hlt, le_of_sub hT' hH', x', _, hi', rfl, rfl⟩
theorem cLoop_intro {α : Type} {B : (St → Prop) → St → Prop} {l : List (Nat × AV)} {h : List (Nat × Blk)} {VS : Nat → Nat} {g : G} (inv : α → Prop) (μ : α → Nat) (T : α → List (Nat × AV)) (Hh : α → List (Nat × Blk)) (x0 : α)
    (h0 : inv x0) (hT : subT l (T x0)) (hH : subA h (Hh x0))
    (hb : ∀ (L : St → Prop) (x : α) (vs : Nat → Nat), inv x → (∀ l' h' vs' x', inv x' → μ x' < μ x → subT l' (T x') → subA h' (Hh x') → L ⟨look l', hls h' vs', g⟩) →
      B L ⟨look (T x), hls (Hh x) vs, g⟩) : cLoop B ⟨look l, hls h VS, g⟩ :=
  cLoop_introG inv μ T Hh (fun _ => g) x0 h0 hT hH rfl fun L x vs hi hL => hb L x vs hi fun l' h' vs' x' hi' hlt hT' hH' => hL l' h' vs' g x' hi' hlt hT' hH' rfl

def argT : Nat → List AV → List (Nat × AV)
  | _, [] => []
  | i, a :: l => (i, a) :: argT (i + 1) l
theorem look_argT : ∀ (l : List AV) (i j : Nat), look (argT i l) j = if i ≤ j then (l[j - i]?).getD .any else .any
  | [], i, j => by simp [argT, look]
  | a :: l, i, j => by
    show (if i = j then a else look (argT (i + 1) l) j) = _
    rw [look_argT l (i + 1) j]
    by_cases e : i = j
    · subst e; simp
    · by_cases h : i ≤ j
      · have h1 : i + 1 ≤ j := by omega
        have h2 : j - i = (j - (i + 1)) + 1 := by omega
        simp [e, h, h1, h2]
      · have h1 : ¬ i + 1 ≤ j := by omega
        simp [e, h, h1]
theorem le_argsT (args : List AV) (i : Nat) : look (argT 0 args) i = argτ args i ∨ look (argT 0 args) i = .any := by
  rw [look_argT]
  simp only [Nat.zero_le, if_true, Nat.sub_zero, argτ]
  cases h : args[i]? with
  | none => exact .inr rfl
  | some a => left; rw [List.getD_eq_getElem?_getD, h]; rfl
theorem le_args (args : List AV) (vs : Nat → Nat) : St.le ⟨argτ args, fun _ => none, noG⟩ ⟨look (argT 0 args), hls [] vs, noG⟩ where
  τ := le_argsT args
  H := fun k => .inr ⟨vs k, rfl, fun b hb => by cases hb⟩
  g := rfl
/-- A contract out of the surface. -/
theorem Spec.of_W {P : Program} {f : FuncId} {fn : Func} {args : List AV} {r : AV} {W : Program → (Exit → St → Prop) → St → Prop} {rs : List ResultVar} {n : Nat} (hf : P.funcs[f]? = some fn) (hb : fn.body.isSome = true) (hname : (fn.name == "runtime.NumGoroutine") = false)
    (hok : codeOk fn.ntmps (fn.body.getD .skip) = true) (hn : fn.ntmps = n) (hW : ∀ Φ s, awp P (fn.body.getD .skip) Φ s = W P Φ s) (hrs : fn.results.toList = rs)
    (hlen : args.length ≤ n) (h : ∀ vs, W P (retK P rs r) ⟨look (argT 0 args), hls [] vs, noG⟩) : Spec P f args r := by
  obtain ⟨c, hc⟩ := Option.isSome_iff_exists.1 hb
  have h := h fun _ => 0
  rw [← hW] at h
  rw [hc] at hok h
  subst hrs
  exact Spec.of_awp (le_args args _) hf hc hname hok (by rw [hn]; exact hlen) h
theorem RowSpec.of_W {P : Program} {f : FuncId} {fn : Func} {args : List AV} {t : TypeId} {sz : Nat} {rows : List (List AV)} {W : Program → (Exit → St → Prop) → St → Prop} {rs : List ResultVar} {n : Nat} (hf : P.funcs[f]? = some fn) (hb : fn.body.isSome = true) (hname : (fn.name == "runtime.NumGoroutine") = false)
    (hok : codeOk fn.ntmps (fn.body.getD .skip) = true) (hn : fn.ntmps = n) (hW : ∀ Φ s, awp P (fn.body.getD .skip) Φ s = W P Φ s) (hrs : fn.results.toList = rs)
    (hlen : args.length ≤ n) (hflat : (rows.all fun r => r.all flat0) = true) (h : ∀ vs, W P (retRK P rs t sz rows) ⟨look (argT 0 args), hls [] vs, noG⟩) : RowSpec P f args t sz rows := by
  obtain ⟨c, hc⟩ := Option.isSome_iff_exists.1 hb
  have h := h fun _ => 0
  rw [← hW] at h
  rw [hc] at hok h
  subst hrs
  exact RowSpec.of_awp hflat (le_args args _) hf hc hname hok (by rw [hn]; exact hlen) h
theorem HSpecL.of_W {P : Program} {f : FuncId} {fn : Func} {args : List AV} {l : List (Nat × Blk)} {Q : AV → List (Nat × Blk) → Prop} {W : Program → (Exit → St → Prop) → St → Prop} {rs : List ResultVar} {n : Nat} (hf : P.funcs[f]? = some fn) (hb : fn.body.isSome = true) (hname : (fn.name == "runtime.NumGoroutine") = false)
    (hok : codeOk fn.ntmps (fn.body.getD .skip) = true) (hn : fn.ntmps = n) (hW : ∀ Φ s, awp P (fn.body.getD .skip) Φ s = W P Φ s) (hrs : fn.results.toList = rs)
    (hlen : args.length ≤ n) (h : ∀ vs, W P (retHK P rs Q) ⟨look (argT 0 args), hls l vs, noG⟩) : HSpecL P f args l Q := by
  obtain ⟨c, hc⟩ := Option.isSome_iff_exists.1 hb
  rw [hc] at hok
  subst hrs
  refine HSpecL.of_awp hf hc hname hok (by rw [hn]; exact hlen) fun vs => ⟨⟨look (argT 0 args), hls l vs, noG⟩, ⟨le_argsT args, fun _ => .inl rfl, rfl⟩, ?_⟩
  have h := h vs
  rw [← hW, hc] at h
  exact h

/-! ### Ranges over functions -/
@[simp] theorem setP_nil (τ : Nat → AV) : setP τ [] [] = τ := rfl
@[simp] theorem setP_cons (l : List (Nat × AV)) (p : Nat) (ps : List Nat) (x : AV) (xs : List AV) : setP (look l) (p :: ps) (x :: xs) = setP (look (insT l p x)) ps xs := by
  show setP (upd (look l) p x) ps xs = _
  rw [upd_look]
/-- xs: what is yielded; Hh: the blocks that are known behind so many rounds; inv: what holds then. -/
theorem cRange_intro {P : Program} {fid : FuncId} {caps : List AV} {ps : List Nat} {B : (Exit → St → Prop) → St → Prop} {Φ : Exit → St → Prop} {l : List (Nat × AV)} {h : List (Nat × Blk)} {VS : Nat → Nat} {g : G}
    (xs : List (List AV)) (rt rf : AV) (inv : Nat → Prop) (Hh : Nat → List (Nat × Blk)) (hsp : SpecY P fid (.yld :: caps) xs rt rf) (hcl : closedL caps = true) (h0 : inv 0) (hH : subA h (Hh 0))
    (hr : ∀ (i : Nat) (hi : i < xs.length) (vs : Nat → Nat) (Ψ : Exit → St → Prop), inv i → (∀ τ' L vs', inv (i + 1) → subA L (Hh (i + 1)) → Ψ .normal ⟨τ', hls L vs', g⟩) → (∀ τ' H, Φ .ret ⟨look l, H, g⟩ → Ψ .ret ⟨τ', H, g⟩) →
      (∀ id τ' H, Φ (.exit id) ⟨look l, H, g⟩ → Ψ (.exit id) ⟨τ', H, g⟩) → (∀ lb τ' H, Φ (.goto lb) ⟨look l, H, g⟩ → Ψ (.goto lb) ⟨τ', H, g⟩) → xs[i].length = ps.length ∧ B Ψ ⟨setP (look l) ps xs[i], hls (Hh i) vs, g⟩)
    (hend : ∀ vs, inv xs.length → Φ .normal ⟨look l, hls (Hh xs.length) vs, g⟩) : cRange P (.func fid caps) ps B Φ ⟨look l, hls h VS, g⟩ := by
  refine ⟨xs, rt, rf, fun rest H => ∃ i vs, i ≤ xs.length ∧ rest = xs.drop i ∧ inv i ∧ H = hls (Hh i) vs, hls (Hh 0) (fun k => ver0 (hls h VS) k), hcl, hsp, hls_le hH VS, ⟨0, _, Nat.zero_le _, rfl, h0, rfl⟩, ?_, ?_⟩
  · rintro args rest H ⟨i, vs, hi, hrest, hinv, rfl⟩
    have hlt : i < xs.length := by
      by_cases e : i < xs.length
      · exact e
      · rw [List.drop_of_length_le (by omega)] at hrest; cases hrest
    rw [List.drop_eq_getElem_cons hlt] at hrest
    cases hrest
    refine hr i hlt vs _ hinv (fun τ' L vs' hinv' hsub => ⟨rfl, _, hls_le hsub vs', i + 1, _, hlt, rfl, hinv', rfl⟩) (fun τ' H h => ⟨rfl, h⟩) (fun id τ' H h => ⟨rfl, h⟩) (fun lb τ' H h => ⟨rfl, h⟩)
  · rintro H ⟨i, vs, hi, hrest, hinv, rfl⟩
    have e : i = xs.length := by
      have := congrArg List.length hrest
      simp at this
      omega
    subst e
    exact hend vs hinv
/-- The same, with more that is known behind so many rounds: a state. -/
theorem cRange_introA {α : Type} {P : Program} {fid : FuncId} {caps : List AV} {ps : List Nat} {B : (Exit → St → Prop) → St → Prop} {Φ : Exit → St → Prop} {l : List (Nat × AV)} {h : List (Nat × Blk)} {VS : Nat → Nat} {g : G}
    (xs : List (List AV)) (rt rf : AV) (inv : Nat → α → Prop) (Hh : α → List (Nat × Blk)) (a0 : α) (hsp : SpecY P fid (.yld :: caps) xs rt rf) (hcl : closedL caps = true) (h0 : inv 0 a0) (hH : subA h (Hh a0))
    (hr : ∀ (i : Nat) (hi : i < xs.length) (a : α) (vs : Nat → Nat) (Ψ : Exit → St → Prop), inv i a → (∀ τ' L vs' a', inv (i + 1) a' → subA L (Hh a') → Ψ .normal ⟨τ', hls L vs', g⟩) → (∀ τ' H, Φ .ret ⟨look l, H, g⟩ → Ψ .ret ⟨τ', H, g⟩) →
      (∀ id τ' H, Φ (.exit id) ⟨look l, H, g⟩ → Ψ (.exit id) ⟨τ', H, g⟩) → (∀ lb τ' H, Φ (.goto lb) ⟨look l, H, g⟩ → Ψ (.goto lb) ⟨τ', H, g⟩) → xs[i].length = ps.length ∧ B Ψ ⟨setP (look l) ps xs[i], hls (Hh a) vs, g⟩)
    (hend : ∀ vs a, inv xs.length a → Φ .normal ⟨look l, hls (Hh a) vs, g⟩) : cRange P (.func fid caps) ps B Φ ⟨look l, hls h VS, g⟩ := by
  refine ⟨xs, rt, rf, fun rest H => ∃ i vs a, i ≤ xs.length ∧ rest = xs.drop i ∧ inv i a ∧ H = hls (Hh a) vs, hls (Hh a0) (fun k => ver0 (hls h VS) k), hcl, hsp, hls_le hH VS, ⟨0, _, a0, Nat.zero_le _, rfl, h0, rfl⟩, ?_, ?_⟩
  · rintro args rest H ⟨i, vs, a, hi, hrest, hinv, rfl⟩
    have hlt : i < xs.length := by
      by_cases e : i < xs.length
      · exact e
      · rw [List.drop_of_length_le (by omega)] at hrest; cases hrest
    rw [List.drop_eq_getElem_cons hlt] at hrest
    cases hrest
    refine hr i hlt a vs _ hinv (fun τ' L vs' a' hinv' hsub => ⟨rfl, _, hls_le hsub vs', i + 1, _, a', hlt, rfl, hinv', rfl⟩) (fun τ' H h => ⟨rfl, h⟩) (fun id τ' H h => ⟨rfl, h⟩) (fun lb τ' H h => ⟨rfl, h⟩)
  · rintro H ⟨i, vs, a, hi, hrest, hinv, rfl⟩
    have e : i = xs.length := by
      have := congrArg List.length hrest
      simp at this
      omega
    subst e
    exact hend vs a hinv
theorem SpecY.of_W {P : Program} {f : FuncId} {fn : Func} {args : List AV} {xs : List (List AV)} {rt rf : AV} {W : Program → (Exit → St → Prop) → St → Prop} {rs : List ResultVar} {n : Nat} (hf : P.funcs[f]? = some fn) (hb : fn.body.isSome = true) (hname : (fn.name == "runtime.NumGoroutine") = false)
    (hok : codeOk fn.ntmps (fn.body.getD .skip) = true) (hn : fn.ntmps = n) (hW : ∀ Φ s, awp P (fn.body.getD .skip) Φ s = W P Φ s) (hrs : fn.results.toList = rs)
    (hlen : args.length ≤ n) (hft : flat rt = true) (hff : flat rf = true) (h : ∀ vs rest, W P (retYK P rs rt rf rest) ⟨look (argT 0 args), hls [] vs, ⟨xs ++ rest, false⟩⟩) : SpecY P f args xs rt rf := by
  obtain ⟨c, hc⟩ := Option.isSome_iff_exists.1 hb
  rw [hc] at hok
  subst hrs
  refine SpecY.of_awp hft hff hf hc hname hok (by rw [hn]; exact hlen) fun rest => ⟨⟨look (argT 0 args), hls [] (fun _ => 0), ⟨xs ++ rest, false⟩⟩, ⟨le_argsT args, fun k => .inr ⟨0, rfl, fun b hb => by cases hb⟩, rfl⟩, ?_⟩
  have h := h (fun _ => 0) rest
  rw [← hW, hc] at h
  exact h


/-! ### The surface's words: what comes behind lies where simp does not look -/
class Kt (α : Type) where
  v : α
@[simp] theorem kv {α : Type} (x : α) : (Kt.mk x).v = x := rfl
def sChk (b : Bool) [A : Kt Prop] : Prop := b = true ∧ A.v
@[simp] theorem sChk_true (A : Kt Prop) : @sChk true A = A.v := by simp [sChk]
def sOp (d : Option Nat) (r : Stp) (s : St) [K : Kt (St → Prop)] : Prop := cOp d r s K.v
def sCall (P : Program) (f : AV) (args : List AV) (d : Option Nat) (s : St) [K : Kt (St → Prop)] : Prop := cCall P f args d s K.v
def sCall0 (P : Program) (f : AV) (args : List AV) (d : Option Nat) (s : St) [K : Kt (St → Prop)] : Prop := cCall0 P f args d s K.v
def sGrd (g : AV) (d : Option Nat) (s : St) [one : Kt (St → (St → Prop) → Prop)] [K : Kt (St → Prop)] : Prop := cGrd g d one.v s K.v
def sIf (c : AV) [A : Kt Prop] [B : Kt Prop] : Prop := condW c A.v B.v
def sNil (ng : Bool) (x : AV) (d : Option Nat) (s : St) [K : Kt (St → Prop)] : Prop := cNil ng x d s K.v
def sLoop (s : St) [B : Kt ((St → Prop) → St → Prop)] : Prop := cLoop B.v s
def sScope (s : St) [B : Kt ((Nat → St → Prop) → St → Prop)] [R : Kt (List (Nat × ((Nat → St → Prop) → St → Prop)))] : Prop := cScope B.v R.v s
def sRange (P : Program) (f : AV) (ps : List Nat) (s : St) [B : Kt ((Exit → St → Prop) → St → Prop)] [Φ : Kt (Exit → St → Prop)] : Prop := cRange P f ps B.v Φ.v s
section
variable {K : Kt (St → Prop)} {d : Option Nat} {s : St}
@[simp] theorem sOp_some (v : AV) (H : Heap) : @sOp d (some (v, H)) s K = K.v (s.put d v H) := propext ⟨id, id⟩
@[simp] theorem sGrd_true (one : Kt (St → (St → Prop) → Prop)) : @sGrd (.bool true) d s one K = one.v s K.v := propext ⟨id, id⟩
@[simp] theorem sGrd_false (one : Kt (St → (St → Prop) → Prop)) : @sGrd (.bool false) d s one K = K.v (s.put d (.tup []) s.H) := propext ⟨id, id⟩
@[simp] theorem sIf_true (A B : Kt Prop) : @sIf (.bool true) A B = A.v := propext ⟨id, id⟩
@[simp] theorem sIf_false (A B : Kt Prop) : @sIf (.bool false) A B = B.v := propext ⟨id, id⟩
theorem sIf_of {b : Bool} {A B : Kt Prop} (h1 : b = true → A.v) (h2 : b = false → B.v) : @sIf (.bool b) A B := condW_of h1 h2
theorem sIf_dec {p : Prop} [Decidable p] {A B : Kt Prop} (h1 : p → A.v) (h2 : ¬ p → B.v) : @sIf (.bool (decide p)) A B := condW_dec h1 h2
theorem sGrd_of {b : Bool} {one : Kt (St → (St → Prop) → Prop)} (h1 : b = true → one.v s K.v) (h2 : b = false → K.v (s.put d (.tup []) s.H)) : @sGrd (.bool b) d s one K := cGrd_of h1 h2
theorem sGrd_dec {p : Prop} [Decidable p] {one : Kt (St → (St → Prop) → Prop)} (h1 : p → one.v s K.v) (h2 : ¬ p → K.v (s.put d (.tup []) s.H)) : @sGrd (.bool (decide p)) d s one K := cGrd_dec h1 h2
theorem sIf_ndec {p : Prop} [Decidable p] {A B : Kt Prop} (h1 : ¬ p → A.v) (h2 : p → B.v) : @sIf (.bool (!decide p)) A B := sIf_of (fun h => h1 (by simpa using h)) fun h => h2 (by simpa using h)
theorem sGrd_ndec {p : Prop} [Decidable p] {one : Kt (St → (St → Prop) → Prop)} (h1 : ¬ p → one.v s K.v) (h2 : p → K.v (s.put d (.tup []) s.H)) : @sGrd (.bool (!decide p)) d s one K := sGrd_of (fun h => h1 (by simpa using h)) fun h => h2 (by simpa using h)
theorem sIf_not {b : Bool} {A B : Kt Prop} (h1 : b = false → A.v) (h2 : b = true → B.v) : @sIf (.bool (!b)) A B := sIf_of (fun h => h1 (by simpa using h)) fun h => h2 (by simpa using h)
theorem sGrd_not {b : Bool} {one : Kt (St → (St → Prop) → Prop)} (h1 : b = false → one.v s K.v) (h2 : b = true → K.v (s.put d (.tup []) s.H)) : @sGrd (.bool (!b)) d s one K := sGrd_of (fun h => h1 (by simpa using h)) fun h => h2 (by simpa using h)
variable {P : Program} {f : FuncId} {args caps args' : List AV} {r : AV}
theorem scall0_pure (h : Spec P f args' r) (e : (args ++ caps).map (pur (frzs s.H args)) = args') (hc : closedL args' = true) (k : K.v (s.put d r (frzs s.H args))) : @sCall0 P (.func f caps) args d s K := call0_pure h e hc k
theorem scall0_flat (h : Spec P f args' r) (e : (args ++ caps).map (pur (frzs s.H args)) = args') (hc : closedL args' = true) (hf : flat r = true) (k : K.v (s.put d r s.H)) : @sCall0 P (.func f caps) args d s K := call0_flat h e hc hf k
theorem scall_pure (h : Spec P f args' r) (e : (args ++ caps).map (pur (frzs s.H args)) = args') (hc : closedL args' = true) (k : K.v (s.put d r (frzs s.H args))) : @sCall P (.func f caps) args d s K := call_pure h e hc k
theorem scall_flat (h : Spec P f args' r) (e : (args ++ caps).map (pur (frzs s.H args)) = args') (hc : closedL args' = true) (hf : flat r = true) (k : K.v (s.put d r s.H)) : @sCall P (.func f caps) args d s K := call_flat h e hc hf k
theorem scall0_row {k : Nat} {t : TypeId} {sz : Nat} {rows : List (List AV)} (h : RowSpec P f args' t sz rows) (e : (args ++ caps).map (pur (frzs s.H args)) = args') (hc : closedL args' = true)
    (kk : K.v (s.put (some k) (.ref k (nv (frzs s.H args) k) .o) (upd (frzs s.H args) k (some (.row (nv (frzs s.H args) k) t sz rows))))) : @sCall0 P (.func f caps) args (some k) s K := call0_row h e hc kk
theorem scall_row {k : Nat} {t : TypeId} {sz : Nat} {rows : List (List AV)} (h : RowSpec P f args' t sz rows) (e : (args ++ caps).map (pur (frzs s.H args)) = args') (hc : closedL args' = true)
    (kk : K.v (s.put (some k) (.ref k (nv (frzs s.H args) k) .o) (upd (frzs s.H args) k (some (.row (nv (frzs s.H args) k) t sz rows))))) : @sCall P (.func f caps) args (some k) s K := call_row h e hc kk
theorem scall_heap {L : List (Nat × Blk)} {VS : Nat → Nat} {τ : Nat → AV} {g : G} (lent nw : List (Nat × Nat)) {l0 : List (Nat × Blk)} {Q : AV → List (Nat × Blk) → Prop} (h : HSpecL P f args' l0 Q)
    (e : (args ++ caps).map (ren (asc (lent ++ nw))) = args') (el : lentL L (lent ++ nw) lent = l0) (hok : lendOk L lent nw (args ++ caps) = true)
    (k : ∀ r l' VS', Q r l' → retOk (lent ++ nw) r l' = true ∧ K.v ⟨updO τ d (ren (csa (lent ++ nw)) r), hls (dropK ((lent ++ nw).map (·.1)) L ++ backL (lent ++ nw) l') VS', g⟩) :
    @sCall P (.func f caps) args d ⟨τ, hls L VS, g⟩ K := call_heap lent nw h e el hok k
theorem scall_ylds {xs : List (List AV)} {rt rf : AV} (rest : List (List AV)) (h : SpecY P f args' xs rt rf) (e : (args ++ caps).map (pur (frzs s.H args)) = args') (hg : s.g = ⟨xs ++ rest, false⟩) (hc : args'.all okY = true)
    (k1 : K.v ⟨updO s.τ d rt, frzs s.H args, ⟨rest, false⟩⟩) (k2 : ∀ t, K.v ⟨updO s.τ d rf, frzs s.H args, ⟨t, true⟩⟩) : @sCall P (.func f caps) args d s K := call_ylds rest h e hg hc k1 k2
theorem scall_yield {args : List AV} (rest : List (List AV)) (e : args.map (pur (frzs s.H args)) = args') (hg : s.g = ⟨args' :: rest, false⟩) (hc : closedL args' = true) (k : ∀ b : Bool, K.v ⟨updO s.τ d (.bool b), frzs s.H args, ⟨rest, !b⟩⟩) : @sCall P .yld args d s K := call_yield rest e hg hc k
theorem sScope_straight {B : Kt ((Nat → St → Prop) → St → Prop)} {R : Kt (List (Nat × ((Nat → St → Prop) → St → Prop)))} (h : ∀ J, B.v J s) : @sScope s B R := cScope_straight h
end
theorem sLoop_introG {α : Type} {B : Kt ((St → Prop) → St → Prop)} {l : List (Nat × AV)} {h : List (Nat × Blk)} {VS : Nat → Nat} {g : G} (inv : α → Prop) (μ : α → Nat) (T : α → List (Nat × AV)) (Hh : α → List (Nat × Blk)) (Gg : α → G) (x0 : α)
    (h0 : inv x0) (hT : subT l (T x0)) (hH : subA h (Hh x0)) (hG : g = Gg x0)
    (hb : ∀ (L : St → Prop) (x : α) (vs : Nat → Nat), inv x → (∀ l' h' vs' g' x', inv x' → μ x' < μ x → subT l' (T x') → subA h' (Hh x') → g' = Gg x' → L ⟨look l', hls h' vs', g'⟩) →
      B.v L ⟨look (T x), hls (Hh x) vs, Gg x⟩) : @sLoop ⟨look l, hls h VS, g⟩ B := cLoop_introG inv μ T Hh Gg x0 h0 hT hH hG hb
theorem sLoop_intro {α : Type} {B : Kt ((St → Prop) → St → Prop)} {l : List (Nat × AV)} {h : List (Nat × Blk)} {VS : Nat → Nat} {g : G} (inv : α → Prop) (μ : α → Nat) (T : α → List (Nat × AV)) (Hh : α → List (Nat × Blk)) (x0 : α)
    (h0 : inv x0) (hT : subT l (T x0)) (hH : subA h (Hh x0))
    (hb : ∀ (L : St → Prop) (x : α) (vs : Nat → Nat), inv x → (∀ l' h' vs' x', inv x' → μ x' < μ x → subT l' (T x') → subA h' (Hh x') → L ⟨look l', hls h' vs', g⟩) →
      B.v L ⟨look (T x), hls (Hh x) vs, g⟩) : @sLoop ⟨look l, hls h VS, g⟩ B := cLoop_intro inv μ T Hh x0 h0 hT hH hb
theorem sRange_intro {P : Program} {fid : FuncId} {caps : List AV} {ps : List Nat} {B : Kt ((Exit → St → Prop) → St → Prop)} {Φ : Kt (Exit → St → Prop)} {l : List (Nat × AV)} {h : List (Nat × Blk)} {VS : Nat → Nat} {g : G}
    (xs : List (List AV)) (rt rf : AV) (inv : Nat → Prop) (Hh : Nat → List (Nat × Blk)) (hsp : SpecY P fid (.yld :: caps) xs rt rf) (hcl : closedL caps = true) (h0 : inv 0) (hH : subA h (Hh 0))
    (hr : ∀ (i : Nat) (hi : i < xs.length) (vs : Nat → Nat) (Ψ : Exit → St → Prop), inv i → (∀ τ' L vs', inv (i + 1) → subA L (Hh (i + 1)) → Ψ .normal ⟨τ', hls L vs', g⟩) → (∀ τ' H, Φ.v .ret ⟨look l, H, g⟩ → Ψ .ret ⟨τ', H, g⟩) →
      (∀ id τ' H, Φ.v (.exit id) ⟨look l, H, g⟩ → Ψ (.exit id) ⟨τ', H, g⟩) → (∀ lb τ' H, Φ.v (.goto lb) ⟨look l, H, g⟩ → Ψ (.goto lb) ⟨τ', H, g⟩) → xs[i].length = ps.length ∧ B.v Ψ ⟨setP (look l) ps xs[i], hls (Hh i) vs, g⟩)
    (hend : ∀ vs, inv xs.length → Φ.v .normal ⟨look l, hls (Hh xs.length) vs, g⟩) : @sRange P (.func fid caps) ps ⟨look l, hls h VS, g⟩ B Φ := cRange_intro xs rt rf inv Hh hsp hcl h0 hH hr hend
theorem sRange_introA {α : Type} {P : Program} {fid : FuncId} {caps : List AV} {ps : List Nat} {B : Kt ((Exit → St → Prop) → St → Prop)} {Φ : Kt (Exit → St → Prop)} {l : List (Nat × AV)} {h : List (Nat × Blk)} {VS : Nat → Nat} {g : G}
    (xs : List (List AV)) (rt rf : AV) (inv : Nat → α → Prop) (Hh : α → List (Nat × Blk)) (a0 : α) (hsp : SpecY P fid (.yld :: caps) xs rt rf) (hcl : closedL caps = true) (h0 : inv 0 a0) (hH : subA h (Hh a0))
    (hr : ∀ (i : Nat) (hi : i < xs.length) (a : α) (vs : Nat → Nat) (Ψ : Exit → St → Prop), inv i a → (∀ τ' L vs' a', inv (i + 1) a' → subA L (Hh a') → Ψ .normal ⟨τ', hls L vs', g⟩) → (∀ τ' H, Φ.v .ret ⟨look l, H, g⟩ → Ψ .ret ⟨τ', H, g⟩) →
      (∀ id τ' H, Φ.v (.exit id) ⟨look l, H, g⟩ → Ψ (.exit id) ⟨τ', H, g⟩) → (∀ lb τ' H, Φ.v (.goto lb) ⟨look l, H, g⟩ → Ψ (.goto lb) ⟨τ', H, g⟩) → xs[i].length = ps.length ∧ B.v Ψ ⟨setP (look l) ps xs[i], hls (Hh a) vs, g⟩)
    (hend : ∀ vs a, inv xs.length a → Φ.v .normal ⟨look l, hls (Hh a) vs, g⟩) : @sRange P (.func fid caps) ps ⟨look l, hls h VS, g⟩ B Φ := cRange_introA xs rt rf inv Hh a0 hsp hcl h0 hH hr hend

end Go.Am
