import Derived.Test.YtahchfkmpcfefaaGA6
set_option linter.unusedVariables false
set_option linter.unusedSimpArgs false
namespace Go.Am
open Go.RowKit
section
variable (H : Heap) (k ver off n : Nat) (ag : Bool)
@[simp] theorem cells_agg (cs:List AV):AV.cells (.agg cs) = cs:=rfl
@[simp] theorem cells_int (k:IntKind) (i:Int):AV.cells (.int k i) = [.int k i]:=rfl
@[simp] theorem cells_bool (b:Bool):AV.cells (.bool b) = [.bool b]:=rfl
@[simp] theorem cells_str (b:ByteArray):AV.cells (.str b) = [.str b]:=rfl
@[simp] theorem cells_sl (r:List (List AV)):AV.cells (.sl r) = [.sl r]:=rfl
@[simp] theorem cells_slt (r:List (List AV)):AV.cells (.slt r) = [.slt r]:=rfl
@[simp] theorem cells_nils:AV.cells .nils = [.nils]:=rfl
@[simp] theorem cells_nilf:AV.cells .nilf = [.nilf]:=rfl
@[simp] theorem cells_nilp:AV.cells .nilp = [.nilp]:=rfl
@[simp] theorem cells_yld:AV.cells .yld = [.yld]:=rfl
@[simp] theorem cells_ref (r:RefK):AV.cells (.ref k ver r) = [.ref k ver r]:=rfl
@[simp] theorem cells_elt (r:List AV):AV.cells (.elt r off) = [.elt r off]:=rfl
@[simp] theorem cells_func (f:FuncId) (c:List AV):AV.cells (.func f c) = [.func f c]:=rfl
@[simp] theorem cell_int (k:IntKind) (i:Int):AV.cell (.int k i) = true:=rfl
@[simp] theorem cell_bool (b:Bool):AV.cell (.bool b) = true:=rfl
@[simp] theorem cell_str (b:ByteArray):AV.cell (.str b) = true:=rfl
@[simp] theorem cell_sl (r:List (List AV)):AV.cell (.sl r) = true:=rfl
@[simp] theorem cell_slt (r:List (List AV)):AV.cell (.slt r) = true:=rfl
@[simp] theorem cell_nils:AV.cell .nils = true:=rfl
@[simp] theorem cell_nilf:AV.cell .nilf = true:=rfl
@[simp] theorem cell_nilp:AV.cell .nilp = true:=rfl
@[simp] theorem cell_yld:AV.cell .yld = true:=rfl
@[simp] theorem cell_ref (r:RefK):AV.cell (.ref k ver r) = true:=rfl
@[simp] theorem cell_elt (r:List AV):AV.cell (.elt r off) = true:=rfl
@[simp] theorem cell_func (f:FuncId) (c:List AV):AV.cell (.func f c) = true:=rfl
def rdB (ver off n:Nat) (ag:Bool):Option Blk → Option AV
 | some (.box v _ cells)=>if v = ver then readA cells off n ag else none
 | some (.fbox v cells)=>if v = ver then readA cells off n ag else none
 | _=>none
def rdE (ver i off n:Nat) (ag:Bool):Option Blk → Option AV
 | some (.row v _ _ rows)=>if v = ver then (rows[i]?).bind fun r=>readA r off n ag else none
 | _=>none
def adB (k ver off n:Nat):Option Blk → Option AV
 | some (.box v _ _)=>if v = ver then some (.ref k ver (.p (off + n))) else none
 | some (.fbox v _)=>if v = ver then some (.ref k ver (.p (off + n))) else none
 | _=>none
def adE (k ver i off n:Nat):Option Blk → Option AV
 | some (.row v _ _ rows)=>if v = ver ∧ i < rows.length then some (.ref k ver (.e i (off + n))) else none
 | _=>none
def wrB (H:Heap) (k ver off n:Nat) (x:List AV):Option Blk → Option Heap
 | some (.box v t cells)=>if v = ver ∧ okCells x = true ∧ x.length = n ∧ off + n ≤ cells.length then some (upd H k (some (.box v t (setL cells off x)))) else none
 | _=>none
def ixB (k ver n:Nat) (i:Int):Option Blk → Option AV
 | some (.row v _ sz rows)=>if v = ver ∧ sz = n ∧ 0 ≤ i ∧ i < rows.length then some (.ref k ver (.e i.toNat 0)) else none
 | some (.froz v rows)=>if v = ver then ixRows rows i n else none
 | _=>none
def lenB (ver:Nat):Option Blk → Option Nat
 | some (.row v _ _ rows)=>if v = ver then some rows.length else none
 | some (.froz v rows)=>if v = ver then some rows.length else none
 | _=>none
def rowsB (ver:Nat):Option Blk → Option (List (List AV))
 | some (.froz v rows)=>if v = ver then some rows else none
 | _=>none
def srcB (ver n:Nat):Option Blk → Option (List (List AV))
 | some (.row v _ sz rows)=>if v = ver ∧ sz = n then some rows else none
 | some (.froz v rows)=>if v = ver ∧ (rows.all fun r=>r.length == n && okCells r) = true then some rows else none
 | _=>none
def appB (H:Heap) (e n b k ver:Nat) (new:List (List AV)):Option Blk → Option (AV × Heap)
 | some (.row v t sz rows)=>oif (decide (v = ver ∧ t = e ∧ sz = n ∧ (rows.length + new.length) * b ≤ 140737488355328)) (some (.ref k (nv H k) .o,upd H k (some (.row (nv H k) e n (rows ++ new)))))
 | _=>none
def f0B (H:Heap) (k ver:Nat):Option Blk → Heap
 | some (.row v _ _ rows)=>if v = ver then upd H k (some (.froz v rows)) else H
 | _=>H
def fbB (H:Heap) (k ver:Nat):Option Blk → Heap
 | some (.box v _ cells)=>if v = ver then upd H k (some (.fbox v cells)) else H
 | _=>H
def p0o (k ver:Nat):Option Blk → AV
 | some (.froz v rows)=>if v = ver then .sl rows else .any
 | _=>.ref k ver .o
def p0p (k ver off:Nat):Option Blk → AV
 | some (.fbox v cells)=>if v = ver then .elt cells off else .any
 | _=>.ref k ver (.p off)
section
variable (v : Nat) (t : TypeId) (cells : List AV) (rows : List (List AV)) (sz : Nat) (i : Nat) (z : Int)
@[simp] theorem rdB_box:rdB ver off n ag (some (.box v t cells)) = if v = ver then readA cells off n ag else none:=rfl
@[simp] theorem rdB_fbox:rdB ver off n ag (some (.fbox v cells)) = if v = ver then readA cells off n ag else none:=rfl
@[simp] theorem rdE_row:rdE ver i off n ag (some (.row v t sz rows)) = if v = ver then (rows[i]?).bind fun r=>readA r off n ag else none:=rfl
@[simp] theorem adB_box:adB k ver off n (some (.box v t cells)) = if v = ver then some (.ref k ver (.p (off + n))) else none:=rfl
@[simp] theorem adB_fbox:adB k ver off n (some (.fbox v cells)) = if v = ver then some (.ref k ver (.p (off + n))) else none:=rfl
@[simp] theorem adE_row:adE k ver i off n (some (.row v t sz rows)) = if v = ver ∧ i < rows.length then some (.ref k ver (.e i (off + n))) else none:=rfl
@[simp] theorem wrB_box (x:List AV):wrB H k ver off n x (some (.box v t cells)) = if v = ver ∧ okCells x = true ∧ x.length = n ∧ off + n ≤ cells.length then some (upd H k (some (.box v t (setL cells off x)))) else none:=rfl
@[simp] theorem ixB_row:ixB k ver n z (some (.row v t sz rows)) = if v = ver ∧ sz = n ∧ 0 ≤ z ∧ z < rows.length then some (.ref k ver (.e z.toNat 0)) else none:=rfl
@[simp] theorem ixB_froz:ixB k ver n z (some (.froz v rows)) = if v = ver then ixRows rows z n else none:=rfl
@[simp] theorem lenB_row:lenB ver (some (.row v t sz rows)) = if v = ver then some rows.length else none:=rfl
@[simp] theorem lenB_froz:lenB ver (some (.froz v rows)) = if v = ver then some rows.length else none:=rfl
@[simp] theorem rowsB_froz:rowsB ver (some (.froz v rows)) = if v = ver then some rows else none:=rfl
@[simp] theorem srcB_row:srcB ver n (some (.row v t sz rows)) = if v = ver ∧ sz = n then some rows else none:=rfl
@[simp] theorem srcB_froz:srcB ver n (some (.froz v rows)) = if v = ver ∧ (rows.all fun r=>r.length == n && okCells r) = true then some rows else none:=rfl
@[simp] theorem appB_row (e b:Nat) (new:List (List AV)):appB H e n b k ver new (some (.row v t sz rows)) = oif (decide (v = ver ∧ t = e ∧ sz = n ∧ (rows.length + new.length) * b ≤ 140737488355328)) (some (.ref k (nv H k) .o,upd H k (some (.row (nv H k) e n (rows ++ new))))):=rfl
@[simp] theorem f0B_none:f0B H k ver none = H:=rfl
@[simp] theorem f0B_row:f0B H k ver (some (.row v t sz rows)) = if v = ver then upd H k (some (.froz v rows)) else H:=rfl
@[simp] theorem f0B_box:f0B H k ver (some (.box v t cells)) = H:=rfl
@[simp] theorem f0B_froz:f0B H k ver (some (.froz v rows)) = H:=rfl
@[simp] theorem f0B_fbox:f0B H k ver (some (.fbox v cells)) = H:=rfl
@[simp] theorem f0B_dead:f0B H k ver (some (.dead v)) = H:=rfl
@[simp] theorem fbB_none:fbB H k ver none = H:=rfl
@[simp] theorem fbB_box:fbB H k ver (some (.box v t cells)) = if v = ver then upd H k (some (.fbox v cells)) else H:=rfl
@[simp] theorem fbB_row:fbB H k ver (some (.row v t sz rows)) = H:=rfl
@[simp] theorem fbB_froz:fbB H k ver (some (.froz v rows)) = H:=rfl
@[simp] theorem fbB_fbox:fbB H k ver (some (.fbox v cells)) = H:=rfl
@[simp] theorem fbB_dead:fbB H k ver (some (.dead v)) = H:=rfl
@[simp] theorem p0o_froz:p0o k ver (some (.froz v rows)) = if v = ver then .sl rows else .any:=rfl
@[simp] theorem p0p_fbox:p0p k ver off (some (.fbox v cells)) = if v = ver then .elt cells off else .any:=rfl
end
@[simp] theorem xMov_eq (v:AV):xMov v H = some (v,H):=rfl
@[simp] theorem xPick_true (x y:AV):xPick (.bool true) x y H = some (x,H):=rfl
@[simp] theorem xPick_false (x y:AV):xPick (.bool false) x y H = some (y,H):=rfl
@[simp] theorem xPick_or (c y:Bool):xPick (.bool c) (.bool true) (.bool y) H = some (.bool (c || y),H):=by cases c <;> rfl
@[simp] theorem xPick_and (c x:Bool):xPick (.bool c) (.bool x) (.bool false) H = some (.bool (c && x),H):=by cases c <;> rfl
@[simp] theorem xAlloc_eq (d:Nat) (e:TypeId) (z:List AV):xAlloc d e z H = some (.ref d (nv H d) (.p 0),upd H d (some (.box (nv H d) e z))):=rfl
@[simp] theorem xBox_eq (d:Nat) (e:TypeId) (v:AV):xBox d e v H = oif (okCells v.cells) (some (.ref d (nv H d) (.p 0),upd H d (some (.box (nv H d) e v.cells)))):=rfl
@[simp] theorem xBuild_eq (z:List AV) (p:List (Nat × Nat × AV)):xBuild z p H = ob (fillP z p) fun cells=>some (.agg cells,H):=rfl
@[simp] theorem fillP_nil (z:List AV):fillP z [] = some z:=rfl
@[simp] theorem fillP_cons (z:List AV) (o:Nat) (x:AV) (r:List (Nat × Nat × AV)):fillP z ((o,n,x) :: r) = if okCells x.cells = true ∧ x.cells.length = n ∧ o + n ≤ z.length then fillP (setL z o x.cells) r else none:=rfl
@[simp] theorem fillR_nil (z:List (List AV)):fillR n z [] = some z:=by cases z <;> rfl
@[simp] theorem fillR_cons (z:List (List AV)) (i:Nat) (x:AV) (r:List (Nat × AV)):fillR n z ((i,x) :: r) = if okCells x.cells = true ∧ x.cells.length = n ∧ i < z.length then fillR n (z.set i x.cells) r else none:=by cases z <;> rfl
@[simp] theorem xLit_eq (len:Nat) (z:List AV) (ps:List (Nat × AV)):xLit n len z ps H = ob (fillR n (List.replicate len z) (ps.map fun p=>(p.1,pur (frzs H (ps.map fun p=>p.2)) p.2))) fun rows=>some (.slt rows,frzs H (ps.map fun p=>p.2)):=rfl
@[simp] theorem xLitR_eq (len:Nat) (z:List AV) (ps:List (Nat × AV)):xLitR n len z ps H = ob (fillR n (List.replicate len z) ps) fun rows=>some (.slt rows,H):=rfl
@[simp] theorem xRow_eq (d:Nat) (e:TypeId) (len:Nat) (z:List AV) (ps:List (Nat × AV)):xRow d e n len z ps H = ob (fillR n (List.replicate len z) (ps.map fun p=>(p.1,pur (frzs H (ps.map fun p=>p.2)) p.2))) fun rows=>
  some (.ref d (nv (frzs H (ps.map fun p=>p.2)) d) .o,upd (frzs H (ps.map fun p=>p.2)) d (some (.row (nv (frzs H (ps.map fun p=>p.2)) d) e n rows))):=rfl
@[simp] theorem xMks_int (d:Nat) (e:TypeId) (b:Nat) (z:List AV) (kl kc:IntKind) (l c:Int):xMks d e n b z (.int kl l) (.int kc c) H =
  oif (decide (0 ≤ l ∧ l ≤ c ∧ b * c.toNat ≤ 281474976710656 ∧ c.toNat ≤ maxLen)) (some (.ref d (nv H d) .o,upd H d (some (.row (nv H d) e n (List.replicate l.toNat z))))):=rfl
@[simp] theorem xLoad_p:xLoad n ag (.ref k ver (.p off)) H = ob (rdB ver off n ag (H k)) fun v=>some (v,H):=by
 unfold xLoad rdV rdB; rfl
@[simp] theorem xLoad_e (i:Nat):xLoad n ag (.ref k ver (.e i off)) H = ob (rdE ver i off n ag (H k)) fun v=>some (v,H):=by
 unfold xLoad rdV rdE; rfl
@[simp] theorem xLoad_elt (row:List AV):xLoad n ag (.elt row off) H = ob (readA row off n ag) fun v=>some (v,H):=rfl
@[simp] theorem rdV_p:rdV H n ag (.ref k ver (.p off)) = rdB ver off n ag (H k):=by unfold rdV rdB; rfl
@[simp] theorem rdV_elt (row:List AV):rdV H n ag (.elt row off) = readA row off n ag:=rfl
@[simp] theorem xStore_p (y:AV):xStore n (.ref k ver (.p off)) y H = ob (wrB H k ver off n y.cells (H k)) fun H'=>some (.tup [],H'):=by
 unfold xStore wrV wrB; rfl
@[simp] theorem xFld_p:xFld n (.ref k ver (.p off)) H = ob (adB k ver off n (H k)) fun v=>some (v,H):=by unfold xFld addA adB; rfl
@[simp] theorem xFld_e (i:Nat):xFld n (.ref k ver (.e i off)) H = ob (adE k ver i off n (H k)) fun v=>some (v,H):=by unfold xFld addA adE; rfl
@[simp] theorem xFld_elt (row:List AV):xFld n (.elt row off) H = some (.elt row (off + n),H):=rfl
@[simp] theorem xIx_sl (rows:List (List AV)) (q:IntKind) (i:Int):xIx n (.sl rows) (.int q i) H = ob (ixRows rows i n) fun v=>some (v,H):=rfl
@[simp] theorem xIx_slt (rows:List (List AV)) (q:IntKind) (i:Int):xIx n (.slt rows) (.int q i) H = ob (ixRows rows i n) fun v=>some (v,H):=rfl
@[simp] theorem xIx_ref (q:IntKind) (i:Int):xIx n (.ref k ver .o) (.int q i) H = ob (ixB k ver n i (H k)) fun v=>some (v,H):=by unfold xIx intV ob ixA ixB; rfl
@[simp] theorem xIxA_p (len:Nat) (q:IntKind) (i:Int):xIxA len n (.ref k ver (.p off)) (.int q i) H = oif (decide (0 ≤ i ∧ i < len)) (ob (adB k ver off (i.toNat * n) (H k)) fun v=>some (v,H)):=by unfold xIxA intV addA adB; rfl
@[simp] theorem xIxA_elt (len:Nat) (row:List AV) (q:IntKind) (i:Int):xIxA len n (.elt row off) (.int q i) H = oif (decide (0 ≤ i ∧ i < len)) (some (.elt row (off + i.toNat * n),H)):=rfl
@[simp] theorem ixRows_nat (rows:List (List AV)) (i:Nat):ixRows rows (i:Int) n = (rows[i]?).bind fun r=>if r.length = n then some (.elt r 0) else none:=by
 unfold ixRows
 simp only [Int.natCast_nonneg,if_true,Int.toNat_natCast]
 cases rows[i]? <;> rfl
@[simp] theorem xField_agg (cs:List AV):xField off n ag (.agg cs) H = ob (readA cs off n ag) fun v=>some (v,H):=rfl
@[simp] theorem xExt_tup (vs:List AV) (i:Nat):xExt (.tup vs) i H = ob (vs[i]?) fun v=>some (v,H):=rfl
@[simp] theorem xMkf_eq (f:FuncId) (c:List AV):xMkf f c H = some (.func f c,H):=rfl
@[simp] theorem xNil_func (f:FuncId) (c:List AV):xNil (.func f c) H = some (.func f c,H):=rfl
@[simp] theorem xNil_elt (row:List AV):xNil (.elt row off) H = some (.elt row off,H):=rfl
@[simp] theorem xConv_int (q q':IntKind) (i:Int):xConv q (.int q' i) H = some (.int q (q.wrap i),H):=rfl
@[simp] theorem xLen_sl (rows:List (List AV)):xLen (.sl rows) H = some (.int .i64 rows.length,H):=rfl
@[simp] theorem xLen_slt (rows:List (List AV)):xLen (.slt rows) H = some (.int .i64 rows.length,H):=rfl
@[simp] theorem xLen_nils:xLen .nils H = some (.int .i64 0,H):=rfl
@[simp] theorem xLen_ref:xLen (.ref k ver .o) H = ob (lenB ver (H k)) fun (n:Nat)=>some (.int .i64 n,H):=by
 unfold xLen lenV lenA lenB
 dsimp only
 generalize H k = b
 cases b with
 | none=>rfl
 | some b=>
  cases b with
  | row v t sz rows=>by_cases h:v = ver <;> simp [h]
  | froz v rows=>by_cases h:v = ver <;> simp [h]
  | _=>rfl
@[simp] theorem xSlen_str (b:ByteArray):xSlen (.str b) H = some (.int .i64 b.size,H):=rfl
@[simp] theorem xMin_int (q q':IntKind) (a b:Int):xMin (.int q a) (.int q' b) H = some (.int q (if b < a then b else a),H):=rfl
@[simp] theorem xNot_bool (b:Bool):xNot (.bool b) H = some (.bool (!b),H):=rfl
@[simp] theorem guardOf_bool (b w:Bool):guardOf (.bool b) w = .bool (b == w):=rfl
@[simp] theorem guardOf_tup (w:Bool):guardOf (.tup []) w = .bool false:=rfl
@[simp] theorem ixO_none:ixO none = some none:=rfl
@[simp] theorem ixO_int (q:IntKind) (i:Int):ixO (some (.int q i)) = some (some (q,i)):=rfl
@[simp] theorem xSlc_sl (rows:List (List AV)) (lo hi:Option AV):xSlc n (.sl rows) lo hi H = ob (ixO lo) fun l=>ob (ixO hi) fun h=>ob (slcV n rows l h) fun v=>some (v,H):=rfl
@[simp] theorem xSlc_slt (rows:List (List AV)) (lo hi:Option AV):xSlc n (.slt rows) lo hi H = ob (ixO lo) fun l=>ob (ixO hi) fun h=>ob (slcV n rows l h) fun v=>some (v,H):=rfl
@[simp] theorem xSlc_nils (lo hi:Option AV):xSlc n .nils lo hi H = ob (ixO lo) fun l=>ob (ixO hi) fun h=>ob (slcV n [] l h) fun v=>some (v,H):=rfl
@[simp 10] theorem readA_one (cells:List AV):readA cells off n false = cells[off]?:=rfl
@[simp 10] theorem readA_agg (cells:List AV):readA cells off n true = if off + n ≤ cells.length then some (.agg ((cells.drop off).take n)) else none:=rfl
section
variable (ib : Bool) (a b : Int) (q : IntKind)
@[simp] theorem xBin_add:xBin .add ib (.int q a) (.int q b) H = some (.int q (q.wrap (a + b)),H):=by simp [xBin,binV]
@[simp] theorem xBin_sub:xBin .sub ib (.int q a) (.int q b) H = some (.int q (q.wrap (a - b)),H):=by simp [xBin,binV]
@[simp] theorem xBin_mul:xBin .mul ib (.int q a) (.int q b) H = some (.int q (q.wrap (a * b)),H):=by simp [xBin,binV]
@[simp] theorem xBin_quo:xBin .quo ib (.int q a) (.int q b) H = if b ≠ 0 then some (.int q (q.wrap (a.tdiv b)),H) else none:=by by_cases h:b = 0 <;> simp [xBin,binV,h]
@[simp] theorem xBin_rem:xBin .rem ib (.int q a) (.int q b) H = if b ≠ 0 then some (.int q (a.tmod b),H) else none:=by by_cases h:b = 0 <;> simp [xBin,binV,h]
@[simp] theorem xBin_shl (q':IntKind):xBin .shl ib (.int q a) (.int q' b) H = if b < 0 then none else some (.int q (q.wrap (a * 2 ^ min b.toNat q.bits)),H):=by by_cases h:b < 0 <;> simp [xBin,binV,h]
@[simp] theorem xBin_shr (q':IntKind):xBin .shr ib (.int q a) (.int q' b) H = if b < 0 then none else some (.int q (a.fdiv (2 ^ min b.toNat q.bits)),H):=by by_cases h:b < 0 <;> simp [xBin,binV,h]
@[simp] theorem xBin_eql:xBin .eql ib (.int q a) (.int q b) H = some (.bool (decide (a = b)),H):=by simp [xBin,binV]
@[simp] theorem xBin_neq:xBin .neq ib (.int q a) (.int q b) H = some (.bool (!decide (a = b)),H):=by simp [xBin,binV]
@[simp] theorem xBin_lss:xBin .lss ib (.int q a) (.int q b) H = some (.bool (decide (a < b)),H):=by simp [xBin,binV]
@[simp] theorem xBin_leq:xBin .leq ib (.int q a) (.int q b) H = some (.bool (decide (a ≤ b)),H):=by simp [xBin,binV]
@[simp] theorem xBin_gtr:xBin .gtr ib (.int q a) (.int q b) H = some (.bool (decide (b < a)),H):=by simp [xBin,binV]
@[simp] theorem xBin_geq:xBin .geq ib (.int q a) (.int q b) H = some (.bool (decide (b ≤ a)),H):=by simp [xBin,binV]
@[simp] theorem xBin_seql (a b:ByteArray):xBin .eql ib (.str a) (.str b) H = some (.bool (decide (a = b)),H):=by simp [xBin,binV]
@[simp] theorem xBin_sneq (a b:ByteArray):xBin .neq ib (.str a) (.str b) H = some (.bool (!decide (a = b)),H):=by simp [xBin,binV]
@[simp] theorem xBin_sadd (a b:ByteArray):xBin .add ib (.str a) (.str b) H = if a.size + b.size ≤ maxLen then some (.str (a ++ b),H) else none:=by by_cases h:a.size + b.size ≤ maxLen <;> simp [xBin,binV,h]
@[simp] theorem xBin_beql (a b:Bool):xBin .eql true (.bool a) (.bool b) H = some (.bool (a == b),H):=by simp [xBin,binV]
@[simp] theorem xBin_bneq (a b:Bool):xBin .neq true (.bool a) (.bool b) H = some (.bool (!(a == b)),H):=by simp [xBin,binV]
end
@[simp] theorem xEq_agg (ng:Bool) (p:List (Nat × LK)) (x y:List AV):xEq ng p (.agg x) (.agg y) H = ob ((planA x y p).map fun b=>.bool (b != ng)) fun v=>some (v,H):=rfl
@[simp] theorem planA_nil (x y:List AV):planA x y [] = some true:=rfl
@[simp] theorem planA_cons (x y:List AV) (o:Nat) (k:LK) (p:List (Nat × LK)):planA x y ((o,k) :: p) = (x[o]?).bind fun u=>(y[o]?).bind fun v=>(leafA k u v).bind fun b=>(planA x y p).map fun c=>b && c:=rfl
@[simp] theorem leafA_int (q:IntKind) (a b:Int):leafA .int (.int q a) (.int q b) = some (decide (a = b)):=by simp [leafA]
@[simp] theorem leafA_str (a b:ByteArray):leafA .str (.str a) (.str b) = some (decide (a = b)):=rfl
@[simp] theorem leafA_bool (a b:Bool):leafA .bool (.bool a) (.bool b) = some (a == b):=rfl
@[simp] theorem xSix_str (s:ByteArray) (q:IntKind) (i:Int):xSix (.str s) (.int q i) H = ob (sixV (.str s) (.int q i)) fun v=>some (v,H):=rfl
@[simp] theorem xSsl_str (s:ByteArray) (lo hi:Option AV):xSsl (.str s) lo hi H = ob (ixO lo) fun l=>ob (ixO hi) fun h=>ob (sslV s l h) fun v=>some (v,H):=rfl
@[simp] theorem xRng_str (d:Nat) (s:ByteArray):xRng d (.str s) H = some (.ref d (nv H d) (.p 0),upd H d (some (.obj (nv H d) (.siter s 0)))):=rfl
def nxB (H:Heap) (k ver:Nat):Option Blk → Option (AV × Heap)
 | some (.obj v (.siter s pos))=>if v = ver then (if pos < s.size then some (.tup [.bool true,.int .i64 pos,.int .i32 (Utf8.decode s pos).1],upd H k (some (.obj ver (.siter s (pos + (Utf8.decode s pos).2))))) else some (.tup [.bool false],H)) else none
 | _=>none
@[simp] theorem nxB_obj (v:Nat) (s:ByteArray) (pos:Nat):nxB H k ver (some (.obj v (.siter s pos))) = if v = ver then (if pos < s.size then some (.tup [.bool true,.int .i64 pos,.int .i32 (Utf8.decode s pos).1],upd H k (some (.obj ver (.siter s (pos + (Utf8.decode s pos).2))))) else some (.tup [.bool false],H)) else none:=rfl
def mpB (d:KD) (k ver:Nat):Option Blk → Option (Nat × Nat × List (AV × AV))
 | some (.obj v (.mp d' es))=>if v = ver ∧ d' = d then some (k,ver,es) else none
 | _=>none
@[simp] theorem mpAt_ref (d:KD):mpAt H d (.ref k ver .o) = mpB d k ver (H k):=by unfold mpAt mpB; rfl
@[simp] theorem mpB_obj (d d':KD) (v:Nat) (es:List (AV × AV)):mpB d k ver (some (.obj v (.mp d' es))) = if v = ver ∧ d' = d then some (k,ver,es) else none:=rfl
@[simp] theorem xMkm_eq (d:Nat) (kd:KD):xMkm d kd H = some (.ref d (nv H d) .o,upd H d (some (.obj (nv H d) (.mp kd [])))):=rfl
@[simp] theorem xLk_eq (kd:KD) (z:AV) (co:Bool) (x i:AV):xLk kd z co x i H = ob (mpAt H kd x) fun q=>oif (keyA kd i) (some (lkR co z (getM i q.2.2),H)):=by
 unfold xLk lkV
 cases mpAt H kd x with
 | none=>rfl
 | some q=>show ob (if keyA kd i = true then _ else _) _ = oif (keyA kd i) _; cases keyA kd i <;> rfl
@[simp] theorem xMup_eq (kd:KD) (x i y:AV):xMup kd x i y H = ob (mpAt H kd x) fun q=>oif (keyA kd i && scA y) (some (.tup [],upd H q.1 (some (.obj q.2.1 (.mp kd (setM i y q.2.2)))))):=by
 unfold xMup mupV
 cases mpAt H kd x with
 | none=>rfl
 | some q=>show ob (if keyA kd i = true ∧ scA y = true then _ else _) _ = oif _ _; cases keyA kd i <;> cases scA y <;> rfl
@[simp] theorem xMdl_eq (kd:KD) (x i:AV):xMdl kd x i H = ob (mpAt H kd x) fun q=>oif (keyA kd i) (some (.tup [],upd H q.1 (some (.obj q.2.1 (.mp kd (delM i q.2.2)))))):=by
 unfold xMdl mdlV
 cases mpAt H kd x with
 | none=>rfl
 | some q=>show ob (if keyA kd i = true then _ else _) _ = oif (keyA kd i) _; cases keyA kd i <;> rfl
@[simp] theorem xMcl_eq (kd:KD) (x:AV):xMcl kd x H = ob (mpAt H kd x) fun q=>some (.tup [],upd H q.1 (some (.obj q.2.1 (.mp kd [])))):=by
 unfold xMcl mclV
 cases mpAt H kd x <;> rfl
@[simp] theorem keyA_int (n:Int):keyA .i (.int .i64 n) = true:=rfl
@[simp] theorem keyA_str (s:ByteArray):keyA .s (.str s) = true:=rfl
@[simp] theorem scA_agg (cs:List AV):scA (.agg cs) = cs.all sc0A:=rfl
@[simp] theorem scA_int (q:IntKind) (n:Int):scA (.int q n) = true:=rfl
@[simp] theorem scA_str (s:ByteArray):scA (.str s) = true:=rfl
@[simp] theorem scA_bool (b:Bool):scA (.bool b) = true:=rfl
@[simp] theorem sc0A_int (q:IntKind) (n:Int):sc0A (.int q n) = true:=rfl
@[simp] theorem sc0A_str (s:ByteArray):sc0A (.str s) = true:=rfl
@[simp] theorem sc0A_bool (b:Bool):sc0A (.bool b) = true:=rfl
@[simp] theorem lkR_some (z v:AV):lkR true z (some v) = .tup [v,.bool true]:=rfl
@[simp] theorem lkR_none (z:AV):lkR true z none = .tup [z,.bool false]:=rfl
@[simp] theorem lkR_some0 (z v:AV):lkR false z (some v) = v:=rfl
@[simp] theorem lkR_none0 (z:AV):lkR false z none = z:=rfl
@[simp] theorem f0B_obj (v:Nat) (o:Ob):f0B H k ver (some (.obj v o)) = H:=rfl
@[simp] theorem fbB_obj (v:Nat) (o:Ob):fbB H k ver (some (.obj v o)) = H:=rfl
@[simp] theorem p0o_obj (v:Nat) (o:Ob):p0o k ver (some (.obj v o)) = .ref k ver .o:=rfl
@[simp] theorem p0p_box (off v:Nat) (t:TypeId) (cells:List AV):p0p k ver off (some (.box v t cells)) = .ref k ver (.p off):=rfl
def npB (ver:Nat) (p:Prop):Option Blk → Prop
 | some (.box v _ _)=>v = ver ∧ p
 | _=>False
@[simp] theorem npB_box (v:Nat) (t:TypeId) (cells:List AV) (p:Prop):npB ver p (some (.box v t cells)) = (v = ver ∧ p):=rfl
@[simp] theorem sNilp_ref {K:Kt (St → Prop)} (ng:Bool) (d:Option Nat) (s:St) (off:Nat):@sNilp ng (.ref k ver (.p off)) d s K = npB ver (K.v (s.put d (.bool ng) s.H)) (s.H k):=by
 unfold sNilp cNilp npB; rfl
@[simp] theorem xNxt_ref:xNxt (.ref k ver (.p 0)) H = nxB H k ver (H k):=by unfold xNxt nxtV nxB; rfl
def nilB (ver:Nat) (K:Bool → Prop):Option Blk → Prop
 | some (.row v _ _ rows)=>v = ver ∧ K false ∧ (rows = [] → K true)
 | some (.froz v rows)=>v = ver ∧ K false ∧ (rows = [] → K true)
 | _=>False
theorem sNil_sl {K:Kt (St → Prop)} (ng:Bool) (rows:List (List AV)) (d:Option Nat) (τ:Nat → AV) (g:G) (h1:K.v (St.put ⟨τ,H,g⟩ d (.bool ng) H)) (h2:rows = [] → K.v (St.put ⟨τ,H,g⟩ d (.bool (!ng)) H)):@sNil ng (.sl rows) d ⟨τ,H,g⟩ K:=by
 cases ng
 ·exact ⟨h1,h2⟩
 ·exact ⟨h1,h2⟩
@[simp] theorem sNil_slt {K:Kt (St → Prop)} (ng:Bool) (rows:List (List AV)) (d:Option Nat) (s:St):@sNil ng (.slt rows) d s K = K.v (s.put d (.bool ng) s.H):=by cases ng <;> rfl
@[simp] theorem sNil_nils {K:Kt (St → Prop)} (ng:Bool) (d:Option Nat) (s:St):@sNil ng .nils d s K = K.v (s.put d (.bool (!ng)) s.H):=by cases ng <;> rfl
theorem sNil_ref {K:Kt (St → Prop)} (ng:Bool) (d:Option Nat) (τ:Nat → AV) (g:G) {t:TypeId} {sz:Nat} {rows:List (List AV)} (hk:H k = some (.row ver t sz rows)) (h1:K.v (St.put ⟨τ,H,g⟩ d (.bool ng) H)) (h2:rows = [] → K.v (St.put ⟨τ,H,g⟩ d (.bool (!ng)) H)) :
  @sNil ng (.ref k ver .o) d ⟨τ,H,g⟩ K:=by
 unfold sNil cNil nilK
 dsimp only
 rw [hk]
 cases ng
 ·exact ⟨rfl,h1,h2⟩
 ·exact ⟨rfl,h1,h2⟩
@[simp] theorem xApp_eq (P:Program) (e b:Nat) (d:Option Nat) (x y:AV):xApp P e n b d x y H = ob (srcA H n y) fun new=>appV P H e n b d new x:=rfl
@[simp] theorem srcA_sl (rows:List (List AV)):srcA H n (.sl rows) = if (rows.all fun r=>r.length == n && okCells r) then some rows else none:=rfl
@[simp] theorem srcA_slt (rows:List (List AV)):srcA H n (.slt rows) = if (rows.all fun r=>r.length == n && okCells r) then some rows else none:=rfl
@[simp] theorem srcA_nils:srcA H n .nils = some []:=rfl
@[simp] theorem srcA_ref:srcA H n (.ref k ver .o) = srcB ver n (H k):=by unfold srcA srcB; rfl
@[simp] theorem appV_ref (P:Program) (e b:Nat) (d:Option Nat) (new:List (List AV)):appV P H e n b d new (.ref k ver .o) = appB H e n b k ver new (H k):=by unfold appV appB; rfl
@[simp] theorem appV_nils (P:Program) (e b d:Nat) (new:List (List AV)):appV P H e n b (some d) new .nils = oif (decide (new.length * b ≤ 140737488355328)) (some (.ref d (nv H d) .o,upd H d (some (.row (nv H d) e n new)))):=rfl
@[simp] theorem frzs_nil:frzs H [] = H:=rfl
@[simp] theorem frzs_cons (x:AV) (l:List AV):frzs H (x :: l) = frzs (frz H x) l:=rfl
@[simp] theorem frz_agg (cs:List AV):frz H (.agg cs) = cs.foldl frz0 H:=rfl
@[simp] theorem frz_func (f:FuncId) (cs:List AV):frz H (.func f cs) = cs.foldl frzB H:=rfl
@[simp] theorem frz_tup (cs:List AV):frz H (.tup cs) = cs.foldl frz1 H:=rfl
@[simp] theorem frz_int (q:IntKind) (i:Int):frz H (.int q i) = H:=rfl
@[simp] theorem frz_bool (b:Bool):frz H (.bool b) = H:=rfl
@[simp] theorem frz_str (b:ByteArray):frz H (.str b) = H:=rfl
@[simp] theorem frz_sl (r:List (List AV)):frz H (.sl r) = H:=rfl
@[simp] theorem frz_slt (r:List (List AV)):frz H (.slt r) = H:=rfl
@[simp] theorem frz_nils:frz H .nils = H:=rfl
@[simp] theorem frz_nilf:frz H .nilf = H:=rfl
@[simp] theorem frz_nilp:frz H .nilp = H:=rfl
@[simp] theorem frz_yld:frz H .yld = H:=rfl
@[simp] theorem frz_elt (r:List AV):frz H (.elt r off) = H:=rfl
@[simp] theorem frz_p:frz H (.ref k ver (.p off)) = H:=rfl
@[simp] theorem frz_o:frz H (.ref k ver .o) = f0B H k ver (H k):=by unfold frz frz1 frz0 f0B; rfl
@[simp] theorem frz1_agg (cs:List AV):frz1 H (.agg cs) = cs.foldl frz0 H:=rfl
@[simp] theorem frz1_func (f:FuncId) (cs:List AV):frz1 H (.func f cs) = cs.foldl frzB H:=rfl
@[simp] theorem frz1_int (q:IntKind) (i:Int):frz1 H (.int q i) = H:=rfl
@[simp] theorem frz1_bool (b:Bool):frz1 H (.bool b) = H:=rfl
@[simp] theorem frz1_str (b:ByteArray):frz1 H (.str b) = H:=rfl
@[simp] theorem frz1_sl (r:List (List AV)):frz1 H (.sl r) = H:=rfl
@[simp] theorem frz1_slt (r:List (List AV)):frz1 H (.slt r) = H:=rfl
@[simp] theorem frz1_nils:frz1 H .nils = H:=rfl
@[simp] theorem frz1_nilf:frz1 H .nilf = H:=rfl
@[simp] theorem frz1_nilp:frz1 H .nilp = H:=rfl
@[simp] theorem frz1_elt (r:List AV):frz1 H (.elt r off) = H:=rfl
@[simp] theorem frz1_p:frz1 H (.ref k ver (.p off)) = H:=rfl
@[simp] theorem frz1_o:frz1 H (.ref k ver .o) = f0B H k ver (H k):=by unfold frz1 frz0 f0B; rfl
@[simp] theorem frz0_int (q:IntKind) (i:Int):frz0 H (.int q i) = H:=rfl
@[simp] theorem frz0_bool (b:Bool):frz0 H (.bool b) = H:=rfl
@[simp] theorem frz0_str (b:ByteArray):frz0 H (.str b) = H:=rfl
@[simp] theorem frz0_sl (r:List (List AV)):frz0 H (.sl r) = H:=rfl
@[simp] theorem frz0_slt (r:List (List AV)):frz0 H (.slt r) = H:=rfl
@[simp] theorem frz0_nils:frz0 H .nils = H:=rfl
@[simp] theorem frz0_nilf:frz0 H .nilf = H:=rfl
@[simp] theorem frz0_nilp:frz0 H .nilp = H:=rfl
@[simp] theorem frz0_yld:frz0 H .yld = H:=rfl
@[simp] theorem frz0_elt (r:List AV):frz0 H (.elt r off) = H:=rfl
@[simp] theorem frz0_func (f:FuncId) (cs:List AV):frz0 H (.func f cs) = H:=rfl
@[simp] theorem frz0_p:frz0 H (.ref k ver (.p off)) = H:=rfl
@[simp] theorem frz0_o:frz0 H (.ref k ver .o) = f0B H k ver (H k):=by unfold frz0 f0B; rfl
@[simp] theorem frzB_int (q:IntKind) (i:Int):frzB H (.int q i) = H:=rfl
@[simp] theorem frzB_bool (b:Bool):frzB H (.bool b) = H:=rfl
@[simp] theorem frzB_str (b:ByteArray):frzB H (.str b) = H:=rfl
@[simp] theorem frzB_sl (r:List (List AV)):frzB H (.sl r) = H:=rfl
@[simp] theorem frzB_slt (r:List (List AV)):frzB H (.slt r) = H:=rfl
@[simp] theorem frzB_nils:frzB H .nils = H:=rfl
@[simp] theorem frzB_yld:frzB H .yld = H:=rfl
@[simp] theorem frzB_elt (r:List AV):frzB H (.elt r off) = H:=rfl
@[simp] theorem frzB_func (f:FuncId) (cs:List AV):frzB H (.func f cs) = H:=rfl
@[simp] theorem frzB_p:frzB H (.ref k ver (.p off)) = fbB H k ver (H k):=by unfold frzB fbB; rfl
@[simp] theorem frzB_o:frzB H (.ref k ver .o) = f0B H k ver (H k):=by unfold frzB frz0 f0B; rfl
@[simp] theorem pur_agg (cs:List AV):pur H (.agg cs) = .agg (cs.map (pur0 H)):=rfl
@[simp] theorem pur_func (f:FuncId) (cs:List AV):pur H (.func f cs) = .func f (cs.map (pur0 H)):=rfl
@[simp] theorem pur_tup (cs:List AV):pur H (.tup cs) = .tup (cs.map (pur1 H)):=rfl
@[simp] theorem pur1_agg (cs:List AV):pur1 H (.agg cs) = .agg (cs.map (pur0 H)):=rfl
@[simp] theorem pur1_func (f:FuncId) (cs:List AV):pur1 H (.func f cs) = .func f (cs.map (pur0 H)):=rfl
@[simp] theorem pur_int (q:IntKind) (i:Int):pur H (.int q i) = .int q i:=rfl
@[simp] theorem pur_bool (b:Bool):pur H (.bool b) = .bool b:=rfl
@[simp] theorem pur_str (b:ByteArray):pur H (.str b) = .str b:=rfl
@[simp] theorem pur_sl (r:List (List AV)):pur H (.sl r) = .sl r:=rfl
@[simp] theorem pur_slt (r:List (List AV)):pur H (.slt r) = .sl r:=rfl
@[simp] theorem pur_nils:pur H .nils = .sl []:=rfl
@[simp] theorem pur_yld:pur H .yld = .yld:=rfl
@[simp] theorem pur_nilf:pur H .nilf = .nilf:=rfl
@[simp] theorem pur_nilp:pur H .nilp = .nilp:=rfl
@[simp] theorem pur_elt (r:List AV):pur H (.elt r off) = .elt r off:=rfl
@[simp] theorem pur_o:pur H (.ref k ver .o) = p0o k ver (H k):=by unfold pur pur1 pur0 p0o; rfl
@[simp] theorem pur_p:pur H (.ref k ver (.p off)) = p0p k ver off (H k):=by unfold pur pur1 pur0 p0p; rfl
@[simp] theorem pur1_int (q:IntKind) (i:Int):pur1 H (.int q i) = .int q i:=rfl
@[simp] theorem pur1_bool (b:Bool):pur1 H (.bool b) = .bool b:=rfl
@[simp] theorem pur1_str (b:ByteArray):pur1 H (.str b) = .str b:=rfl
@[simp] theorem pur1_sl (r:List (List AV)):pur1 H (.sl r) = .sl r:=rfl
@[simp] theorem pur1_slt (r:List (List AV)):pur1 H (.slt r) = .sl r:=rfl
@[simp] theorem pur1_nils:pur1 H .nils = .sl []:=rfl
@[simp] theorem pur1_o:pur1 H (.ref k ver .o) = p0o k ver (H k):=by unfold pur1 pur0 p0o; rfl
@[simp] theorem pur0_int (q:IntKind) (i:Int):pur0 H (.int q i) = .int q i:=rfl
@[simp] theorem pur0_bool (b:Bool):pur0 H (.bool b) = .bool b:=rfl
@[simp] theorem pur0_str (b:ByteArray):pur0 H (.str b) = .str b:=rfl
@[simp] theorem pur0_sl (r:List (List AV)):pur0 H (.sl r) = .sl r:=rfl
@[simp] theorem pur0_slt (r:List (List AV)):pur0 H (.slt r) = .sl r:=rfl
@[simp] theorem pur0_nils:pur0 H .nils = .sl []:=rfl
@[simp] theorem pur0_nilf:pur0 H .nilf = .nilf:=rfl
@[simp] theorem pur0_nilp:pur0 H .nilp = .nilp:=rfl
@[simp] theorem pur0_yld:pur0 H .yld = .yld:=rfl
@[simp] theorem pur0_elt (r:List AV):pur0 H (.elt r off) = .elt r off:=rfl
@[simp] theorem pur0_func (f:FuncId) (cs:List AV):pur0 H (.func f cs) = .func f cs:=rfl
@[simp] theorem pur0_o:pur0 H (.ref k ver .o) = p0o k ver (H k):=by unfold pur0 p0o; rfl
@[simp] theorem pur0_p:pur0 H (.ref k ver (.p off)) = p0p k ver off (H k):=by unfold pur0 p0p; rfl
def isY:AV → Bool
 | .yld=>true
 | _=>false
@[simp] theorem hasY_nil:hasY [] = false:=rfl
@[simp] theorem hasY_cons (x:AV) (l:List AV):hasY (x :: l) = (isY x || hasY l):=by cases x <;> rfl
@[simp] theorem isY_agg (c:List AV):isY (.agg c) = false:=rfl
@[simp] theorem isY_tup (c:List AV):isY (.tup c) = false:=rfl
@[simp] theorem isY_int (q:IntKind) (i:Int):isY (.int q i) = false:=rfl
@[simp] theorem isY_bool (b:Bool):isY (.bool b) = false:=rfl
@[simp] theorem isY_str (b:ByteArray):isY (.str b) = false:=rfl
@[simp] theorem isY_sl (r:List (List AV)):isY (.sl r) = false:=rfl
@[simp] theorem isY_slt (r:List (List AV)):isY (.slt r) = false:=rfl
@[simp] theorem isY_nils:isY .nils = false:=rfl
@[simp] theorem isY_elt (r:List AV):isY (.elt r off) = false:=rfl
@[simp] theorem isY_ref (r:RefK):isY (.ref k ver r) = false:=rfl
@[simp] theorem isY_func (f:FuncId) (c:List AV):isY (.func f c) = false:=rfl
@[simp] theorem isY_nilf:isY .nilf = false:=rfl
@[simp] theorem isY_nilp:isY .nilp = false:=rfl
@[simp] theorem isY_yld:isY .yld = true:=rfl
end
attribute [simp] closed closedL closedLL argT subT subA Blk.ver
section
variable (l : List (Nat × AV)) (h : List (Nat × Blk)) (i j : Nat)
@[simp] theorem look_nil:look [] j = .any:=rfl
@[simp] theorem look_cons (v:AV):look ((i,v) :: l) j = if i = j then v else look l j:=rfl
attribute [simp] look_ins
@[simp] theorem lookB_nil:lookB [] j = none:=rfl
@[simp] theorem lookB_cons (v:Blk):lookB ((i,v) :: h) j = if i = j then some v else lookB h j:=rfl
@[simp] theorem hls_nil (vs:Nat → Nat):hls [] vs j = some (.dead (vs j)):=rfl
@[simp] theorem hls_cons (v:Blk) (vs:Nat → Nat):hls ((i,v) :: h) vs j = if i = j then some v else hls h vs j:=by
 unfold hls
 rw [lookB_cons]
 by_cases e:i = j <;> simp [e]
@[simp] theorem insH_nil (x:Blk):insH [] j x = [(j,x)]:=rfl
@[simp] theorem insH_cons (v x:Blk):insH ((i,v) :: h) j x = if i = j then (j,x) :: h else (i,v) :: insH h j x:=rfl
@[simp] theorem nv_nil (vs:Nat → Nat):nv (hls [] vs) j = vs j + 1:=rfl
@[simp] theorem nv_cons (v:Blk) (vs:Nat → Nat):nv (hls ((i,v) :: h) vs) j = if i = j then v.ver + 1 else nv (hls h vs) j:=by
 unfold nv
 rw [hls_cons]
 by_cases e:i = j <;> simp [e]
end
@[simp] theorem retK_ret (P:Program) (rs:List ResultVar) (r:AV) (s:St):retK P rs r .ret s = retW P rs r s:=rfl
@[simp] theorem retK_normal (P:Program) (rs:List ResultVar) (r:AV) (s:St):retK P rs r .normal s = retW P rs r s:=rfl
theorem retW_eq (P:Program) (rs:List ResultVar) (r:AV) (s:St):retW P rs r s = bindO (resV P s.τ s.H rs) fun v=>closed (pur (frz s.H v) v) = true ∧ pur (frz s.H v) v = r:=rfl
@[simp] theorem retYK_ret (P:Program) (rs:List ResultVar) (rt rf:AV) (rest:List (List AV)) (s:St):retYK P rs rt rf rest .ret s = retYW P rs rt rf rest s:=rfl
@[simp] theorem retYK_normal (P:Program) (rs:List ResultVar) (rt rf:AV) (rest:List (List AV)) (s:St):retYK P rs rt rf rest .normal s = retYW P rs rt rf rest s:=rfl
@[simp] theorem retHK_ret (P:Program) (rs:List ResultVar) (Q:AV → List (Nat × Blk) → Prop) (s:St):retHK P rs Q .ret s = retHW P rs Q s:=rfl
@[simp] theorem retHK_normal (P:Program) (rs:List ResultVar) (Q:AV → List (Nat × Blk) → Prop) (s:St):retHK P rs Q .normal s = retHW P rs Q s:=rfl
theorem wrap64 {x:Int} (h:-9223372036854775808 ≤ x) (h2:x < 9223372036854775808):IntKind.wrap .i64 x = x:=by
 rw [IntKind.wrap_i64]
 omega
@[simp] theorem setL_whole {cells vs:List AV} (h:vs.length = cells.length):setL cells 0 vs = vs:=by simp [setL,h]
@[simp] theorem setL_succ (c:AV) (cs vs:List AV) (n:Nat):setL (c :: cs) (n + 1) vs = c :: setL cs n vs:=by
 unfold setL
 simp only [Nat.add_one_ne_zero,false_and,if_false,List.take_succ_cons,List.cons_append]
 split
 ·rename_i h
  obtain ⟨h0,h⟩:=h
  subst h0
  simp [h,Nat.add_comm]
 ·rename_i h
  have e:n + 1 + vs.length = (n + vs.length) + 1:=by omega
  rw [e]
  rfl
@[simp] theorem setL_zero_one (c x:AV) (cs:List AV):setL (c :: cs) 0 [x] = x :: cs:=by
 unfold setL
 split
 ·rename_i h
  have:cs = []:=by
   have:=h.2
   simp at this
   exact this
  rw [this]
 ·simp
@[simp] theorem setL_zero_cons (c x y:AV) (cs r:List AV):setL (c :: cs) 0 (x :: y :: r) = x :: setL cs 0 (y :: r):=by
 unfold setL
 simp only [true_and,List.length_cons,List.take_zero,List.nil_append,Nat.zero_add]
 by_cases h:r.length + 1 + 1 = cs.length + 1
 ·have h2:r.length + 1 = cs.length:=by omega
  simp [h,h2]
 ·have h2:¬ r.length + 1 = cs.length:=by omega
  simp [h2]
@[simp] theorem closedLL_sl_map {α:Type} (enc:α → List AV) (h:∀ x,closedL (enc x) = true) (l:List α):closedLL (l.map enc) = true:=closedLL_map h l
section
@[simp] theorem compat_eq (a b c d:List Nat):compat (a,b) (c,d) = ((b.all fun k=>!c.contains k) && d.all fun k=>!a.contains k):=rfl
@[simp] theorem occ_ref (k v:Nat) (r:RefK):occ (.ref k v r) = [k]:=by simp [occ]
@[simp] theorem occ_int (k:IntKind) (v:Int):occ (.int k v) = []:=by simp [occ]
@[simp] theorem occ_bool (v:Bool):occ (.bool v) = []:=by simp [occ]
@[simp] theorem occ_str (v:ByteArray):occ (.str v) = []:=by simp [occ]
@[simp] theorem occ_nils:occ .nils = []:=by simp [occ]
@[simp] theorem occ_nilf:occ .nilf = []:=by simp [occ]
@[simp] theorem occ_nilp:occ .nilp = []:=by simp [occ]
@[simp] theorem occ_yld:occ .yld = []:=by simp [occ]
@[simp] theorem occ_agg (cs:List AV):occ (.agg cs) = occL cs:=by simp [occ]
@[simp] theorem occ_elt (cs:List AV) (o:Nat):occ (.elt cs o) = occL cs:=by simp [occ]
@[simp] theorem occ_func (f:FuncId) (cs:List AV):occ (.func f cs) = occL cs:=by simp [occ]
@[simp] theorem occ_sl (r:List (List AV)):occ (.sl r) = occLL r:=by simp [occ]
@[simp] theorem occ_slt (r:List (List AV)):occ (.slt r) = occLL r:=by simp [occ]
@[simp] theorem occL_nil:occL [] = []:=by simp [occL]
@[simp] theorem occL_cons (c:AV) (cs:List AV):occL (c :: cs) = occ c ++ occL cs:=by simp [occL]
@[simp] theorem occLL_nil:occLL [] = []:=by simp [occLL]
@[simp] theorem occLL_cons (c:List AV) (cs:List (List AV)):occLL (c :: cs) = occL c ++ occLL cs:=by simp [occLL]
@[simp] theorem occL_off {cs:List AV} (h:closedL cs = true):occL cs = []:=occL_closed h
@[simp] theorem occLL_off {cs:List (List AV)} (h:closedLL cs = true):occLL cs = []:=occLL_closed h
end
@[simp] theorem ixRows_zero (rows:List (List AV)) (n:Nat):ixRows rows 0 n = (rows[0]?).bind fun r=>if r.length = n then some (.elt r 0) else none:=ixRows_nat n rows 0
@[simp] theorem ixRows_one (rows:List (List AV)) (n:Nat):ixRows rows 1 n = (rows[1]?).bind fun r=>if r.length = n then some (.elt r 0) else none:=ixRows_nat n rows 1
@[simp] theorem ixRows_two (rows:List (List AV)) (n:Nat):ixRows rows 2 n = (rows[2]?).bind fun r=>if r.length = n then some (.elt r 0) else none:=ixRows_nat n rows 2
@[simp] theorem ixRows_three (rows:List (List AV)) (n:Nat):ixRows rows 3 n = (rows[3]?).bind fun r=>if r.length = n then some (.elt r 0) else none:=ixRows_nat n rows 3
@[simp] theorem ixRows_four (rows:List (List AV)) (n:Nat):ixRows rows 4 n = (rows[4]?).bind fun r=>if r.length = n then some (.elt r 0) else none:=ixRows_nat n rows 4
@[simp] theorem ixRows_five (rows:List (List AV)) (n:Nat):ixRows rows 5 n = (rows[5]?).bind fun r=>if r.length = n then some (.elt r 0) else none:=ixRows_nat n rows 5
@[simp] theorem ixRows_six (rows:List (List AV)) (n:Nat):ixRows rows 6 n = (rows[6]?).bind fun r=>if r.length = n then some (.elt r 0) else none:=ixRows_nat n rows 6
@[simp] theorem ixRows_seven (rows:List (List AV)) (n:Nat):ixRows rows 7 n = (rows[7]?).bind fun r=>if r.length = n then some (.elt r 0) else none:=ixRows_nat n rows 7
@[simp] theorem updO_some (τ:Nat → AV) (d:Nat) (v:AV):updO τ (some d) v = upd τ d v:=rfl
@[simp] theorem updO_none (τ:Nat → AV) (v:AV):updO τ none v = τ:=rfl
@[simp] theorem okY_yld:okY .yld = true:=rfl
@[simp] theorem okY_agg (cs:List AV):okY (.agg cs) = closed (.agg cs):=rfl
@[simp] theorem okY_elt (cs:List AV) (o:Nat):okY (.elt cs o) = closed (.elt cs o):=rfl
@[simp] theorem okY_int (k:IntKind) (i:Int):okY (.int k i) = true:=rfl
@[simp] theorem okY_bool (b:Bool):okY (.bool b) = true:=rfl
@[simp] theorem okY_str (b:ByteArray):okY (.str b) = true:=rfl
@[simp] theorem okY_sl (r:List (List AV)):okY (.sl r) = closed (.sl r):=rfl
@[simp] theorem closed_agg (cs:List AV):closed (.agg cs) = closedL cs:=by simp [closed]
@[simp] theorem closed_elt (cs:List AV) (o:Nat):closed (.elt cs o) = closedL cs:=by simp [closed]
@[simp] theorem closed_sl (r:List (List AV)):closed (.sl r) = closedLL r:=by simp [closed]
@[simp] theorem retRK_ret (P:Program) (rs:List ResultVar) (t:TypeId) (sz:Nat) (rows:List (List AV)) (s:St):retRK P rs t sz rows .ret s = retRW P rs t sz rows s:=rfl
@[simp] theorem retRK_normal (P:Program) (rs:List ResultVar) (t:TypeId) (sz:Nat) (rows:List (List AV)) (s:St):retRK P rs t sz rows .normal s = retRW P rs t sz rows s:=rfl
theorem retRW_of (P:Program) (rs:List ResultVar) (t:TypeId) (sz:Nat) (rows:List (List AV)) (s:St) (k ver:Nat) (h1:resV P s.τ s.H rs = some (.ref k ver .o)) (h2:s.H k = some (.row ver t sz rows)):retRW P rs t sz rows s:=.inl ⟨k,ver,h1,h2⟩
theorem retRW_nil (P:Program) (rs:List ResultVar) (t:TypeId) (sz:Nat) (s:St) (h1:resV P s.τ s.H rs = some .nils) (h2:0 < sz):retRW P rs t sz [] s:=.inr ⟨h1,rfl,h2⟩
@[simp] theorem xNeg_int (q:IntKind) (i:Int) (H:Heap):xNeg (.int q i) H = some (.int q (q.wrap (0 - i)),H):=rfl
@[simp] theorem xSl3_sl (n:Nat) (rows:List (List AV)) (q q':IntKind) (i j:Int) (H:Heap):xSl3 n (.sl rows) (.int q i) (.int q' j) H = oif (decide (i = rows.length ∧ j = rows.length)) (oif (rows.all fun r=>r.length == n) (some (.sl rows,H))):=rfl
@[simp] theorem xSl3_nils (n:Nat) (q q':IntKind) (i j:Int) (H:Heap):xSl3 n .nils (.int q i) (.int q' j) H = oif (decide (i = 0 ∧ j = 0)) (some (.sl [],H)):=by simp [xSl3,rowsA,intV,oif,ob]
@[simp] theorem xSl3_ref (n k ver:Nat) (q q':IntKind) (i j:Int) (H:Heap):xSl3 n (.ref k ver .o) (.int q i) (.int q' j) H = ob (rowsB ver (H k)) fun rows=>oif (decide (i = rows.length ∧ j = rows.length)) (oif (rows.all fun r=>r.length == n) (some (.sl rows,H))):=by
 unfold xSl3 rowsA rowsB intV; rfl
def cfp (d f:Nat) (l:List AV):List Nat × List Nat:=([d] ++ withM (occ (.func f []) ++ occL l),[d] ++ withM (occ (.func f []) ++ occL l))
@[simp] theorem cfp_eq (d f:Nat) (l:List AV):cfp d f l = ([d] ++ withM (occ (.func f []) ++ occL l),[d] ++ withM (occ (.func f []) ++ occL l)):=rfl
@[simp] theorem withM_eq (l:List Nat):withM l = l ++ [(100,101),(100,102),(110,111),(110,112),(110,113)].filterMap fun p:Nat × Nat=>if l.contains p.1 then some p.2 else none:=rfl
end Go.Am
namespace Go.Am
open Go.RowKit
mutual
def nrm:AV → AV
 | .nils=>.sl []
 | .agg cs=>.agg (nrmL cs)
 | .tup cs=>.tup (nrmL cs)
 | .sl rows=>.sl (nrmLL rows)
 | a=>a
def nrmL:List AV → List AV
 | []=>[]
 | a :: l=>nrm a :: nrmL l
def nrmLL:List (List AV) → List (List AV)
 | []=>[]
 | r :: l=>nrmL r :: nrmLL l
end
theorem nrmL_map:∀ l,nrmL l = l.map nrm
 | []=>rfl
 | a :: l=>by simp [nrmL,nrmL_map l]
theorem nrmLL_map:∀ l,nrmLL l = l.map nrmL
 | []=>rfl
 | a :: l=>by simp [nrmLL,nrmLL_map l]
theorem R.nrm {C:Ctx} {a:AV} {v:Value} (h:R C a v):R C (Am.nrm a) v:=by
 induction h with
 | agg cs vs hl hh ih=>
  unfold Am.nrm
  refine .agg _ vs (by rw [nrmL_map]; simpa using hl) fun i a ha=>?_
  rw [nrmL_map,List.getElem?_map] at ha
  obtain ⟨b,hb,rfl⟩:=Option.map_eq_some_iff.1 ha
  exact ih i b hb
 | tup cs vs hl hh ih=>
  unfold Am.nrm
  refine .tup _ vs (by rw [nrmL_map]; simpa using hl) fun i a ha=>?_
  rw [nrmL_map,List.getElem?_map] at ha
  obtain ⟨b,hb,rfl⟩:=Option.map_eq_some_iff.1 ha
  exact ih i b hb
 | sl rows A cap g off sz f hA hcap hmax hsz hc hone hh ih=>
  unfold Am.nrm
  have e:(nrmLL rows).length = rows.length:=by rw [nrmLL_map]; simp
  have:=R.sl (C:=C) (nrmLL rows) A cap g off sz f (fun hne=>hA fun e2=>hne (by rw [e2]; rfl)) (by rw [e]; exact hcap) (by rw [e]; exact hmax) (fun r hr=>by
   rw [nrmLL_map] at hr
   obtain ⟨q,hq,rfl⟩:=List.mem_map.1 hr
   rw [nrmL_map,List.length_map]
   exact hsz q hq) (by rw [e]; exact hc) hone (fun i r hr j a ha=>by
   rw [nrmLL_map,List.getElem?_map] at hr
   obtain ⟨q,hq,rfl⟩:=Option.map_eq_some_iff.1 hr
   rw [nrmL_map,List.getElem?_map] at ha
   obtain ⟨b,hb,rfl⟩:=Option.map_eq_some_iff.1 ha
   exact ih i q hq j b hb)
  rw [e] at this
  exact this
 | nils=>exact R.nil_sl .nils
 | _=>first | exact R.any _ | (unfold Am.nrm; constructor <;> assumption)
theorem Spec.nrm {P:Program} {f:FuncId} {args:List AV} {r:AV} (h:Spec P f (nrmL args) r):Spec P f args r where
 enters:=h.enters
 calls:=fun w S l vs hS hR=>h.calls w S l vs hS ⟨by rw [nrmL_map]; simpa using hR.1,fun i a ha=>by
  rw [nrmL_map,List.getElem?_map] at ha
  obtain ⟨b,hb,rfl⟩:=Option.map_eq_some_iff.1 ha
  exact (hR.2 i b hb).nrm⟩
section
variable {P : Program} {f : FuncId} {args caps args' : List AV} {d : Option Nat} {s : St} {K : Kt (St → Prop)} {r : AV}
end
end Go.Am
namespace Go.Am
open Go.RowKit
section
variable (σ : Nat → Nat) (K : Nat → Bool) (k v : Nat)
@[simp] theorem ren_ref (r:RefK):ren σ (.ref k v r) = .ref (σ k) v r:=rfl
@[simp] theorem ren_agg (cs:List AV):ren σ (.agg cs) = .agg (renL σ cs):=rfl
@[simp] theorem ren_tup (cs:List AV):ren σ (.tup cs) = .tup (renL σ cs):=rfl
@[simp] theorem ren_sl (r:List (List AV)):ren σ (.sl r) = .sl (renLL σ r):=rfl
@[simp] theorem ren_slt (r:List (List AV)):ren σ (.slt r) = .slt (renLL σ r):=rfl
@[simp] theorem ren_elt (r:List AV) (o:Nat):ren σ (.elt r o) = .elt (renL σ r) o:=rfl
@[simp] theorem ren_func (f:FuncId) (cs:List AV):ren σ (.func f cs) = .func f (renL σ cs):=rfl
@[simp] theorem ren_int (q:IntKind) (i:Int):ren σ (.int q i) = .int q i:=rfl
@[simp] theorem ren_bool (b:Bool):ren σ (.bool b) = .bool b:=rfl
@[simp] theorem ren_str (b:ByteArray):ren σ (.str b) = .str b:=rfl
@[simp] theorem ren_nils:ren σ .nils = .nils:=rfl
@[simp] theorem ren_nilp:ren σ .nilp = .nilp:=rfl
@[simp] theorem ren_nilf:ren σ .nilf = .nilf:=rfl
@[simp] theorem ren_any:ren σ .any = .any:=rfl
@[simp] theorem renL_nil:renL σ [] = []:=rfl
@[simp] theorem renL_cons (c:AV) (cs:List AV):renL σ (c :: cs) = ren σ c :: renL σ cs:=rfl
@[simp] theorem renLL_nil:renLL σ [] = []:=rfl
@[simp] theorem renLL_cons (c:List AV) (cs:List (List AV)):renLL σ (c :: cs) = renL σ c :: renLL σ cs:=rfl
@[simp] theorem renL_off {cs:List AV} (h:closedL cs = true):renL σ cs = cs:=renL_closed σ h
@[simp] theorem renLL_off {cs:List (List AV)} (h:closedLL cs = true):renLL σ cs = cs:=renLL_closed σ h
@[simp] theorem renL_app (a b:List AV):renL σ (a ++ b) = renL σ a ++ renL σ b:=by simp [renL_map]
@[simp] theorem okk_ref (r:RefK):okk K (.ref k v r) = K k:=rfl
@[simp] theorem okk_agg (cs:List AV):okk K (.agg cs) = okkL K cs:=rfl
@[simp] theorem okk_tup (cs:List AV):okk K (.tup cs) = okkL K cs:=rfl
@[simp] theorem okk_sl (r:List (List AV)):okk K (.sl r) = okkLL K r:=rfl
@[simp] theorem okk_slt (r:List (List AV)):okk K (.slt r) = okkLL K r:=rfl
@[simp] theorem okk_elt (r:List AV) (o:Nat):okk K (.elt r o) = okkL K r:=rfl
@[simp] theorem okk_func (f:FuncId) (cs:List AV):okk K (.func f cs) = okkL K cs:=rfl
@[simp] theorem okk_int (q:IntKind) (i:Int):okk K (.int q i) = true:=rfl
@[simp] theorem okk_bool (b:Bool):okk K (.bool b) = true:=rfl
@[simp] theorem okk_str (b:ByteArray):okk K (.str b) = true:=rfl
@[simp] theorem okk_nils:okk K .nils = true:=rfl
@[simp] theorem okk_nilp:okk K .nilp = true:=rfl
@[simp] theorem okk_nilf:okk K .nilf = true:=rfl
@[simp] theorem okkL_nil:okkL K [] = true:=rfl
@[simp] theorem okkL_cons (c:AV) (cs:List AV):okkL K (c :: cs) = (okk K c && okkL K cs):=rfl
@[simp] theorem okkLL_nil:okkLL K [] = true:=rfl
@[simp] theorem okkLL_cons (c:List AV) (cs:List (List AV)):okkLL K (c :: cs) = (okkL K c && okkLL K cs):=rfl
@[simp] theorem okkL_off {cs:List AV} (h:closedL cs = true):okkL K cs = true:=okkL_closed K h
@[simp] theorem okkLL_off {cs:List (List AV)} (h:closedLL cs = true):okkLL K cs = true:=okkLL_closed K h
@[simp] theorem okkL_app (a b:List AV):okkL K (a ++ b) = (okkL K a && okkL K b):=okkL_append
@[simp] theorem renB_box (t:TypeId) (cs:List AV):renB σ (.box v t cs) = .box v t (renL σ cs):=rfl
@[simp] theorem renB_row (t:TypeId) (sz:Nat) (rows:List (List AV)):renB σ (.row v t sz rows) = .row v t sz (renLL σ rows):=rfl
@[simp] theorem renB_froz (rows:List (List AV)):renB σ (.froz v rows) = .froz v (renLL σ rows):=rfl
@[simp] theorem renB_obj (o:Ob):renB σ (.obj v o) = .obj v o:=rfl
@[simp] theorem okB_obj (o:Ob):okB K (.obj v o) = true:=rfl
@[simp] theorem live_obj (o:Ob):Blk.live (.obj v o) = true:=rfl
@[simp] theorem renB_dead:renB σ (.dead v) = .dead v:=rfl
@[simp] theorem okB_box (t:TypeId) (cs:List AV):okB K (.box v t cs) = okkL K cs:=rfl
@[simp] theorem okB_row (t:TypeId) (sz:Nat) (rows:List (List AV)):okB K (.row v t sz rows) = okkLL K rows:=rfl
@[simp] theorem okB_froz (rows:List (List AV)):okB K (.froz v rows) = okkLL K rows:=rfl
@[simp] theorem asc_nil:asc [] k = k:=rfl
@[simp] theorem asc_cons (a b:Nat) (r:List (Nat × Nat)):asc ((a,b) :: r) k = if a = k then b else asc r k:=rfl
@[simp] theorem csa_nil:csa [] k = k:=rfl
@[simp] theorem csa_cons (a b:Nat) (r:List (Nat × Nat)):csa ((a,b) :: r) k = if b = k then a else csa r k:=rfl
@[simp] theorem inK_eq (l:List Nat):inK l k = l.contains k:=rfl
@[simp] theorem lentL_nil (L:List (Nat × Blk)) (ks:List (Nat × Nat)):lentL L ks [] = []:=rfl
@[simp] theorem lentL_cons (L:List (Nat × Blk)) (ks:List (Nat × Nat)) (p:Nat × Nat) (r:List (Nat × Nat)):lentL L ks (p :: r) = (p.2,renB (asc ks) ((lookB L p.1).getD (.dead 0))) :: lentL L ks r:=rfl
@[simp] theorem backL_nil (ks:List (Nat × Nat)):backL ks [] = []:=rfl
@[simp] theorem backL_cons (ks:List (Nat × Nat)) (p:Nat × Blk) (r:List (Nat × Blk)):backL ks (p :: r) = (csa ks p.1,renB (csa ks) p.2) :: backL ks r:=rfl
@[simp] theorem keys_nil:keys [] = []:=rfl
@[simp] theorem keys_cons (p:Nat × Blk) (r:List (Nat × Blk)):keys (p :: r) = p.1 :: keys r:=rfl
@[simp] theorem dropK_nil (ks:List Nat):dropK ks [] = []:=rfl
@[simp] theorem dropK_cons (ks:List Nat) (b:Blk) (r:List (Nat × Blk)):dropK ks ((k,b) :: r) = if inK ks k = true then dropK ks r else (k,b) :: dropK ks r:=rfl
@[simp] theorem nodupB_nil:nodupB [] = true:=rfl
@[simp] theorem nodupB_cons (l:List Nat):nodupB (k :: l) = (!inK l k && nodupB l):=rfl
@[simp] theorem ovr_nil (H:Heap):ovr [] H = H:=rfl
@[simp] theorem ovr_cons (b:Blk) (r:List (Nat × Blk)) (H:Heap):ovr ((k,b) :: r) H = upd (ovr r H) k (some b):=by
 funext j
 show (match (if k = j then some b else lookB r j) with | some b=>some b | none=>H j) = if j = k then some b else _
 by_cases e:k = j
 ·rw [if_pos e,if_pos e.symm]
 ·rw [if_neg e,if_neg fun h=>e h.symm]; rfl
end
@[simp] theorem lendOk_eq (L:List (Nat × Blk)) (lent nw:List (Nat × Nat)) (args:List AV):lendOk L lent nw args =
 (nodupB ((lent ++ nw).map (·.1)) && (nodupB ((lent ++ nw).map (·.2)) && ((lent.all fun p=>match lookB L p.1 with | some b=>okB (inK (lent.map (·.1))) b | none=>false) && args.all (okk (inK (lent.map (·.1))))))):=rfl
@[simp] theorem retOk_eq (ks:List (Nat × Nat)) (r:AV) (l':List (Nat × Blk)):retOk ks r l' = ((keys l').all (inK (ks.map (·.2))) && ((l'.all fun p=>okB (inK (keys l')) p.2) && okk (inK (keys l')) r)):=rfl
@[simp] theorem frzXs_nil (H:Heap):frzXs H [] = H:=rfl
@[simp] theorem frzXs_cons (H:Heap) (x:AV) (l:List AV):frzXs H (x :: l) = frzXs (frz (frzB H x) x) l:=rfl
@[simp] theorem frzB_agg (H:Heap) (cs:List AV):frzB H (.agg cs) = H:=rfl
def wrE (H:Heap) (k ver i off n:Nat) (x:List AV):Option Blk → Option Heap
 | some (.row v t sz rows)=>(rows[i]?).bind fun r=>if v = ver ∧ okCells x = true ∧ x.length = n ∧ off + n ≤ r.length then some (upd H k (some (.row v t sz (rows.set i (setL r off x))))) else none
 | _=>none
@[simp] theorem wrE_row (H:Heap) (k ver i off n v sz:Nat) (t:TypeId) (x:List AV) (rows:List (List AV)):wrE H k ver i off n x (some (.row v t sz rows)) = (rows[i]?).bind fun r=>if v = ver ∧ okCells x = true ∧ x.length = n ∧ off + n ≤ r.length then some (upd H k (some (.row v t sz (rows.set i (setL r off x))))) else none:=rfl
@[simp] theorem xStore_e (H:Heap) (n k ver i off:Nat) (y:AV):xStore n (.ref k ver (.e i off)) y H = ob (wrE H k ver i off n y.cells (H k)) fun H'=>some (.tup [],H'):=by
 unfold xStore wrV wrE
 dsimp only
 generalize H k = b
 cases b with
 | none=>rfl
 | some b=>
  cases b with
  | row v t sz rows=>
   dsimp only
   generalize rows[i]? = q
   cases q <;> rfl
  | _=>rfl
def nlB (ver:Nat):Option Blk → Bool
 | some (.box v _ _) | some (.fbox v _)=>v == ver
 | _=>false
def nlE (ver i:Nat):Option Blk → Bool
 | some (.row v _ _ rows)=>v == ver && decide (i < rows.length)
 | _=>false
section
variable (H : Heap) (k ver off v i : Nat) (t : TypeId) (sz : Nat) (cells : List AV) (rows : List (List AV))
@[simp] theorem nlB_box:nlB ver (some (.box v t cells)) = (v == ver):=rfl
@[simp] theorem nlB_fbox:nlB ver (some (.fbox v cells)) = (v == ver):=rfl
@[simp] theorem nlE_row:nlE ver i (some (.row v t sz rows)) = (v == ver && decide (i < rows.length)):=rfl
@[simp] theorem xNil_p:xNil (.ref k ver (.p off)) H = oif (nlB ver (H k)) (some (.ref k ver (.p off),H)):=by
 unfold xNil okPtr nlB
 rfl
@[simp] theorem xNil_e:xNil (.ref k ver (.e i off)) H = oif (nlE ver i (H k)) (some (.ref k ver (.e i off),H)):=by
 unfold xNil okPtr nlE
 rfl
end
theorem retHW_to {P:Program} {rs:List ResultVar} {Q:AV → List (Nat × Blk) → Prop} {τ:Nat → AV} {L:List (Nat × Blk)} {VS:Nat → Nat} {g:G} (l':List (Nat × Blk))
  (h:bindO (resV P τ (hls L VS) rs) fun v=>subA L l' ∧ Q v l'):retHW P rs Q ⟨τ,hls L VS,g⟩:=by
 unfold bindO at h
 cases e:resV P τ (hls L VS) rs with
 | none=>rw [e] at h; exact h.elim
 | some v=>rw [e] at h; exact ⟨false,v,L,VS,l',e,rfl,h.1,h.2⟩
def hasL (H:Heap):List (Nat × Blk) → Prop
 | []=>True
 | (k,b) :: r=>H k = some b ∧ b.live = true ∧ hasL H r
@[simp] theorem hasL_nil (H:Heap):hasL H [] = True:=rfl
@[simp] theorem hasL_cons (H:Heap) (k:Nat) (b:Blk) (r:List (Nat × Blk)):hasL H ((k,b) :: r) = (H k = some b ∧ b.live = true ∧ hasL H r):=rfl
@[simp] theorem live_box (v:Nat) (t:TypeId) (cs:List AV):(Blk.box v t cs).live = true:=rfl
@[simp] theorem live_row (v:Nat) (t:TypeId) (sz:Nat) (rows:List (List AV)):(Blk.row v t sz rows).live = true:=rfl
end Go.Am
namespace Go.Am
open Go.RowKit
theorem Holds.setCell {C C':Ctx} (hle:C.le C') {cs:Array Value} {cells:List AV} (h:Holds C cs cells) {i:Nat} {x y:AV} (hx:cells[i]? = some x) (hy:∀ v,R C x v → R C' y v) (hc:y.cell = true):Holds C' cs (cells.set i y):=fun j a ha=>by
 rw [List.getElem?_set] at ha
 by_cases e:i = j
 ·subst e
  have hl:=(List.getElem?_eq_some_iff.1 hx).1
  rw [if_pos rfl,if_pos hl] at ha
  cases ha
  obtain ⟨v,h1,h2,h3⟩:=h i x hx
  exact ⟨v,h1,hy v h2,hc⟩
 ·rw [if_neg e] at ha
  obtain ⟨v,h1,h2,h3⟩:=h j a ha
  exact ⟨v,h1,h2.mono hle,h3⟩
theorem HOk.looseC {C:Ctx} (h:HOk C) {k v i:Nat} {t:TypeId} {cells:List AV} (hk:C.H k = some (.box v t cells)) (hi:cells[i]? = some .nils) :
  HOk ⟨upd C.H k (some (.box v t (cells.set i (.sl [])))),C.own,C.S,C.w,C.l⟩ ∧ C.le ⟨upd C.H k (some (.box v t (cells.set i (.sl [])))),C.own,C.S,C.w,C.l⟩:=by
 have hle:C.le ⟨upd C.H k (some (.box v t (cells.set i (.sl [])))),C.own,C.S,C.w,C.l⟩:=by
  refine ⟨fun b hb=>⟨hb,rfl⟩,fun j blk hj=>?_,rfl⟩
  by_cases e:j = k
  ·subst e
   rw [hk] at hj
   cases hj
   refine ⟨_,upd_same _ _ _,Nat.le_refl _,fun _ r u hu=>?_⟩
   cases ho:C.own j <;> rw [ho] at hu <;> cases r <;> exact hu
  ·exact ⟨blk,by rw [show (⟨upd C.H k (some (.box v t (cells.set i (.sl [])))),C.own,C.S,C.w,C.l⟩:Ctx).H j = C.H j from upd_other _ _ _ _ e]; exact hj,Nat.le_refl _,fun _ r u hu=>hu⟩
 have old:∀ j blk,upd C.H k (some (.box v t (cells.set i (.sl [])))) j = some blk → blk.live = true → ∃ b,C.H j = some b ∧ b.live = true:=fun j blk hj hl=>by
  by_cases e:j = k
  ·subst e; exact ⟨_,hk,rfl⟩
  ·rw [upd_other _ _ _ _ e] at hj; exact ⟨blk,hj,hl⟩
 refine ⟨⟨h.hS,fun j blk g hj hl e=>?_,fun j j' blk blk' g hj hj' hl hl' e e'=>?_,fun j blk hj=>?_⟩,hle⟩
 ·obtain ⟨b,q1,q2⟩:=old j blk hj hl
  exact h.hown j b g q1 q2 e
 ·obtain ⟨b,q1,q2⟩:=old j blk hj hl
  obtain ⟨b',p1,p2⟩:=old j' blk' hj' hl'
  exact h.inj j j' b b' g q1 p1 q2 p2 e e'
 ·have hj:upd C.H k (some (.box v t (cells.set i (.sl [])))) j = some blk:=hj
  by_cases e:j = k
  ·subst e
   rw [upd_same] at hj
   cases hj
   have hh:=h.heap j _ hk
   show HRel _ (C.own j) _
   cases ho:C.own j with
   | none=>rw [ho] at hh; exact hh.elim
   | some g=>
    rw [ho] at hh
    obtain ⟨cs,h1,h2,h3⟩:=hh
    refine ⟨cs,h1,by rw [List.length_set]; exact h2,h3.setCell hle hi (fun u hu=>?_) rfl⟩
    cases hu
    exact .sl [] none 0 0 0 0 (fun _ _=>.bool true) (fun e=>absurd rfl e) (Nat.le_refl _) (Nat.zero_le _) (fun r hr=>by simp at hr) (fun i hi=>by simp at hi) (fun _ _=>rfl) fun i r hr=>by simp at hr
  ·rw [upd_other _ _ _ _ e] at hj
   exact (h.heap j blk hj).mono hle fun _ _ _=>rfl
theorem HOk.looseR {C:Ctx} (h:HOk C) {k v i k2 vd sz:Nat} {t t2:TypeId} {cells:List AV} (hk:C.H k = some (.box v t cells)) (hi:cells[i]? = some .nils) (hk2:C.H k2 = some (.dead vd)) (hsz:0 < sz) :
  HOk ⟨upd (upd C.H k (some (.box v t (cells.set i (.ref k2 (vd + 1) .o))))) k2 (some (.row (vd + 1) t2 sz [])),upd C.own k2 none,C.S,C.w,C.l⟩ ∧
   C.le ⟨upd (upd C.H k (some (.box v t (cells.set i (.ref k2 (vd + 1) .o))))) k2 (some (.row (vd + 1) t2 sz [])),upd C.own k2 none,C.S,C.w,C.l⟩:=by
 have hne:k ≠ k2:=fun e=>by rw [e,hk2] at hk; cases hk
 obtain ⟨C',hC'⟩:∃ C',C' = (⟨upd (upd C.H k (some (.box v t (cells.set i (.ref k2 (vd + 1) .o))))) k2 (some (.row (vd + 1) t2 sz [])),upd C.own k2 none,C.S,C.w,C.l⟩:Ctx):=⟨_,rfl⟩
 rw [← hC']
 have H2:C'.H k2 = some (.row (vd + 1) t2 sz []):=by rw [hC']; exact upd_same _ _ _
 have H1:C'.H k = some (.box v t (cells.set i (.ref k2 (vd + 1) .o))):=by rw [hC']; exact (upd_other _ _ _ _ hne).trans (upd_same _ _ _)
 have H0:∀ j,j ≠ k → j ≠ k2 → C'.H j = C.H j:=fun j e1 e2=>by rw [hC']; exact (upd_other _ _ _ _ e2).trans (upd_other _ _ _ _ e1)
 have O2:C'.own k2 = none:=by rw [hC']; exact upd_same _ _ _
 have O0:∀ j,j ≠ k2 → C'.own j = C.own j:=fun j e=>by rw [hC']; exact upd_other _ _ _ _ e
 have hw:C'.w = C.w:=by rw [hC']
 have hS:C'.S = C.S:=by rw [hC']
 have hle:C.le C':=by
  refine ⟨fun b hb=>⟨by rw [hS]; exact hb,by rw [hw]⟩,fun j blk hj=>?_,by rw [hC']⟩
  by_cases e2:j = k2
  ·subst e2
   rw [hk2] at hj
   cases hj
   exact ⟨_,H2,Nat.le_succ _,fun e=>by simp [Blk.ver] at e⟩
  ·by_cases e1:j = k
   ·subst e1
    rw [hk] at hj
    cases hj
    refine ⟨_,H1,Nat.le_refl _,fun _ r u hu=>?_⟩
    rw [O0 j e2,hw]
    cases ho:C.own j <;> rw [ho] at hu <;> cases r <;> exact hu
   ·exact ⟨blk,(H0 j e1 e2).trans hj,Nat.le_refl _,fun _ r u hu=>by rw [O0 j e2,hw]; exact hu⟩
 have old:∀ j blk g,C'.H j = some blk → blk.live = true → C'.own j = some g → ∃ b,C.H j = some b ∧ b.live = true ∧ C.own j = some g:=fun j blk g hj hl e=>by
  by_cases e2:j = k2
  ·subst e2; rw [O2] at e; cases e
  ·rw [O0 j e2] at e
   by_cases e1:j = k
   ·subst e1; exact ⟨_,hk,rfl,e⟩
   ·rw [H0 j e1 e2] at hj; exact ⟨blk,hj,hl,e⟩
 refine ⟨⟨fun b hb=>by rw [hS] at hb; rw [hw]; exact h.hS b hb,fun j blk g hj hl e=>?_,fun j j' blk blk' g hj hj' hl hl' e e'=>?_,fun j blk hj=>?_⟩,hle⟩
 ·obtain ⟨b,q1,q2,q3⟩:=old j blk g hj hl e
  rw [hw,hS]
  exact h.hown j b g q1 q2 q3
 ·obtain ⟨b,q1,q2,q3⟩:=old j blk g hj hl e
  obtain ⟨b',p1,p2,p3⟩:=old j' blk' g hj' hl' e'
  exact h.inj j j' b b' g q1 p1 q2 p2 q3 p3
 ·by_cases e2:j = k2
  ·subst e2
   rw [H2] at hj
   cases hj
   rw [O2]
   exact ⟨rfl,hsz⟩
  ·rw [O0 j e2]
   by_cases e1:j = k
   ·subst e1
    rw [H1] at hj
    cases hj
    have hh:=h.heap j _ hk
    cases ho:C.own j with
    | none=>rw [ho] at hh; exact hh.elim
    | some g=>
     rw [ho] at hh
     obtain ⟨cs,h1,h2,h3⟩:=hh
     refine ⟨cs,by rw [hw]; exact h1,by rw [List.length_set]; exact h2,h3.setCell hle hi (fun u hu=>?_) rfl⟩
     cases hu
     exact .ref k2 (vd + 1) .o _ _ H2 (Nat.le_refl _) rfl fun _=>by rw [O2]; rfl
   ·rw [H0 j e1 e2] at hj
    exact (h.heap j blk hj).mono hle fun _ _ _=>by rw [hw]
theorem HTr.to {C0 C C':Ctx} (h:HTr C0 C) (hle:C.le C') (hw:C'.w = C.w) (hS:C'.S = C.S) (ho:∀ k blk g,C'.H k = some blk → blk.live = true → C'.own k = some g → ∃ b,C.H k = some b ∧ b.live = true ∧ C.own k = some g):HTr C0 C':=
 ⟨h.le.trans hle,by rw [hw]; exact h.grows,fun b hb=>by rw [hS] at hb; exact h.hS b hb,fun k blk g hk hl e=>by
  obtain ⟨b,q1,q2,q3⟩:=ho k blk g hk hl e
  exact h.hown k b g q1 q2 q3⟩
theorem HSpecL.looseC {P:Program} {f:FuncId} {args:List AV} {l:List (Nat × Blk)} {Q Q':AV → List (Nat × Blk) → Prop} (h:HSpecL P f args l Q)
  (hq:∀ r l0,Q r l0 → ∃ k v t cells i,lookB l0 k = some (.box v t cells) ∧ cells[i]? = some .nils ∧ Q' r (insH l0 k (.box v t (cells.set i (.sl []))))):HSpecL P f args l Q':=fun vs=>
 ⟨(h vs).enters,fun C us hH hC hR=>((h vs).calls C us hH hC hR).mono fun e w' ⟨v,r,C',h1,h2,h3,h4,h5,l0,vs',h6,h7⟩=>by
  obtain ⟨k,vb,t,cells,i,q1,q2,q3⟩:=hq r l0 h7
  have hk:C'.H k = some (.box vb t cells):=by rw [h6]; exact hls_some q1
  obtain ⟨g1,g2⟩:=h3.looseC hk q2
  refine ⟨v,r,_,h1,?_,g1,h4.to g2 rfl rfl fun j blk g hj hl e=>?_,h5.mono g2,_,vs',?_,q3⟩
  ·exact h2
  ·have hj:upd C'.H k (some (.box vb t (cells.set i (.sl [])))) j = some blk:=hj
   by_cases ej:j = k
   ·subst ej; exact ⟨_,hk,rfl,e⟩
   ·rw [upd_other _ _ _ _ ej] at hj; exact ⟨blk,hj,hl,e⟩
  ·show upd C'.H k _ = _
   rw [h6,upd_hls]⟩
theorem HSpecL.looseR {P:Program} {f:FuncId} {args:List AV} {l:List (Nat × Blk)} {Q Q':AV → List (Nat × Blk) → Prop} (h:HSpecL P f args l Q)
  (hq:∀ r l0,Q r l0 → ∃ k v t cells i k2 t2 sz,lookB l0 k = some (.box v t cells) ∧ cells[i]? = some .nils ∧ lookB l0 k2 = none ∧ 0 < sz ∧ ∀ v2,Q' r (insH (insH l0 k (.box v t (cells.set i (.ref k2 v2 .o)))) k2 (.row v2 t2 sz []))):HSpecL P f args l Q':=fun vs=>
 ⟨(h vs).enters,fun C us hH hC hR=>((h vs).calls C us hH hC hR).mono fun e w' ⟨v,r,C',h1,h2,h3,h4,h5,l0,vs',h6,h7⟩=>by
  obtain ⟨k,vb,t,cells,i,k2,t2,sz,q1,q2,q3,q4,q5⟩:=hq r l0 h7
  have hk:C'.H k = some (.box vb t cells):=by rw [h6]; exact hls_some q1
  have hk2:C'.H k2 = some (.dead (vs' k2)):=by rw [h6]; exact hls_none q3
  obtain ⟨g1,g2⟩:=h3.looseR (t2:=t2) hk q2 hk2 q4
  refine ⟨v,r,_,h1,?_,g1,h4.to g2 rfl rfl fun j blk g hj hl e=>?_,h5.mono g2,_,vs',?_,q5 (vs' k2 + 1)⟩
  ·exact h2
  ·have hj:upd (upd C'.H k (some (.box vb t (cells.set i (.ref k2 (vs' k2 + 1) .o))))) k2 (some (.row (vs' k2 + 1) t2 sz [])) j = some blk:=hj
   have e:upd C'.own k2 none j = some g:=e
   by_cases e2:j = k2
   ·subst e2; rw [upd_same] at e; cases e
   ·rw [upd_other _ _ _ _ e2] at hj e
    have e9:C'.own j = some g:=e
    by_cases ej:j = k
    ·subst ej; exact ⟨_,hk,rfl,e9⟩
    ·rw [upd_other _ _ _ _ ej] at hj; exact ⟨blk,hj,hl,e9⟩
  ·show upd (upd C'.H k _) k2 _ = _
   rw [h6,upd_hls,upd_hls]⟩
end Go.Am
namespace Go.Am
open Go.RowKit
abbrev Ctx.froz (C:Ctx) (k:Nat) (b:Blk):Ctx:=⟨upd C.H k (some b),C.own,fun g=>C.S g ∨ C.own k = some g,C.w,C.l⟩
theorem Blk.frozen_live {b b':Blk} (h:b.frozen = some b'):b.live = true ∧ b'.live = false ∧ b'.ver = b.ver:=by cases b <;> first | (cases h; exact ⟨rfl,rfl,rfl⟩) | cases h
theorem HOk.freeze {C:Ctx} (h:HOk C) {k:Nat} {blk blk':Blk} (hk:C.H k = some blk) (hf:blk.frozen = some blk'):HOk (C.froz k blk') ∧ C.le (C.froz k blk'):=by
 obtain ⟨hl,hl',hv⟩:=Blk.frozen_live hf
 have hhk:=h.heap k blk hk
 have hle:C.le (C.froz k blk'):=by
  refine ⟨fun b hb=>⟨.inl hb,rfl⟩,fun k0 b0 hk0=>?_,rfl⟩
  by_cases e:k0 = k
  ·subst e
   rw [hk] at hk0
   cases hk0
   refine ⟨_,upd_same _ _ _,Nat.le_of_eq hv.symm,fun _ r v hr=>?_⟩
   show RefVal C.w (C.own k0) blk' r v
   cases hog:C.own k0 with
   | none=>
    rw [hog] at hr
    cases blk <;> cases hf <;> cases r <;> exact hr
   | some g=>
    rw [hog] at hr hhk
    cases blk with
    | row ver t sz rows=>
     cases hf
     cases r with
     | p off=>trivial
     | e i off=>trivial
     | o=>
      obtain ⟨cap,hv1,hv2⟩:=hr
      obtain ⟨cs,cap',g1,g2,g3,g4,g5,g6,g7⟩:=hhk
      have e1:=hv2 cs t (0,0) g1
      rw [g2] at e1
      have e2:cap' = cap:=Nat.eq_of_mul_eq_mul_right g5 e1
      subst e2
      exact ⟨cap',hv1,g3,Nat.le_trans g3 g4⟩
    | box ver t cells=>
     cases hf
     cases r with
     | p off=>exact hr
     | e i off=>trivial
     | o=>trivial
    | _=>cases hf
  ·exact ⟨b0,by show upd C.H k _ k0 = _; rw [upd_other _ _ _ _ e]; exact hk0,Nat.le_refl _,fun _ r v hr=>hr⟩
 have old:∀ j b,(C.froz k blk').H j = some b → b.live = true → j ≠ k ∧ C.H j = some b:=fun j b hj hb=>by
  by_cases e:j = k
  ·subst e
   have hj:upd C.H j (some blk') j = some b:=hj
   rw [upd_same] at hj
   cases hj
   rw [hl'] at hb; cases hb
  ·exact ⟨e,by rw [← hj]; exact (upd_other _ _ _ _ e).symm⟩
 refine ⟨⟨fun b hb=>?_,fun j b g hj hb eg=>?_,fun j j' b b' g hj hj' hb hb' e e'=>?_,fun j b hj=>?_⟩,hle⟩
 ·rcases hb with hb | hb
  ·exact h.hS b hb
  ·exact (h.hown k blk b hk hl hb).1
 ·obtain ⟨e,hj⟩:=old j b hj hb
  obtain ⟨g1,g2⟩:=h.hown j b g hj hb eg
  exact ⟨g1,fun hs=>hs.elim g2 fun e2=>e (h.inj j k b blk g hj hk hb hl eg e2)⟩
 ·exact h.inj j j' b b' g (old j b hj hb).2 (old j' b' hj' hb').2 hb hb' e e'
 ·by_cases e:j = k
  ·subst e
   have hj:upd C.H j (some blk') j = some b:=hj
   rw [upd_same] at hj
   cases hj
   show HRel _ (C.own j) blk'
   cases hog:C.own j with
   | none=>
    rw [hog] at hhk
    cases blk <;> cases hf
    ·exact hhk.elim
    ·exact hhk.1
   | some g=>
    rw [hog] at hhk
    have hg:(C.froz j blk').S g:=.inr hog
    cases blk with
    | row ver t sz rows=>
     cases hf
     obtain ⟨cs,cap',g1,g2,g3,g4,g5,g6,g7⟩:=hhk
     exact ⟨cs,t,sz,g1,hg,g5,g6,g7.mono hle⟩
    | box ver t cells=>
     cases hf
     obtain ⟨cs,g1,g2,g3⟩:=hhk
     exact ⟨cs,t,g1,hg,g3.mono hle⟩
    | _=>cases hf
  ·exact (h.heap j b (by rw [← hj]; exact (upd_other _ _ _ _ e).symm)).mono hle fun _ _ _=>rfl
theorem HTr.freeze {C0 C:Ctx} (h:HTr C0 C) {k:Nat} {blk blk':Blk} (hk:C.H k = some blk) (hf:blk.frozen = some blk') (hle:C.le (C.froz k blk')):HTr C0 (C.froz k blk'):=by
 obtain ⟨hl,hl',hv⟩:=Blk.frozen_live hf
 refine ⟨h.le.trans hle,h.grows,fun b hb=>?_,fun j b g hj hb eg=>?_⟩
 ·rcases hb with hb | hb
  ·exact h.hS b hb
  ·exact .inr (h.hown k blk b hk hl hb)
 ·by_cases e:j = k
  ·subst e
   have hj:upd C.H j (some blk') j = some b:=hj
   rw [upd_same] at hj
   cases hj
   rw [hl'] at hb; cases hb
  ·exact h.hown j b g (by rw [← hj]; exact (upd_other _ _ _ _ e).symm) hb eg
theorem HOk.setCell {C:Ctx} (h:HOk C) {k v i:Nat} {t:TypeId} {cells:List AV} {x y:AV} (hk:C.H k = some (.box v t cells)) (hi:cells[i]? = some x) (hy:∀ u,R C x u → R C y u) (hc:y.cell = true) :
  HOk ⟨upd C.H k (some (.box v t (cells.set i y))),C.own,C.S,C.w,C.l⟩ ∧ C.le ⟨upd C.H k (some (.box v t (cells.set i y))),C.own,C.S,C.w,C.l⟩:=by
 have hle:C.le ⟨upd C.H k (some (.box v t (cells.set i y))),C.own,C.S,C.w,C.l⟩:=by
  refine ⟨fun b hb=>⟨hb,rfl⟩,fun j blk hj=>?_,rfl⟩
  by_cases e:j = k
  ·subst e
   rw [hk] at hj
   cases hj
   refine ⟨_,upd_same _ _ _,Nat.le_refl _,fun _ r u hu=>?_⟩
   cases ho:C.own j <;> rw [ho] at hu <;> cases r <;> exact hu
  ·exact ⟨blk,by rw [show (⟨upd C.H k (some (.box v t (cells.set i y))),C.own,C.S,C.w,C.l⟩:Ctx).H j = C.H j from upd_other _ _ _ _ e]; exact hj,Nat.le_refl _,fun _ r u hu=>hu⟩
 have old:∀ j blk,upd C.H k (some (.box v t (cells.set i y))) j = some blk → blk.live = true → ∃ b,C.H j = some b ∧ b.live = true:=fun j blk hj hl=>by
  by_cases e:j = k
  ·subst e; exact ⟨_,hk,rfl⟩
  ·rw [upd_other _ _ _ _ e] at hj; exact ⟨blk,hj,hl⟩
 refine ⟨⟨h.hS,fun j blk g hj hl e=>?_,fun j j' blk blk' g hj hj' hl hl' e e'=>?_,fun j blk hj=>?_⟩,hle⟩
 ·obtain ⟨b,q1,q2⟩:=old j blk hj hl
  exact h.hown j b g q1 q2 e
 ·obtain ⟨b,q1,q2⟩:=old j blk hj hl
  obtain ⟨b',p1,p2⟩:=old j' blk' hj' hl'
  exact h.inj j j' b b' g q1 p1 q2 p2 e e'
 ·have hj:upd C.H k (some (.box v t (cells.set i y))) j = some blk:=hj
  by_cases e:j = k
  ·subst e
   rw [upd_same] at hj
   cases hj
   have hh:=h.heap j _ hk
   show HRel _ (C.own j) _
   cases ho:C.own j with
   | none=>rw [ho] at hh; exact hh.elim
   | some g=>
    rw [ho] at hh
    obtain ⟨cs,h1,h2,h3⟩:=hh
    exact ⟨cs,h1,by rw [List.length_set]; exact h2,h3.setCell hle hi (fun u hu=>(hy u hu).mono hle) hc⟩
  ·rw [upd_other _ _ _ _ e] at hj
   exact (h.heap j blk hj).mono hle fun _ _ _=>rfl
theorem HOk.kill {C:Ctx} (h:HOk C) {k:Nat} {blk:Blk} (hk:C.H k = some blk) :
  HOk ⟨upd C.H k (some (.dead blk.ver)),C.own,C.S,C.w,C.l⟩ ∧ C.le ⟨upd C.H k (some (.dead blk.ver)),C.own,C.S,C.w,C.l⟩:=by
 have hle:C.le ⟨upd C.H k (some (.dead blk.ver)),C.own,C.S,C.w,C.l⟩:=by
  refine ⟨fun b hb=>⟨hb,rfl⟩,fun j b hj=>?_,rfl⟩
  by_cases e:j = k
  ·subst e
   rw [hk] at hj
   cases hj
   refine ⟨_,upd_same _ _ _,Nat.le_refl _,fun _ r u hu=>?_⟩
   cases ho:C.own j <;> cases r <;> exact trivial
  ·exact ⟨b,(upd_other _ _ _ _ e).trans hj,Nat.le_refl _,fun _ r u hu=>hu⟩
 have old:∀ j b,upd C.H k (some (.dead blk.ver)) j = some b → b.live = true → C.H j = some b:=fun j b hj hl=>by
  by_cases e:j = k
  ·subst e; rw [upd_same] at hj; cases hj; cases hl
  ·rw [upd_other _ _ _ _ e] at hj; exact hj
 refine ⟨⟨h.hS,fun j b g hj hl e=>h.hown j b g (old j b hj hl) hl e,fun j j' b b' g hj hj' hl hl' e e'=>h.inj j j' b b' g (old j b hj hl) (old j' b' hj' hl') hl hl' e e',fun j b hj=>?_⟩,hle⟩
 by_cases e:j = k
 ·subst e
  have hj:upd C.H j (some (.dead blk.ver)) j = some b:=hj
  rw [upd_same] at hj
  cases hj
  show HRel _ (C.own j) _
  cases C.own j <;> trivial
 ·exact (h.heap j b ((upd_other _ _ _ _ e).symm.trans hj)).mono hle fun _ _ _=>rfl
theorem hls_dead (l:List (Nat × Blk)) (vs:Nat → Nat) (k v:Nat):upd (hls l vs) k (some (.dead v)) = hls (dropK [k] l) fun j=>if j = k then v else vs j:=by
 funext j
 by_cases e:j = k
 ·subst e
  rw [upd_same,hls_none (by rw [lookB_dropK,if_pos (by simp)])]
  simp
 ·rw [upd_other _ _ _ _ e]
  unfold hls
  rw [lookB_dropK,if_neg (by simp [e])]
  simp only [if_neg e]
theorem HSpecL.looseF {P:Program} {f:FuncId} {args:List AV} {l:List (Nat × Blk)} {Q Q':AV → List (Nat × Blk) → Prop} (h:HSpecL P f args l Q)
  (hq:∀ r l0,Q r l0 → ∃ k v t cells i k2 v2 t2 sz rows,lookB l0 k = some (.box v t cells) ∧ cells[i]? = some (.ref k2 v2 .o) ∧ lookB l0 k2 = some (.row v2 t2 sz rows) ∧ Q' r (dropK [k2] (insH (insH l0 k2 (.froz v2 rows)) k (.box v t (cells.set i (.sl rows)))))):HSpecL P f args l Q':=fun vs=>
 ⟨(h vs).enters,fun C us hH hC hR=>((h vs).calls C us hH hC hR).mono fun e w' ⟨v,r,C',h1,h2,h3,h4,h5,l0,vs',h6,h7⟩=>by
  obtain ⟨k,vb,t,cells,i,k2,v2,t2,sz,rows,q1,q2,q3,q4⟩:=hq r l0 h7
  have hk:C'.H k = some (.box vb t cells):=by rw [h6]; exact hls_some q1
  have hk2:C'.H k2 = some (.row v2 t2 sz rows):=by rw [h6]; exact hls_some q3
  have hne:k ≠ k2:=fun e=>by rw [e,hk2] at hk; cases hk
  obtain ⟨a1,a2⟩:=h3.freeze hk2 (blk':=.froz v2 rows) rfl
  have a3:=h4.freeze hk2 (blk':=.froz v2 rows) rfl a2
  have hkf:(C'.froz k2 (.froz v2 rows)).H k2 = some (.froz v2 rows):=upd_same _ _ _
  have hkk:(C'.froz k2 (.froz v2 rows)).H k = some (.box vb t cells):=(upd_other _ _ _ _ hne).trans hk
  obtain ⟨b1,b2⟩:=a1.setCell (y:=.sl rows) hkk q2 (fun u hu=>by
   have hp:pur0 (C'.froz k2 (.froz v2 rows)).H (.ref k2 v2 .o) = .sl rows:=by show (match (C'.froz k2 (.froz v2 rows)).H k2 with | some (.froz v rows)=>if v = v2 then AV.sl rows else AV.any | x=>AV.ref k2 v2 .o) = _; rw [hkf]; exact if_pos rfl
   have:=hu.pur0 a1.heap
   rw [hp] at this
   exact this) rfl
  have hkb:(⟨upd (C'.froz k2 (.froz v2 rows)).H k (some (.box vb t (cells.set i (.sl rows)))),C'.own,(C'.froz k2 (.froz v2 rows)).S,C'.w,C'.l⟩:Ctx).H k2 = some (.froz v2 rows):=(upd_other _ _ _ _ (Ne.symm hne)).trans hkf
  obtain ⟨c1,c2⟩:=b1.kill hkb
  have hle:=b2.trans c2
  refine ⟨v,r,_,h1,?_,c1,a3.to hle rfl rfl fun j blk g hj hl e=>?_,h5.mono (a2.trans hle),_,fun j=>if j = k2 then v2 else vs' j,?_,q4⟩
  ·exact h2
  ·have hj:upd (upd (C'.froz k2 (.froz v2 rows)).H k (some (.box vb t (cells.set i (.sl rows))))) k2 (some (.dead v2)) j = some blk:=hj
   by_cases e2:j = k2
   ·subst e2; rw [upd_same] at hj; cases hj; cases hl
   ·rw [upd_other _ _ _ _ e2] at hj
    by_cases ej:j = k
    ·subst ej; exact ⟨_,hkk,rfl,e⟩
    ·rw [upd_other _ _ _ _ ej] at hj; exact ⟨blk,hj,hl,e⟩
  ·show upd (upd (upd C'.H k2 (some (.froz v2 rows))) k _) k2 (some (.dead v2)) = _
   rw [h6,upd_hls,upd_hls,hls_dead]⟩
theorem HOk.rekey {C:Ctx} (h:HOk C) {k v i a b va vb sz:Nat} {t tb:TypeId} {cells:List AV} {rows:List (List AV)} {ba:Blk} (hk:C.H k = some (.box v t cells)) (hi:cells[i]? = some (.ref b vb .o)) (hb:C.H b = some (.row vb tb sz rows))
  (ha:C.H a = some ba) (hva:va = ba.ver + 1) (hab:a ≠ b) (hka:k ≠ a) :
  HOk ⟨upd (upd (upd C.H k (some (.box v t (cells.set i (.ref a va .o))))) b (some (.dead vb))) a (some (.row va tb sz rows)),upd C.own a (C.own b),C.S,C.w,C.l⟩ ∧
   C.le ⟨upd (upd (upd C.H k (some (.box v t (cells.set i (.ref a va .o))))) b (some (.dead vb))) a (some (.row va tb sz rows)),upd C.own a (C.own b),C.S,C.w,C.l⟩:=by
 have hkb:k ≠ b:=fun e=>by rw [e,hb] at hk; cases hk
 obtain ⟨C',hC'⟩:∃ C',C' = (⟨upd (upd (upd C.H k (some (.box v t (cells.set i (.ref a va .o))))) b (some (.dead vb))) a (some (.row va tb sz rows)),upd C.own a (C.own b),C.S,C.w,C.l⟩:Ctx):=⟨_,rfl⟩
 rw [← hC']
 have Ha:C'.H a = some (.row va tb sz rows):=by rw [hC']; exact upd_same _ _ _
 have Hb:C'.H b = some (.dead vb):=by rw [hC']; exact (upd_other _ _ _ _ (Ne.symm hab)).trans (upd_same _ _ _)
 have Hk:C'.H k = some (.box v t (cells.set i (.ref a va .o))):=by rw [hC']; exact (upd_other _ _ _ _ hka).trans ((upd_other _ _ _ _ hkb).trans (upd_same _ _ _))
 have H0:∀ j,j ≠ k → j ≠ a → j ≠ b → C'.H j = C.H j:=fun j e1 e2 e3=>by rw [hC']; exact (upd_other _ _ _ _ e2).trans ((upd_other _ _ _ _ e3).trans (upd_other _ _ _ _ e1))
 have Oa:C'.own a = C.own b:=by rw [hC']; exact upd_same _ _ _
 have O0:∀ j,j ≠ a → C'.own j = C.own j:=fun j e=>by rw [hC']; exact upd_other _ _ _ _ e
 have hw:C'.w = C.w:=by rw [hC']
 have hS:C'.S = C.S:=by rw [hC']
 have hle:C.le C':=by
  refine ⟨fun b hb=>⟨by rw [hS]; exact hb,by rw [hw]⟩,fun j blk hj=>?_,by rw [hC']⟩
  by_cases e2:j = a
  ·subst e2
   rw [ha] at hj
   cases hj
   exact ⟨_,Ha,by rw [hva]; exact Nat.le_succ _,fun e=>by rw [hva] at e; exact absurd e (Nat.succ_ne_self _)⟩
  ·by_cases e3:j = b
   ·subst e3
    rw [hb] at hj
    cases hj
    refine ⟨_,Hb,Nat.le_refl _,fun _ r u hu=>?_⟩
    cases C'.own j <;> cases r <;> exact trivial
   ·by_cases e1:j = k
    ·subst e1
     rw [hk] at hj
     cases hj
     refine ⟨_,Hk,Nat.le_refl _,fun _ r u hu=>?_⟩
     rw [O0 j e2,hw]
     cases ho:C.own j <;> rw [ho] at hu <;> cases r <;> exact hu
    ·exact ⟨blk,(H0 j e1 e2 e3).trans hj,Nat.le_refl _,fun _ r u hu=>by rw [O0 j e2,hw]; exact hu⟩
  -- a live block is one that was live, maybe under another key
 have old:∀ j blk g,C'.H j = some blk → blk.live = true → C'.own j = some g → ∃ b',C.H (if j = a then b else j) = some b' ∧ b'.live = true ∧ C.own (if j = a then b else j) = some g ∧ j ≠ b:=fun j blk g hj hl e=>by
  by_cases e2:j = a
  ·subst e2; rw [Oa] at e; rw [if_pos rfl]; exact ⟨_,hb,rfl,e,hab⟩
  ·rw [O0 j e2] at e
   rw [if_neg e2]
   by_cases e3:j = b
   ·subst e3; rw [Hb] at hj; cases hj; cases hl
   ·by_cases e1:j = k
    ·subst e1; exact ⟨_,hk,rfl,e,e3⟩
    ·rw [H0 j e1 e2 e3] at hj; exact ⟨blk,hj,hl,e,e3⟩
 refine ⟨⟨fun b hb=>by rw [hS] at hb; rw [hw]; exact h.hS b hb,fun j blk g hj hl e=>?_,fun j j' blk blk' g hj hj' hl hl' e e'=>?_,fun j blk hj=>?_⟩,hle⟩
 ·obtain ⟨b',q1,q2,q3,-⟩:=old j blk g hj hl e
  rw [hw,hS]
  exact h.hown _ b' g q1 q2 q3
 ·obtain ⟨c,q1,q2,q3,q4⟩:=old j blk g hj hl e
  obtain ⟨c',p1,p2,p3,p4⟩:=old j' blk' g hj' hl' e'
  have:=h.inj _ _ c c' g q1 p1 q2 p2 q3 p3
  by_cases e1:j = a <;> by_cases e2:j' = a
  ·rw [e1,e2]
  ·rw [if_pos e1,if_neg e2] at this; exact absurd this.symm p4
  ·rw [if_neg e1,if_pos e2] at this; exact absurd this q4
  ·rw [if_neg e1,if_neg e2] at this; exact this
 ·by_cases e2:j = a
  ·subst e2
   rw [Ha] at hj
   cases hj
   rw [Oa]
   have hh:=(h.heap b _ hb).mono hle fun _ _ _=>by rw [hw]
   cases ho:C.own b <;> rw [ho] at hh <;> exact hh
  ·rw [O0 j e2]
   by_cases e3:j = b
   ·subst e3
    rw [Hb] at hj
    cases hj
    cases C.own j <;> trivial
   ·by_cases e1:j = k
    ·subst e1
     rw [Hk] at hj
     cases hj
     have hh:=h.heap j _ hk
     cases ho:C.own j with
     | none=>rw [ho] at hh; exact hh.elim
     | some g=>
      rw [ho] at hh
      obtain ⟨cs,h1,h2,h3⟩:=hh
      refine ⟨cs,by rw [hw]; exact h1,by rw [List.length_set]; exact h2,h3.setCell hle hi (fun u hu=>?_) rfl⟩
      cases hu with
      | ref _ _ _ blk' _ hb' hv' hone hr'=>
       rw [hb] at hb'
       cases hb'
       refine .ref a va .o _ u Ha (Nat.le_refl _) hone fun _=>?_
       have:=hr' rfl
       rw [Oa,hw]
       cases ho:C.own b <;> rw [ho] at this <;> exact this
    ·rw [H0 j e1 e2 e3] at hj
     exact (h.heap j blk hj).mono hle fun _ _ _=>by rw [hw]
theorem HSpecL.rekey {P:Program} {f:FuncId} {args:List AV} {l:List (Nat × Blk)} {Q Q':AV → List (Nat × Blk) → Prop} (h:HSpecL P f args l Q)
  (hq:∀ r l0,Q r l0 → ∃ k v t cells i a b vb tb sz rows,lookB l0 k = some (.box v t cells) ∧ cells[i]? = some (.ref b vb .o) ∧ lookB l0 b = some (.row vb tb sz rows) ∧ a ≠ b ∧ k ≠ a ∧
   ∀ va,Q' r (insH (dropK [b] (insH l0 k (.box v t (cells.set i (.ref a va .o))))) a (.row va tb sz rows))):HSpecL P f args l Q':=fun vs=>
 ⟨(h vs).enters,fun C us hH hC hR=>((h vs).calls C us hH hC hR).mono fun e w' ⟨v,r,C',h1,h2,h3,h4,h5,l0,vs',h6,h7⟩=>by
  obtain ⟨k,vk,t,cells,i,a,b,vb,tb,sz,rows,q1,q2,q3,q4,q5,q6⟩:=hq r l0 h7
  have hk:C'.H k = some (.box vk t cells):=by rw [h6]; exact hls_some q1
  have hb:C'.H b = some (.row vb tb sz rows):=by rw [h6]; exact hls_some q3
  obtain ⟨ba,ha⟩:∃ ba,C'.H a = some ba:=by
   rw [h6]
   cases e:lookB l0 a with
   | none=>exact ⟨_,hls_none e⟩
   | some x=>exact ⟨_,hls_some e⟩
  have hkb:k ≠ b:=fun e=>by rw [e,hb] at hk; cases hk
  obtain ⟨g1,g2⟩:=h3.rekey hk q2 hb ha rfl q4 q5
  refine ⟨v,r,_,h1,?_,g1,?_,h5.mono g2,_,fun j=>if j = b then vb else vs' j,?_,q6 (ba.ver + 1)⟩
  ·exact h2
  ·refine ⟨h4.le.trans g2,h4.grows,h4.hS,fun j blk g hj hl e=>?_⟩
   have hj:upd (upd (upd C'.H k (some (.box vk t (cells.set i (.ref a (ba.ver + 1) .o))))) b (some (.dead vb))) a (some (.row (ba.ver + 1) tb sz rows)) j = some blk:=hj
   have e:upd C'.own a (C'.own b) j = some g:=e
   by_cases e2:j = a
   ·subst e2; rw [upd_same] at e; exact h4.hown b _ g hb rfl e
   ·rw [upd_other _ _ _ _ e2] at hj e
    have e9:C'.own j = some g:=e
    by_cases e3:j = b
    ·subst e3; rw [upd_same] at hj; cases hj; cases hl
    ·rw [upd_other _ _ _ _ e3] at hj
     by_cases ej:j = k
     ·subst ej; exact h4.hown j _ g hk rfl e9
     ·rw [upd_other _ _ _ _ ej] at hj; exact h4.hown j blk g hj hl e9
  ·show upd (upd (upd C'.H k _) b _) a _ = _
   rw [h6,upd_hls,hls_dead,upd_hls]⟩
theorem HSpecL.froz {P:Program} {f:FuncId} {args:List AV} {l:List (Nat × Blk)} {Q:AV → List (Nat × Blk) → Prop} {k v sz:Nat} {t:TypeId} {rows:List (List AV)} (hk:lookB l k = some (.row v t sz rows)) (h:HSpecL P f args (insH l k (.froz v rows)) Q):HSpecL P f args l Q:=fun vs=>
 ⟨(h vs).enters,fun C us hH hC hR=>by
  have hkc:C.H k = some (.row v t sz rows):=by rw [hH]; exact hls_some hk
  obtain ⟨a1,a2⟩:=hC.freeze hkc (blk':=.froz v rows) rfl
  have live:∀ g,LiveC (C.froz k (.froz v rows)) g → LiveC C g:=fun g ⟨j,blk,hj,hl,e⟩=>by
   have hj:upd C.H k (some (.froz v rows)) j = some blk:=hj
   by_cases e2:j = k
   ·subst e2; rw [upd_same] at hj; cases hj; cases hl
   ·rw [upd_other _ _ _ _ e2] at hj; exact ⟨j,blk,hj,hl,e⟩
  refine ((h vs).calls (C.froz k (.froz v rows)) us (by show upd C.H k _ = _; rw [hH,upd_hls]) a1 ⟨hR.1,fun i a ha=>(hR.2 i a ha).mono a2⟩).mono fun e w' ⟨v1,r,C',h1,h2,h3,h4,h5,h6⟩=>⟨v1,r,C',h1,h2,h3,⟨a2.trans h4.le,?_,fun b hb=>?_,fun j blk g hj hl e=>?_⟩,h5,h6⟩
  ·obtain ⟨x1,x2,x3,x4,x5⟩:=h4.grows
   exact ⟨x1,x2,x3,x4,fun b hb hn=>x5 b hb fun hl=>hn (live b hl)⟩
  ·rcases h4.hS b hb with (hb | hb) | hb | hb
   ·exact .inl hb
   ·exact .inr (.inl ⟨k,_,hkc,rfl,hb⟩)
   ·exact .inr (.inl (live b hb))
   ·exact .inr (.inr hb)
  ·rcases h4.hown j blk g hj hl e with hb | hb
   ·exact .inl (live g hb)
   ·exact .inr hb⟩
theorem HOk.newNil {C:Ctx} (h:HOk C) {k vd sz:Nat} {t:TypeId} (hk:C.H k = some (.dead vd)) (hsz:0 < sz) :
  HOk ⟨upd C.H k (some (.row (vd + 1) t sz [])),upd C.own k none,C.S,C.w,C.l⟩ ∧ C.le ⟨upd C.H k (some (.row (vd + 1) t sz [])),upd C.own k none,C.S,C.w,C.l⟩:=by
 obtain ⟨C',hC'⟩:∃ C',C' = (⟨upd C.H k (some (.row (vd + 1) t sz [])),upd C.own k none,C.S,C.w,C.l⟩:Ctx):=⟨_,rfl⟩
 rw [← hC']
 have H2:C'.H k = some (.row (vd + 1) t sz []):=by rw [hC']; exact upd_same _ _ _
 have H0:∀ j,j ≠ k → C'.H j = C.H j:=fun j e=>by rw [hC']; exact upd_other _ _ _ _ e
 have O2:C'.own k = none:=by rw [hC']; exact upd_same _ _ _
 have O0:∀ j,j ≠ k → C'.own j = C.own j:=fun j e=>by rw [hC']; exact upd_other _ _ _ _ e
 have hw:C'.w = C.w:=by rw [hC']
 have hS:C'.S = C.S:=by rw [hC']
 have hle:C.le C':=by
  refine ⟨fun b hb=>⟨by rw [hS]; exact hb,by rw [hw]⟩,fun j blk hj=>?_,by rw [hC']⟩
  by_cases e:j = k
  ·subst e
   rw [hk] at hj
   cases hj
   exact ⟨_,H2,Nat.le_succ _,fun e=>by simp [Blk.ver] at e⟩
  ·exact ⟨blk,(H0 j e).trans hj,Nat.le_refl _,fun _ r u hu=>by rw [O0 j e,hw]; exact hu⟩
 have old:∀ j blk g,C'.H j = some blk → C'.own j = some g → C.H j = some blk ∧ C.own j = some g:=fun j blk g hj e=>by
  by_cases e2:j = k
  ·subst e2; rw [O2] at e; cases e
  ·rw [O0 j e2] at e; rw [H0 j e2] at hj; exact ⟨hj,e⟩
 refine ⟨⟨fun b hb=>by rw [hS] at hb; rw [hw]; exact h.hS b hb,fun j blk g hj hl e=>?_,fun j j' blk blk' g hj hj' hl hl' e e'=>?_,fun j blk hj=>?_⟩,hle⟩
 ·obtain ⟨q1,q2⟩:=old j blk g hj e
  rw [hw,hS]
  exact h.hown j blk g q1 hl q2
 ·obtain ⟨q1,q2⟩:=old j blk g hj e
  obtain ⟨p1,p2⟩:=old j' blk' g hj' e'
  exact h.inj j j' blk blk' g q1 p1 hl hl' q2 p2
 ·by_cases e2:j = k
  ·subst e2
   rw [H2] at hj
   cases hj
   rw [O2]
   exact ⟨rfl,hsz⟩
  ·rw [H0 j e2] at hj
   rw [O0 j e2]
   exact (h.heap j blk hj).mono hle fun _ _ _=>by rw [hw]
theorem HSpecL.nilR {P:Program} {f:FuncId} {args:List AV} {l:List (Nat × Blk)} {Q Q':AV → List (Nat × Blk) → Prop} (h:HSpecL P f args l Q)
  (hq:∀ r l0,Q r l0 → Q' r l0 ∨ r = .nils ∧ ∃ k t sz,lookB l0 k = none ∧ 0 < sz ∧ ∀ v,Q' (.ref k v .o) (insH l0 k (.row v t sz []))):HSpecL P f args l Q':=fun vs=>
 ⟨(h vs).enters,fun C us hH hC hR=>((h vs).calls C us hH hC hR).mono fun e w' ⟨v,r,C',h1,h2,h3,h4,h5,l0,vs',h6,h7⟩=>by
  rcases hq r l0 h7 with hq | ⟨rfl,k,t,sz,q1,q2,q3⟩
  ·exact ⟨v,r,C',h1,h2,h3,h4,h5,l0,vs',h6,hq⟩
  ·have hk:C'.H k = some (.dead (vs' k)):=by rw [h6]; exact hls_none q1
   obtain ⟨g1,g2⟩:=h3.newNil (t:=t) hk q2
   have hv:v = .slice none 0 0:=by cases h5; rfl
   subst hv
   refine ⟨_,.ref k (vs' k + 1) .o,_,h1,?_,g1,h4.to g2 rfl rfl fun j blk g hj hl e=>?_,.ref k (vs' k + 1) .o _ _ (upd_same _ _ _) (Nat.le_refl _) rfl fun _=>?_,insH l0 k (.row (vs' k + 1) t sz []),vs',?_,q3 (vs' k + 1)⟩
   ·exact h2
   ·have hj:upd C'.H k (some (.row (vs' k + 1) t sz [])) j = some blk:=hj
    have e:upd C'.own k none j = some g:=e
    by_cases e2:j = k
    ·subst e2; rw [upd_same] at e; cases e
    ·rw [upd_other _ _ _ _ e2] at hj e
     exact ⟨blk,hj,hl,e⟩
   ·show RefVal _ (upd C'.own k none k) _ _ _
    rw [upd_same]; rfl
   ·show upd C'.H k _ = _
    rw [h6,upd_hls]⟩
end Go.Am
