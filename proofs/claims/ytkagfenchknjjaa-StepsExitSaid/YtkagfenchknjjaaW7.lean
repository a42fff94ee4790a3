import Derived.Test.YtkagfenchknjjaaAmSimp
import Derived.Test.YtkagfenchknjjaaProg
import Derived.KernelRfl
set_option linter.unusedVariables false
namespace Go.Proofs.Ytkagfenchknjjaa
open Go Go.Am
-- 60 "penance/term.Norm$1"

def W60 (P : Program) (Φ : Exit → St → Prop) (s : St) : Prop :=
  @sOp (some 1) (xBox 1 34 (s.τ 0) s.H) s <| .mk fun s =>
  @sOp (some 2) (xMov (.bool false) s.H) s <| .mk fun s =>
  @sOp (some 3) (xFld 0 (s.τ 1) s.H) s <| .mk fun s =>
  @sOp (some 4) (xLoad 1 false (s.τ 3) s.H) s <| .mk fun s =>
  @sOp (some 5) (xBin .eql false (s.τ 4) (.int .i64 0) s.H) s <| .mk fun s =>
  @sOp (some 2) (xMov (s.τ 5) s.H) s <| .mk fun s =>
  Φ .ret s
theorem W60_rs (τ : Nat → AV) (H : Heap) : resV Try.prog τ H [.tmp 2] = some (τ 2) := by kernel_rfl
theorem W60_eq (Φ : Exit → St → Prop) (s : St) : awp Try.prog (Try.f60.body.getD .skip) Φ s = W60 Try.prog Φ s := by kernel_rfl

-- 61 "penance/term.own"
def W61_c1 (P : Program) (Φ : Exit → St → Prop) (u4 : St) (s : St) : Prop :=
  @sChk (compat ([27] ++ (occ (.func 83 []) ++ occL [(u4.τ 26)]), [27] ++ (occ (.func 83 []) ++ occL [(u4.τ 26)])) (occ (s.τ 1), [])) <| .mk <|
  @sOp (some 28) (xFld 8 (s.τ 1) s.H) s <| .mk fun u6 =>
  @sOp none (xStore 1 (u6.τ 28) (u6.τ 24) u6.H) u6 <| .mk fun u7 =>
  @sOp (some 29) (xFld 4 (u7.τ 1) u7.H) u7 <| .mk fun u8 =>
  @sOp none (xStore 4 (u8.τ 29) (u8.τ 27) u8.H) u8 <| .mk fun s =>
  @sOp (some 30) (xLoad 9 true (s.τ 1) s.H) s <| .mk fun s =>
  @sOp none (xStore 9 (s.τ 2) (s.τ 30) s.H) s <| .mk fun s =>
  Φ .ret s
def W61_c2 (P : Program) (Φ : Exit → St → Prop) (u1 : St) (s : St) : Prop :=
  @sChk (compat ([24] ++ (occ (.func 82 []) ++ occL [(u1.τ 23)]), [24] ++ (occ (.func 82 []) ++ occL [(u1.τ 23)])) (occ (s.τ 1), [])) <| .mk <|
  @sOp (some 25) (xFld 4 (s.τ 1) s.H) s <| .mk fun u3 =>
  @sChk (compat ([24] ++ (occ (.func 82 []) ++ occL [(u1.τ 23)]), [24] ++ (occ (.func 82 []) ++ occL [(u1.τ 23)])) (occ (u3.τ 25), [])) <| .mk <|
  @sOp (some 26) (xLoad 4 true (u3.τ 25) u3.H) u3 <| .mk fun u4 =>
  @sCall0 P (.func 83 []) [(u4.τ 26)] (some 27) u4 ⟨W61_c1 P Φ u4⟩
def W61_k3 (P : Program) (Φ : Exit → St → Prop) (s : St) : Prop :=
  @sOp (some 23) (xMov (s.τ 3) s.H) s <| .mk fun u1 =>
  @sCall0 P (.func 82 []) [(u1.τ 23)] (some 24) u1 ⟨W61_c2 P Φ u1⟩
def W61_c4 (P : Program) (Φ : Exit → St → Prop) (L0 : St → Prop) (s : St) : Prop :=
  @sOp (some 20) (xLit 9 1 [.int .i64 0, .int .i64 0, .int .i64 0, .str ⟨#[]⟩, .int .i64 0, .int .i64 0, .str ⟨#[]⟩, .nils, .nils] [(0, (s.τ 19))] s.H) s <| .mk fun s =>
  @sOp (some 21) (xApp P 34 9 120 (some 21) (s.τ 17) (s.τ 20) s.H) s <| .mk fun s =>
  @sOp (some 3) (xMov (s.τ 21) s.H) s <| .mk fun s =>
  @sOp (some 22) (xBin .add false (s.τ 13) (.int .i64 1) s.H) s <| .mk fun s =>
  @sOp (some 13) (xMov (s.τ 22) s.H) s <| .mk fun s =>
  L0 s
def W61_b5 (P : Program) (Φ : Exit → St → Prop) (L0 : St → Prop) (s : St) : Prop :=
  @sOp (some 15) (xIx 9 (s.τ 11) (s.τ 13) s.H) s <| .mk fun s =>
  @sOp (some 16) (xLoad 9 true (s.τ 15) s.H) s <| .mk fun s =>
  @sOp (some 5) (xAlloc 5 34 [.int .i64 0, .int .i64 0, .int .i64 0, .str ⟨#[]⟩, .int .i64 0, .int .i64 0, .str ⟨#[]⟩, .nils, .nils] s.H) s <| .mk fun s =>
  @sOp none (xStore 9 (s.τ 5) (s.τ 16) s.H) s <| .mk fun s =>
  @sOp (some 17) (xMov (s.τ 3) s.H) s <| .mk fun s =>
  @sOp (some 18) (xLoad 9 true (s.τ 5) s.H) s <| .mk fun s =>
  @sCall P (.func 61 []) [(s.τ 18)] (some 19) s ⟨W61_c4 P Φ L0⟩
def W61_l6 (P : Program) (Φ : Exit → St → Prop) (L0 : St → Prop) (s : St) : Prop :=
  @sOp (some 14) (xBin .lss false (s.τ 13) (s.τ 12) s.H) s <| .mk fun s =>
  @sIf (s.τ 14) ⟨W61_b5 P Φ L0 s⟩ ⟨W61_k3 P Φ s⟩
def W61 (P : Program) (Φ : Exit → St → Prop) (s : St) : Prop :=
  @sOp (some 1) (xBox 1 34 (s.τ 0) s.H) s <| .mk fun s =>
  @sOp (some 2) (xAlloc 2 34 [.int .i64 0, .int .i64 0, .int .i64 0, .str ⟨#[]⟩, .int .i64 0, .int .i64 0, .str ⟨#[]⟩, .nils, .nils] s.H) s <| .mk fun s =>
  @sOp (some 6) (xFld 8 (s.τ 1) s.H) s <| .mk fun s =>
  @sOp (some 7) (xLoad 1 false (s.τ 6) s.H) s <| .mk fun s =>
  @sOp (some 8) (xLen (s.τ 7) s.H) s <| .mk fun s =>
  @sOp (some 9) (xMks 9 34 9 120 [.int .i64 0, .int .i64 0, .int .i64 0, .str ⟨#[]⟩, .int .i64 0, .int .i64 0, .str ⟨#[]⟩, .nils, .nils] (.int .i64 0) (s.τ 8) s.H) s <| .mk fun s =>
  @sOp (some 3) (xMov (s.τ 9) s.H) s <| .mk fun s =>
  @sOp (some 10) (xFld 8 (s.τ 1) s.H) s <| .mk fun s =>
  @sOp (some 11) (xLoad 1 false (s.τ 10) s.H) s <| .mk fun s =>
  @sOp (some 12) (xLen (s.τ 11) s.H) s <| .mk fun s =>
  @sOp (some 13) (xMov (.int .i64 0) s.H) s <| .mk fun s =>
  @sLoop s ⟨fun L0 s => W61_l6 P Φ L0 s⟩
theorem W61_rs (τ : Nat → AV) (H : Heap) : resV Try.prog τ H [.cell 2 34] = rdV H 9 true (τ 2) := by kernel_rfl
theorem W61_eq (Φ : Exit → St → Prop) (s : St) : awp Try.prog (Try.f61.body.getD .skip) Φ s = W61 Try.prog Φ s := by kernel_rfl

-- 62 "penance/term.active"

def W62 (P : Program) (Φ : Exit → St → Prop) (s : St) : Prop :=
  @sOp (some 1) (xBox 1 34 (s.τ 0) s.H) s <| .mk fun s =>
  @sOp (some 2) (xMov (.nilf) s.H) s <| .mk fun s =>
  @sOp (some 3) (xMkf 84 [(s.τ 1)] s.H) s <| .mk fun s =>
  @sOp (some 2) (xMov (s.τ 3) s.H) s <| .mk fun s =>
  Φ .ret s
theorem W62_rs (τ : Nat → AV) (H : Heap) : resV Try.prog τ H [.tmp 2] = some (τ 2) := by kernel_rfl
theorem W62_eq (Φ : Exit → St → Prop) (s : St) : awp Try.prog (Try.f62.body.getD .skip) Φ s = W62 Try.prog Φ s := by kernel_rfl


end Go.Proofs.Ytkagfenchknjjaa
