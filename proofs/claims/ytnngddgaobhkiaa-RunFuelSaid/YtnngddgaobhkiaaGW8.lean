import Derived.Test.YtnngddgaobhkiaaGA5
import Derived.Test.YtnngddgaobhkiaaProg
import Derived.KernelRfl
set_option linter.unusedVariables false
set_option maxRecDepth 100000
namespace Go.Proofs.Ytnngddgaobhkiaa
open Go Go.Am
-- 68 "penance/term.shapes"

def W68 (Φ : EP) (s : St) : Prop :=
  @sOp (some 0) (xMov (.nils) s.H) s <| .mk fun s =>
  @sOp (some 1) (xBuild [.int .i64 0, .int .i64 0, .bool false, .bool false, .int .i64 0] [] s.H) s <| .mk fun s =>
  @sOp (some 2) (xBuild [.int .i64 0, .int .i64 0, .bool false, .bool false, .int .i64 0] [(0, 1, (.int .i64 2)), (2, 1, (.bool true))] s.H) s <| .mk fun s =>
  @sOp (some 3) (xBuild [.int .i64 0, .int .i64 0, .bool false, .bool false, .int .i64 0] [(0, 1, (.int .i64 1)), (3, 1, (.bool true))] s.H) s <| .mk fun s =>
  @sOp (some 4) (xBuild [.int .i64 0, .int .i64 0, .bool false, .bool false, .int .i64 0] [(0, 1, (.int .i64 3)), (4, 1, (.int .i64 1))] s.H) s <| .mk fun s =>
  @sOp (some 5) (xBuild [.int .i64 0, .int .i64 0, .bool false, .bool false, .int .i64 0] [(0, 1, (.int .i64 3))] s.H) s <| .mk fun s =>
  @sOp (some 6) (xBuild [.int .i64 0, .int .i64 0, .bool false, .bool false, .int .i64 0] [(0, 1, (.int .i64 3))] s.H) s <| .mk fun s =>
  @sOp (some 7) (xBuild [.int .i64 0, .int .i64 0, .bool false, .bool false, .int .i64 0] [(0, 1, (.int .i64 3)), (1, 1, (.int .i64 3))] s.H) s <| .mk fun s =>
  @sOp (some 8) (xBuild [.int .i64 0, .int .i64 0, .bool false, .bool false, .int .i64 0] [(4, 1, (.int .i64 1))] s.H) s <| .mk fun s =>
  @sOp (some 9) (xBuild [.int .i64 0, .int .i64 0, .bool false, .bool false, .int .i64 0] [] s.H) s <| .mk fun s =>
  @sOp (some 10) (xBuild [.int .i64 0, .int .i64 0, .bool false, .bool false, .int .i64 0] [(3, 1, (.bool true)), (4, 1, (.int .i64 2))] s.H) s <| .mk fun s =>
  @sOp (some 11) (xBuild [.int .i64 0, .int .i64 0, .bool false, .bool false, .int .i64 0] [(4, 1, (.int .i64 2))] s.H) s <| .mk fun s =>
  @sOp (some 12) (xBuild [.int .i64 0, .int .i64 0, .bool false, .bool false, .int .i64 0] [(4, 1, (.int .i64 2))] s.H) s <| .mk fun s =>
  @sOp (some 13) (xBuild [.int .i64 0, .int .i64 0, .bool false, .bool false, .int .i64 0] [(4, 1, (.int .i64 2))] s.H) s <| .mk fun s =>
  @sOp (some 14) (xBuild [.int .i64 0, .int .i64 0, .bool false, .bool false, .int .i64 0] [(0, 1, (.int .i64 4))] s.H) s <| .mk fun s =>
  @sOp (some 15) (xBuild [.int .i64 0, .int .i64 0, .bool false, .bool false, .int .i64 0] [(0, 1, (.int .i64 5)), (1, 1, (.int .i64 2)), (2, 1, (.bool true))] s.H) s <| .mk fun s =>
  @sOp (some 16) (xLit 5 15 [.int .i64 0, .int .i64 0, .bool false, .bool false, .int .i64 0] [(0, (s.τ 1)), (1, (s.τ 2)), (2, (s.τ 3)), (3, (s.τ 4)), (4, (s.τ 5)), (5, (s.τ 6)), (6, (s.τ 7)), (7, (s.τ 8)), (8, (s.τ 9)), (9, (s.τ 10)), (10, (s.τ 11)), (11, (s.τ 12)), (12, (s.τ 13)), (13, (s.τ 14)), (14, (s.τ 15))] s.H) s <| .mk fun s =>
  @sMv 0 16 s <| .mk fun s =>
  Φ .ret s
theorem W68_rs (τ : Nat → AV) (H : Heap) : resV Try.prog τ H [.tmp 0] = some (τ 0) := by kernel_rfl
theorem W68_eq (Φ : EP) (s : St) : awp Try.prog (Try.f68.body.getD .skip) Φ s = W68 Φ s := by kernel_rfl
theorem W68_S {args : List AV} {r : AV} (hl : args.length ≤ 17) (h : ∀ vs, W68 (retK Try.prog [.tmp 0] r) ⟨Am.look (argT 0 args), hls [] vs, noG⟩) : Am.Spec Try.prog 68 args r := .of_W (W := W68) Try.func68 (by kernel_rfl) (by kernel_rfl) (by kernel_rfl) Try.ntmps68 W68_eq (by kernel_rfl) hl h

-- 69 "(penance/term.bounds).number"
def W69_b5 (Φ : EP) (s : St) : Prop :=
  @sMv 10 2 s <| .mk fun s =>
  @sOp (some 11) (xBin .geq false (s.τ 10) (.int .i64 0) s.H) s <| .mk fun s =>
  @sMv 12 11 s <| .mk fun s =>
  @sGm 13 2 12 true s <| .mk fun s =>
  @sGf 14 0 3 12 true s <| .mk fun s =>
  @sGl 15 1 14 12 false true s <| .mk fun s =>
  @sGo 16 12 true s (fun s => (xBin .lss false (s.τ 13) (s.τ 15) s.H)) <| .mk fun s =>
  @sOp (some 17) (xPick (s.τ 12) (s.τ 16) (.bool false) s.H) s <| .mk fun s =>
  @sMv 6 17 s <| .mk fun s =>
  Φ .ret s
def W69_b10 (Φ : EP) (s : St) : Prop :=
  @sMv 20 2 s <| .mk fun s =>
  @sOp (some 21) (xBin .geq false (s.τ 20) (.int .i64 (-1)) s.H) s <| .mk fun s =>
  @sMv 22 21 s <| .mk fun s =>
  @sGm 23 2 22 true s <| .mk fun s =>
  @sGf 24 0 3 22 true s <| .mk fun s =>
  @sGl 25 1 24 22 false true s <| .mk fun s =>
  @sGo 26 22 true s (fun s => (xBin .lss false (s.τ 23) (s.τ 25) s.H)) <| .mk fun s =>
  @sOp (some 27) (xPick (s.τ 22) (s.τ 26) (.bool false) s.H) s <| .mk fun s =>
  @sMv 6 27 s <| .mk fun s =>
  Φ .ret s
def W69_b15 (Φ : EP) (s : St) : Prop :=
  @sMv 30 2 s <| .mk fun s =>
  @sOp (some 31) (xBin .geq false (s.τ 30) (.int .i64 0) s.H) s <| .mk fun s =>
  @sMv 32 31 s <| .mk fun s =>
  @sGm 33 2 32 true s <| .mk fun s =>
  @sGf 34 1 3 32 true s <| .mk fun s =>
  @sGl 35 1 34 32 false true s <| .mk fun s =>
  @sGo 36 32 true s (fun s => (xBin .lss false (s.τ 33) (s.τ 35) s.H)) <| .mk fun s =>
  @sOp (some 37) (xPick (s.τ 32) (s.τ 36) (.bool false) s.H) s <| .mk fun s =>
  @sMv 6 37 s <| .mk fun s =>
  Φ .ret s
def W69_b20 (Φ : EP) (s : St) : Prop :=
  @sMv 40 2 s <| .mk fun s =>
  @sOp (some 41) (xBin .geq false (s.τ 40) (.int .i64 0) s.H) s <| .mk fun s =>
  @sMv 42 41 s <| .mk fun s =>
  @sGm 43 2 42 true s <| .mk fun s =>
  @sGf 44 2 3 42 true s <| .mk fun s =>
  @sGl 45 1 44 42 false true s <| .mk fun s =>
  @sGo 46 42 true s (fun s => (xBin .lss false (s.τ 43) (s.τ 45) s.H)) <| .mk fun s =>
  @sOp (some 47) (xPick (s.τ 42) (s.τ 46) (.bool false) s.H) s <| .mk fun s =>
  @sMv 6 47 s <| .mk fun s =>
  Φ .ret s
def W69_b21 (Φ : EP) (s : St) : Prop :=
  @sMv 50 2 s <| .mk fun s =>
  @sOp (some 51) (xBin .geq false (s.τ 50) (.int .i64 0) s.H) s <| .mk fun s =>
  @sMv 6 51 s <| .mk fun s =>
  Φ .ret s
def W69_b22 (Φ : EP) (s : St) : Prop :=
  @sMv 52 2 s <| .mk fun s =>
  @sOp (some 53) (xBin .eql false (s.τ 52) (.int .i64 0) s.H) s <| .mk fun s =>
  @sMv 6 53 s <| .mk fun s =>
  Φ .ret s
def W69_b23 (Φ : EP) (s : St) : Prop :=
  @sOp (some 49) (xBin .eql false (s.τ 7) (.int .i64 5) s.H) s <| .mk fun s =>
  @sMv 48 49 s <| .mk fun s =>
  @sIf (s.τ 48) ⟨W69_b21 Φ s⟩ ⟨W69_b22 Φ s⟩
def W69_b24 (Φ : EP) (s : St) : Prop :=
  @sOp (some 39) (xBin .eql false (s.τ 7) (.int .i64 4) s.H) s <| .mk fun s =>
  @sMv 38 39 s <| .mk fun s =>
  @sIf (s.τ 38) ⟨W69_b20 Φ s⟩ ⟨W69_b23 Φ s⟩
def W69_b25 (Φ : EP) (s : St) : Prop :=
  @sOp (some 29) (xBin .eql false (s.τ 7) (.int .i64 3) s.H) s <| .mk fun s =>
  @sMv 28 29 s <| .mk fun s =>
  @sIf (s.τ 28) ⟨W69_b15 Φ s⟩ ⟨W69_b24 Φ s⟩
def W69_b26 (Φ : EP) (s : St) : Prop :=
  @sOp (some 19) (xBin .eql false (s.τ 7) (.int .i64 2) s.H) s <| .mk fun s =>
  @sMv 18 19 s <| .mk fun s =>
  @sIf (s.τ 18) ⟨W69_b10 Φ s⟩ ⟨W69_b25 Φ s⟩
def W69 (Φ : EP) (s : St) : Prop :=
  @sOp (some 3) (xBox 3 98 (s.τ 0) s.H) s <| .mk fun s =>
  @sOp (some 6) (xMov (.bool false) s.H) s <| .mk fun s =>
  @sMv 7 1 s <| .mk fun s =>
  @sOp (some 9) (xBin .eql false (s.τ 7) (.int .i64 1) s.H) s <| .mk fun s =>
  @sMv 8 9 s <| .mk fun s =>
  @sIf (s.τ 8) ⟨W69_b5 Φ s⟩ ⟨W69_b26 Φ s⟩
theorem W69_rs (τ : Nat → AV) (H : Heap) : resV Try.prog τ H [.tmp 6] = some (τ 6) := by kernel_rfl
theorem W69_eq (Φ : EP) (s : St) : awp Try.prog (Try.f69.body.getD .skip) Φ s = W69 Φ s := by kernel_rfl
theorem W69_S {args : List AV} {r : AV} (hl : args.length ≤ 54) (h : ∀ vs, W69 (retK Try.prog [.tmp 6] r) ⟨Am.look (argT 0 args), hls [] vs, noG⟩) : Am.Spec Try.prog 69 args r := .of_W (W := W69) Try.func69 (by kernel_rfl) (by kernel_rfl) (by kernel_rfl) Try.ntmps69 W69_eq (by kernel_rfl) hl h

-- 70 "penance/term.none"

def W70 (Φ : EP) (s : St) : Prop :=
  @sOp (some 1) (xBox 1 27 (s.τ 0) s.H) s <| .mk fun s =>
  @sOp (some 2) (xMov (.bool false) s.H) s <| .mk fun s =>
  @sFl 3 0 1 s <| .mk fun s =>
  @sLd 4 1 3 false s <| .mk fun s =>
  @sOp (some 5) (xBin .eql false (s.τ 4) (.int .i64 0) s.H) s <| .mk fun s =>
  @sMv 6 5 s <| .mk fun s =>
  @sGf 7 1 1 6 true s <| .mk fun s =>
  @sGl 8 1 7 6 false true s <| .mk fun s =>
  @sGo 9 6 true s (fun s => (xBin .eql false (s.τ 8) (.int .i64 0) s.H)) <| .mk fun s =>
  @sOp (some 10) (xPick (s.τ 6) (s.τ 9) (.bool false) s.H) s <| .mk fun s =>
  @sMv 11 10 s <| .mk fun s =>
  @sGf 12 2 1 11 true s <| .mk fun s =>
  @sGl 13 1 12 11 false true s <| .mk fun s =>
  @sGo 14 11 true s (fun s => (xBin .eql false (s.τ 13) (.str ⟨#[]⟩) s.H)) <| .mk fun s =>
  @sOp (some 15) (xPick (s.τ 11) (s.τ 14) (.bool false) s.H) s <| .mk fun s =>
  @sMv 16 15 s <| .mk fun s =>
  @sGf 17 3 1 16 true s <| .mk fun s =>
  @sGl 18 1 17 16 false true s <| .mk fun s =>
  @sGo 19 16 true s (fun s => (xLen (s.τ 18) s.H)) <| .mk fun s =>
  @sGo 20 16 true s (fun s => (xBin .eql false (s.τ 19) (.int .i64 0) s.H)) <| .mk fun s =>
  @sOp (some 21) (xPick (s.τ 16) (s.τ 20) (.bool false) s.H) s <| .mk fun s =>
  @sMv 2 21 s <| .mk fun s =>
  Φ .ret s
theorem W70_rs (τ : Nat → AV) (H : Heap) : resV Try.prog τ H [.tmp 2] = some (τ 2) := by kernel_rfl
theorem W70_eq (Φ : EP) (s : St) : awp Try.prog (Try.f70.body.getD .skip) Φ s = W70 Φ s := by kernel_rfl
theorem W70_S {args : List AV} {r : AV} (hl : args.length ≤ 22) (h : ∀ vs, W70 (retK Try.prog [.tmp 2] r) ⟨Am.look (argT 0 args), hls [] vs, noG⟩) : Am.Spec Try.prog 70 args r := .of_W (W := W70) Try.func70 (by kernel_rfl) (by kernel_rfl) (by kernel_rfl) Try.ntmps70 W70_eq (by kernel_rfl) hl h

-- 71 "penance/lex.Name"
def W71_b1 (Φ : EP) (s : St) : Prop :=
  @sOp (some 2) (xMov (.bool false) s.H) s <| .mk fun s =>
  Φ .ret s
def W71_k2 (Φ : EP) (s : St) : Prop :=
  @sOp (some 2) (xMov (.bool true) s.H) s <| .mk fun s =>
  Φ .ret s
def W71_b3 (Φ : EP) (L0 : SP) (s : St) : Prop :=
  @sOp (some 2) (xMov (.bool false) s.H) s <| .mk fun s =>
  Φ .ret s
def W71_b16 (Φ : EP) (L0 : SP) (s : St) : Prop :=
  @sOp (some 21) (xExt (s.τ 19) 1 s.H) s <| .mk fun s =>
  @sOp (some 22) (xExt (s.τ 19) 2 s.H) s <| .mk fun s =>
  @sMv 3 21 s <| .mk fun s =>
  @sMv 4 22 s <| .mk fun s =>
  @sMv 23 4 s <| .mk fun s =>
  @sOp (some 24) (xBin .gtr false (s.τ 23) (.int .i32 127) s.H) s <| .mk fun s =>
  @sMv 25 24 s <| .mk fun s =>
  @sGm 26 3 25 false s <| .mk fun s =>
  @sGo 27 25 false s (fun s => (xBin .eql false (s.τ 26) (.int .i64 0) s.H)) <| .mk fun s =>
  @sGm 28 27 25 false s <| .mk fun s =>
  @sGm 29 4 28 true s <| .mk fun s =>
  @sGo 30 28 true s (fun s => (xConv .u8 (s.τ 29) s.H)) <| .mk fun s =>
  @sGrd (guardOf (s.τ 28) true) (some 31) s ⟨fun s K => @sCall Try.prog (.func 79 []) [(s.τ 30)] (some 31) s ⟨K⟩⟩ <| .mk fun s =>
  @sGo 32 28 true s (fun s => (xNot (s.τ 31) s.H)) <| .mk fun s =>
  @sGo 33 25 false s (fun s => (xPick (s.τ 28) (s.τ 32) (.bool false) s.H)) <| .mk fun s =>
  @sOp (some 34) (xPick (s.τ 25) (.bool true) (s.τ 33) s.H) s <| .mk fun s =>
  @sMv 35 34 s <| .mk fun s =>
  @sGm 36 4 35 false s <| .mk fun s =>
  @sGo 37 35 false s (fun s => (xConv .u8 (s.τ 36) s.H)) <| .mk fun s =>
  @sGrd (guardOf (s.τ 35) false) (some 38) s ⟨fun s K => @sCall Try.prog (.func 80 []) [(s.τ 37)] (some 38) s ⟨K⟩⟩ <| .mk fun s =>
  @sGo 39 35 false s (fun s => (xNot (s.τ 38) s.H)) <| .mk fun s =>
  @sOp (some 40) (xPick (s.τ 35) (.bool true) (s.τ 39) s.H) s <| .mk fun s =>
  @sIf (s.τ 40) ⟨W71_b3 Φ L0 s⟩ ⟨L0 s⟩
def W71_l17 (Φ : EP) (L0 : SP) (s : St) : Prop :=
  @sOp (some 19) (xNxt (s.τ 18) s.H) s <| .mk fun s =>
  @sOp (some 20) (xExt (s.τ 19) 0 s.H) s <| .mk fun s =>
  @sIf (s.τ 20) ⟨W71_b16 Φ L0 s⟩ ⟨W71_k2 Φ s⟩
def W71_b18 (Φ : EP) (s : St) : Prop :=
  @sMv 17 0 s <| .mk fun s =>
  @sOp (some 18) (xRng 18 (s.τ 17) s.H) s <| .mk fun s =>
  @sLoop s ⟨fun L0 s => W71_l17 Φ L0 s⟩
def W71 (Φ : EP) (s : St) : Prop :=
  @sOp (some 2) (xMov (.bool false) s.H) s <| .mk fun s =>
  @sMv 5 0 s <| .mk fun s =>
  @sOp (some 6) (xSlen (s.τ 5) s.H) s <| .mk fun s =>
  @sOp (some 7) (xBin .lss false (s.τ 6) (.int .i64 1) s.H) s <| .mk fun s =>
  @sMv 8 7 s <| .mk fun s =>
  @sGm 9 0 8 false s <| .mk fun s =>
  @sGo 10 8 false s (fun s => (xSlen (s.τ 9) s.H)) <| .mk fun s =>
  @sGo 11 8 false s (fun s => (xBin .gtr false (s.τ 10) (.int .i64 20) s.H)) <| .mk fun s =>
  @sOp (some 12) (xPick (s.τ 8) (.bool true) (s.τ 11) s.H) s <| .mk fun s =>
  @sMv 13 12 s <| .mk fun s =>
  @sGm 14 0 13 false s <| .mk fun s =>
  @sGrd (guardOf (s.τ 13) false) (some 15) s ⟨fun s K => @sCall Try.prog (.func 78 []) [(s.τ 14)] (some 15) s ⟨K⟩⟩ <| .mk fun s =>
  @sOp (some 16) (xPick (s.τ 13) (.bool true) (s.τ 15) s.H) s <| .mk fun s =>
  @sIf (s.τ 16) ⟨W71_b1 Φ s⟩ ⟨W71_b18 Φ s⟩
theorem W71_rs (τ : Nat → AV) (H : Heap) : resV Try.prog τ H [.tmp 2] = some (τ 2) := by kernel_rfl
theorem W71_eq (Φ : EP) (s : St) : awp Try.prog (Try.f71.body.getD .skip) Φ s = W71 Φ s := by kernel_rfl
theorem W71_S {args : List AV} {r : AV} (hl : args.length ≤ 41) (h : ∀ vs, W71 (retK Try.prog [.tmp 2] r) ⟨Am.look (argT 0 args), hls [] vs, noG⟩) : Am.Spec Try.prog 71 args r := .of_W (W := W71) Try.func71 (by kernel_rfl) (by kernel_rfl) (by kernel_rfl) Try.ntmps71 W71_eq (by kernel_rfl) hl h

-- 72 "penance/expr.Right"
def W72_k1 (Φ : EP) (s : St) : Prop :=
  @sOp none (xStore 1 (s.τ 4) (.bool true) s.H) s <| .mk fun s =>
  Φ .ret s
def W72_b2 (Φ : EP) (s : St) : Prop :=
  @sOp none (xStore 1 (s.τ 4) (.bool false) s.H) s <| .mk fun s =>
  Φ .ret s
def W72_b3 (Φ : EP) (s : St) : Prop :=
  @sOp none (xStore 1 (s.τ 4) (.bool false) s.H) s <| .mk fun s =>
  Φ .ret s
def W72_b29 (Φ : EP) (s : St) : Prop :=
  @sFl 31 0 5 s <| .mk fun s =>
  @sLd 32 1 31 false s <| .mk fun s =>
  @sOp (some 33) (xBin .eql false (s.τ 32) (.int .i64 1) s.H) s <| .mk fun s =>
  @sMv 34 33 s <| .mk fun s =>
  @sGf 35 1 5 34 true s <| .mk fun s =>
  @sGl 36 1 35 34 false true s <| .mk fun s =>
  @sGo 37 34 true s (fun s => (xBin .lss false (s.τ 36) (.int .i64 0) s.H)) <| .mk fun s =>
  @sOp (some 38) (xPick (s.τ 34) (s.τ 37) (.bool false) s.H) s <| .mk fun s =>
  @sMv 39 38 s <| .mk fun s =>
  @sGf 40 0 5 39 false s <| .mk fun s =>
  @sGl 41 1 40 39 false false s <| .mk fun s =>
  @sGo 42 39 false s (fun s => (xBin .eql false (s.τ 41) (.int .i64 2) s.H)) <| .mk fun s =>
  @sGm 43 42 39 false s <| .mk fun s =>
  @sGf 44 1 5 43 true s <| .mk fun s =>
  @sGl 45 1 44 43 false true s <| .mk fun s =>
  @sGo 46 43 true s (fun s => (xBin .lss false (s.τ 45) (.int .i64 0) s.H)) <| .mk fun s =>
  @sGm 47 46 43 true s <| .mk fun s =>
  @sGf 48 1 5 47 false s <| .mk fun s =>
  @sGl 49 1 48 47 false false s <| .mk fun s =>
  @sGl 50 1 3 47 false false s <| .mk fun s =>
  @sGo 51 47 false s (fun s => (xBin .geq false (s.τ 49) (s.τ 50) s.H)) <| .mk fun s =>
  @sGo 52 43 true s (fun s => (xPick (s.τ 47) (.bool true) (s.τ 51) s.H)) <| .mk fun s =>
  @sGo 53 39 false s (fun s => (xPick (s.τ 43) (s.τ 52) (.bool false) s.H)) <| .mk fun s =>
  @sOp (some 54) (xPick (s.τ 39) (.bool true) (s.τ 53) s.H) s <| .mk fun s =>
  @sMv 55 54 s <| .mk fun s =>
  @sGf 56 0 5 55 false s <| .mk fun s =>
  @sGl 57 1 56 55 false false s <| .mk fun s =>
  @sGo 58 55 false s (fun s => (xBin .gtr false (s.τ 57) (.int .i64 2) s.H)) <| .mk fun s =>
  @sGm 59 58 55 false s <| .mk fun s =>
  @sGf 60 1 5 59 true s <| .mk fun s =>
  @sGl 61 1 60 59 false true s <| .mk fun s =>
  @sGo 62 59 true s (fun s => (xBin .neq false (s.τ 61) (.int .i64 0) s.H)) <| .mk fun s =>
  @sGo 63 55 false s (fun s => (xPick (s.τ 59) (s.τ 62) (.bool false) s.H)) <| .mk fun s =>
  @sOp (some 64) (xPick (s.τ 55) (.bool true) (s.τ 63) s.H) s <| .mk fun s =>
  @sIf (s.τ 64) ⟨W72_b3 Φ s⟩ ⟨Φ .normal s⟩
def W72_r43 (Φ : EP) (s : St) : Prop :=
  @sOp (some 5) (xAlloc 5 27 [.int .i64 0, .int .i64 0, .str ⟨#[]⟩, .nils] s.H) s <| .mk fun s =>
  @sOp none (xStore 4 (s.τ 5) (s.τ 8) s.H) s <| .mk fun s =>
  @sFl 9 0 5 s <| .mk fun u1 =>
  @sLd 10 1 9 false u1 <| .mk fun u2 =>
  @sOp (some 11) (xBin .lss false (u2.τ 10) (.int .i64 1) u2.H) u2 <| .mk fun u3 =>
  @sMv 12 11 u3 <| .mk fun u4 =>
  @sGf 13 0 5 12 false u4 <| .mk fun u5 =>
  @sGl 14 1 13 12 false false u5 <| .mk fun u6 =>
  @sGo 15 12 false u6 (fun s => (xBin .gtr false (s.τ 14) (.int .i64 17) s.H)) <| .mk fun u7 =>
  @sOp (some 16) (xPick (u7.τ 12) (.bool true) (u7.τ 15) u7.H) u7 <| .mk fun u8 =>
  @sMv 17 16 u8 <| .mk fun u9 =>
  @sGf 18 2 5 17 false u9 <| .mk fun u10 =>
  @sGl 19 1 18 17 false false u10 <| .mk fun u11 =>
  @sGo 20 17 false u11 (fun s => (xBin .neq false (s.τ 19) (.str ⟨#[]⟩) s.H)) <| .mk fun u12 =>
  @sOp (some 21) (xPick (u12.τ 17) (.bool true) (u12.τ 20) u12.H) u12 <| .mk fun u13 =>
  @sMv 22 21 u13 <| .mk fun u14 =>
  @sGf 23 3 5 22 false u14 <| .mk fun u15 =>
  @sGl 24 1 23 22 false false u15 <| .mk fun u16 =>
  @sGo 25 22 false u16 (fun s => (xLen (s.τ 24) s.H)) <| .mk fun u17 =>
  @sGf 26 0 5 22 false u17 <| .mk fun u18 =>
  @sGl 27 1 26 22 false false u18 <| .mk fun u19 =>
  @sChk (compat (occ (u14.τ 5), []) (cfp 28 82 [(u19.τ 27)])) <| .mk <|
  @sChk (compat (occ (u15.τ 23), []) (cfp 28 82 [(u19.τ 27)])) <| .mk <|
  @sChk (compat (occ (u16.τ 24), []) (cfp 28 82 [(u19.τ 27)])) <| .mk <|
  @sGrd (guardOf (u19.τ 22) false) (some 28) u19 ⟨fun s K => @sCall0 Try.prog (.func 82 []) [(s.τ 27)] (some 28) s ⟨K⟩⟩ <| .mk fun u20 =>
  @sGo 29 22 false u20 (fun s => (xBin .neq false (s.τ 25) (s.τ 28) s.H)) <| .mk fun u21 =>
  @sOp (some 30) (xPick (u21.τ 22) (.bool true) (u21.τ 29) u21.H) u21 <| .mk fun s =>
  @sIf (s.τ 30) ⟨W72_b2 Φ s⟩ ⟨W72_b29 Φ s⟩
def W72 (Φ : EP) (s : St) : Prop :=
  @sOp (some 2) (xBox 2 27 (s.τ 0) s.H) s <| .mk fun s =>
  @sOp (some 3) (xBox 3 3 (s.τ 1) s.H) s <| .mk fun s =>
  @sOp (some 4) (xAlloc 4 4 [.bool false] s.H) s <| .mk fun s =>
  @sLd 6 4 2 true s <| .mk fun s =>
  @sCall Try.prog (.func 81 []) [(s.τ 6)] (some 7) s <| .mk fun s =>
  @sRange Try.prog (s.τ 7) [8] s ⟨fun Φ s => W72_r43 Φ s⟩ ⟨(blkK 0 (thenK (W72_k1 Φ) Φ))⟩
theorem W72_rs (τ : Nat → AV) (H : Heap) : resV Try.prog τ H [.cell 4 4] = rdV H 1 false (τ 4) := by kernel_rfl
theorem W72_eq (Φ : EP) (s : St) : awp Try.prog (Try.f72.body.getD .skip) Φ s = W72 Φ s := by kernel_rfl
theorem W72_S {args : List AV} {r : AV} (hl : args.length ≤ 65) (h : ∀ vs, W72 (retK Try.prog [.cell 4 4] r) ⟨Am.look (argT 0 args), hls [] vs, noG⟩) : Am.Spec Try.prog 72 args r := .of_W (W := W72) Try.func72 (by kernel_rfl) (by kernel_rfl) (by kernel_rfl) Try.ntmps72 W72_eq (by kernel_rfl) hl h

-- 73 "slices.Clone[[]penance/api.Expr,penance/api.Expr]"
def W73_b1 (Φ : EP) (s : St) : Prop :=
  @sOp (some 2) (xMov (.nils) s.H) s <| .mk fun s =>
  Φ .ret s
def W73_b2 (Φ : EP) (s : St) : Prop :=
  @sOp (some 5) (xRow 5 27 4 0 [.int .i64 0, .int .i64 0, .str ⟨#[]⟩, .nils] [] s.H) s <| .mk fun s =>
  @sMv 6 0 s <| .mk fun s =>
  @sOp (some 7) (xApp Try.prog 27 4 56 (some 7) (s.τ 5) (s.τ 6) s.H) s <| .mk fun s =>
  @sMv 2 7 s <| .mk fun s =>
  Φ .ret s
def W73 (Φ : EP) (s : St) : Prop :=
  @sOp (some 2) (xMov (.nils) s.H) s <| .mk fun s =>
  @sMv 3 0 s <| .mk fun s =>
  @sNil false (s.τ 3) (some 4) s <| .mk fun s =>
  @sIf (s.τ 4) ⟨W73_b1 Φ s⟩ ⟨W73_b2 Φ s⟩
theorem W73_rs (τ : Nat → AV) (H : Heap) : resV Try.prog τ H [.tmp 2] = some (τ 2) := by kernel_rfl
theorem W73_eq (Φ : EP) (s : St) : awp Try.prog (Try.f73.body.getD .skip) Φ s = W73 Φ s := by kernel_rfl
theorem W73_S {args : List AV} {r : AV} (hl : args.length ≤ 8) (h : ∀ vs, W73 (retK Try.prog [.tmp 2] r) ⟨Am.look (argT 0 args), hls [] vs, noG⟩) : Am.Spec Try.prog 73 args r := .of_W (W := W73) Try.func73 (by kernel_rfl) (by kernel_rfl) (by kernel_rfl) Try.ntmps73 W73_eq (by kernel_rfl) hl h

-- 74 "slices.Clone[[][]penance/api.Term,[]penance/api.Term]"
def W74_b1 (Φ : EP) (s : St) : Prop :=
  @sOp (some 2) (xMov (.nils) s.H) s <| .mk fun s =>
  Φ .ret s
def W74_b2 (Φ : EP) (s : St) : Prop :=
  @sLit (some 5) (xRow 5 24 1 0 [.nils] [] s.H) (xLitR 1 0 [.nils] [] s.H) s <| .mk fun s =>
  @sMv 6 0 s <| .mk fun s =>
  @sOp (some 7) (xApp Try.prog 24 1 24 (some 7) (s.τ 5) (s.τ 6) s.H) s <| .mk fun s =>
  @sMv 2 7 s <| .mk fun s =>
  Φ .ret s
def W74 (Φ : EP) (s : St) : Prop :=
  @sOp (some 2) (xMov (.nils) s.H) s <| .mk fun s =>
  @sMv 3 0 s <| .mk fun s =>
  @sNil false (s.τ 3) (some 4) s <| .mk fun s =>
  @sIf (s.τ 4) ⟨W74_b1 Φ s⟩ ⟨W74_b2 Φ s⟩
theorem W74_rs (τ : Nat → AV) (H : Heap) : resV Try.prog τ H [.tmp 2] = some (τ 2) := by kernel_rfl
theorem W74_eq (Φ : EP) (s : St) : awp Try.prog (Try.f74.body.getD .skip) Φ s = W74 Φ s := by kernel_rfl
theorem W74_S {args : List AV} {r : AV} (hl : args.length ≤ 8) (h : ∀ vs, W74 (retK Try.prog [.tmp 2] r) ⟨Am.look (argT 0 args), hls [] vs, noG⟩) : Am.Spec Try.prog 74 args r := .of_W (W := W74) Try.func74 (by kernel_rfl) (by kernel_rfl) (by kernel_rfl) Try.ntmps74 W74_eq (by kernel_rfl) hl h

-- 75 "(penance/steps.place).below"
def W75_k1 (Φ : EP) (s : St) : Prop :=
  @sLd 31 11 5 true s <| .mk fun s =>
  @sOp none (xStore 11 (s.τ 4) (s.τ 31) s.H) s <| .mk fun s =>
  Φ .ret s
def W75_b3 (Φ : EP) (s : St) : Prop :=
  @sFl 25 0 5 s <| .mk fun s =>
  @sLd 26 9 25 true s <| .mk fun s =>
  @sCall Try.prog (.func 63 []) [(s.τ 26)] (some 27) s <| .mk fun s =>
  @sOp (some 28) (xLen (s.τ 27) s.H) s <| .mk fun s =>
  @sOp (some 29) (xBin .gtr false (s.τ 28) (.int .i64 0) s.H) s <| .mk fun s =>
  @sFl 30 10 5 s <| .mk fun s =>
  @sOp none (xStore 1 (s.τ 30) (s.τ 29) s.H) s <| .mk fun s =>
  W75_k1 Φ s
def W75 (Φ : EP) (s : St) : Prop :=
  @sOp (some 2) (xBox 2 87 (s.τ 0) s.H) s <| .mk fun s =>
  @sOp (some 4) (xAlloc 4 87 [.int .i64 0, .int .i64 0, .int .i64 0, .str ⟨#[]⟩, .int .i64 0, .int .i64 0, .str ⟨#[]⟩, .nils, .nils, .nils, .bool false] s.H) s <| .mk fun s =>
  @sFl 6 0 2 s <| .mk fun u1 =>
  @sFl 7 8 6 u1 <| .mk fun u2 =>
  @sLd 8 1 7 false u2 <| .mk fun u3 =>
  @sMv 9 1 u3 <| .mk fun u4 =>
  @sOp (some 10) (xIx 9 (u4.τ 8) (u4.τ 9) u4.H) u4 <| .mk fun u5 =>
  @sLd 11 9 10 true u5 <| .mk fun u6 =>
  @sFl 12 9 2 u6 <| .mk fun u7 =>
  @sLd 13 1 12 false u7 <| .mk fun u8 =>
  @sChk (compat (occ (s.τ 2), []) (cfp 14 20 [(u8.τ 13)])) <| .mk <|
  @sChk (compat (occ (u1.τ 6), []) (cfp 14 20 [(u8.τ 13)])) <| .mk <|
  @sChk (compat (occ (u2.τ 7), []) (cfp 14 20 [(u8.τ 13)])) <| .mk <|
  @sChk (compat (occ (u4.τ 8), []) (cfp 14 20 [(u8.τ 13)])) <| .mk <|
  @sChk (compat (occ (u5.τ 10), []) (cfp 14 20 [(u8.τ 13)])) <| .mk <|
  @sCall0 Try.prog (.func 20 []) [(u8.τ 13)] (some 14) u8 <| .mk fun u9 =>
  @sMv 15 1 u9 <| .mk fun u10 =>
  @sChk (compat (occ (s.τ 2), []) ([16] ++ occL [(u10.τ 15)], [16] ++ occL [(u10.τ 15)])) <| .mk <|
  @sChk (compat (occ (u1.τ 6), []) ([16] ++ occL [(u10.τ 15)], [16] ++ occL [(u10.τ 15)])) <| .mk <|
  @sChk (compat (occ (u2.τ 7), []) ([16] ++ occL [(u10.τ 15)], [16] ++ occL [(u10.τ 15)])) <| .mk <|
  @sChk (compat (occ (u4.τ 8), []) ([16] ++ occL [(u10.τ 15)], [16] ++ occL [(u10.τ 15)])) <| .mk <|
  @sChk (compat (occ (u5.τ 10), []) ([16] ++ occL [(u10.τ 15)], [16] ++ occL [(u10.τ 15)])) <| .mk <|
  @sChk (compat (occ (u6.τ 2), []) ([16] ++ occL [(u10.τ 15)], [16] ++ occL [(u10.τ 15)])) <| .mk <|
  @sChk (compat (occ (u7.τ 12), []) ([16] ++ occL [(u10.τ 15)], [16] ++ occL [(u10.τ 15)])) <| .mk <|
  @sChk (compat (cfp 14 20 [(u8.τ 13)]) ([16] ++ occL [(u10.τ 15)], [16] ++ occL [(u10.τ 15)])) <| .mk <|
  @sOp (some 16) (xLit 1 1 [.int .i64 0] [(0, (u10.τ 15))] u10.H) u10 <| .mk fun u11 =>
  @sChk (compat (occ (s.τ 2), []) ([17] ++ (occ (u11.τ 14) ++ occ (u11.τ 16)), [17] ++ occ (u11.τ 14))) <| .mk <|
  @sChk (compat (occ (u1.τ 6), []) ([17] ++ (occ (u11.τ 14) ++ occ (u11.τ 16)), [17] ++ occ (u11.τ 14))) <| .mk <|
  @sChk (compat (occ (u2.τ 7), []) ([17] ++ (occ (u11.τ 14) ++ occ (u11.τ 16)), [17] ++ occ (u11.τ 14))) <| .mk <|
  @sChk (compat (occ (u4.τ 8), []) ([17] ++ (occ (u11.τ 14) ++ occ (u11.τ 16)), [17] ++ occ (u11.τ 14))) <| .mk <|
  @sChk (compat (occ (u5.τ 10), []) ([17] ++ (occ (u11.τ 14) ++ occ (u11.τ 16)), [17] ++ occ (u11.τ 14))) <| .mk <|
  @sOp (some 17) (xApp Try.prog 3 1 8 (some 17) (u11.τ 14) (u11.τ 16) u11.H) u11 <| .mk fun u12 =>
  @sChk (compat (cfp 14 20 [(u8.τ 13)]) (occ (u12.τ 2), [])) <| .mk <|
  @sChk (compat ([16] ++ occL [(u10.τ 15)], [16] ++ occL [(u10.τ 15)]) (occ (u12.τ 2), [])) <| .mk <|
  @sChk (compat ([17] ++ (occ (u11.τ 14) ++ occ (u11.τ 16)), [17] ++ occ (u11.τ 14)) (occ (u12.τ 2), [])) <| .mk <|
  @sFl 18 10 2 u12 <| .mk fun u13 =>
  @sChk (compat (cfp 14 20 [(u8.τ 13)]) (occ (u13.τ 18), [])) <| .mk <|
  @sChk (compat ([16] ++ occL [(u10.τ 15)], [16] ++ occL [(u10.τ 15)]) (occ (u13.τ 18), [])) <| .mk <|
  @sChk (compat ([17] ++ (occ (u11.τ 14) ++ occ (u11.τ 16)), [17] ++ occ (u11.τ 14)) (occ (u13.τ 18), [])) <| .mk <|
  @sLd 19 1 18 false u13 <| .mk fun u14 =>
  @sOp (some 20) (xBuild [.int .i64 0, .int .i64 0, .int .i64 0, .str ⟨#[]⟩, .int .i64 0, .int .i64 0, .str ⟨#[]⟩, .nils, .nils, .nils, .bool false] [(0, 9, (u14.τ 11)), (9, 1, (u14.τ 17)), (10, 1, (u14.τ 19))] u14.H) u14 <| .mk fun u15 =>
  @sChk (compat (occ (s.τ 2), []) ([5], [5])) <| .mk <|
  @sChk (compat (occ (u1.τ 6), []) ([5], [5])) <| .mk <|
  @sChk (compat (occ (u2.τ 7), []) ([5], [5])) <| .mk <|
  @sChk (compat (occ (u4.τ 8), []) ([5], [5])) <| .mk <|
  @sChk (compat (occ (u5.τ 10), []) ([5], [5])) <| .mk <|
  @sChk (compat (occ (u6.τ 2), []) ([5], [5])) <| .mk <|
  @sChk (compat (occ (u7.τ 12), []) ([5], [5])) <| .mk <|
  @sChk (compat (cfp 14 20 [(u8.τ 13)]) ([5], [5])) <| .mk <|
  @sChk (compat ([16] ++ occL [(u10.τ 15)], [16] ++ occL [(u10.τ 15)]) ([5], [5])) <| .mk <|
  @sChk (compat ([17] ++ (occ (u11.τ 14) ++ occ (u11.τ 16)), [17] ++ occ (u11.τ 14)) ([5], [5])) <| .mk <|
  @sChk (compat (occ (u12.τ 2), []) ([5], [5])) <| .mk <|
  @sChk (compat (occ (u13.τ 18), []) ([5], [5])) <| .mk <|
  @sOp (some 5) (xAlloc 5 87 [.int .i64 0, .int .i64 0, .int .i64 0, .str ⟨#[]⟩, .int .i64 0, .int .i64 0, .str ⟨#[]⟩, .nils, .nils, .nils, .bool false] u15.H) u15 <| .mk fun u16 =>
  @sOp none (xStore 11 (u16.τ 5) (u16.τ 20) u16.H) u16 <| .mk fun s =>
  @sFl 21 0 2 s <| .mk fun s =>
  @sFl 22 0 21 s <| .mk fun s =>
  @sLd 23 1 22 false s <| .mk fun s =>
  @sOp (some 24) (xBin .eql false (s.τ 23) (.int .i64 7) s.H) s <| .mk fun s =>
  @sIf (s.τ 24) ⟨W75_b3 Φ s⟩ ⟨W75_k1 Φ s⟩
theorem W75_rs (τ : Nat → AV) (H : Heap) : resV Try.prog τ H [.cell 4 87] = rdV H 11 true (τ 4) := by kernel_rfl
theorem W75_eq (Φ : EP) (s : St) : awp Try.prog (Try.f75.body.getD .skip) Φ s = W75 Φ s := by kernel_rfl
theorem W75_S {args : List AV} {r : AV} (hl : args.length ≤ 32) (h : ∀ vs, W75 (retK Try.prog [.cell 4 87] r) ⟨Am.look (argT 0 args), hls [] vs, noG⟩) : Am.Spec Try.prog 75 args r := .of_W (W := W75) Try.func75 (by kernel_rfl) (by kernel_rfl) (by kernel_rfl) Try.ntmps75 W75_eq (by kernel_rfl) hl h

-- 76 "penance/term.active"

def W76 (Φ : EP) (s : St) : Prop :=
  @sOp (some 1) (xBox 1 29 (s.τ 0) s.H) s <| .mk fun s =>
  @sOp (some 2) (xMov (.nilf) s.H) s <| .mk fun s =>
  @sOp (some 3) (xMkf 83 [(s.τ 1)] s.H) s <| .mk fun s =>
  @sMv 2 3 s <| .mk fun s =>
  Φ .ret s
theorem W76_rs (τ : Nat → AV) (H : Heap) : resV Try.prog τ H [.tmp 2] = some (τ 2) := by kernel_rfl
theorem W76_eq (Φ : EP) (s : St) : awp Try.prog (Try.f76.body.getD .skip) Φ s = W76 Φ s := by kernel_rfl
theorem W76_S {args : List AV} {r : AV} (hl : args.length ≤ 4) (h : ∀ vs, W76 (retK Try.prog [.tmp 2] r) ⟨Am.look (argT 0 args), hls [] vs, noG⟩) : Am.Spec Try.prog 76 args r := .of_W (W := W76) Try.func76 (by kernel_rfl) (by kernel_rfl) (by kernel_rfl) Try.ntmps76 W76_eq (by kernel_rfl) hl h

-- 77 "penance/stacks.mapped[penance/api.Expr]"
def W77_k2 (Φ : EP) (s : St) : Prop :=
  @sMv 22 5 s <| .mk fun s =>
  @sOp (some 23) (xLen (s.τ 22) s.H) s <| .mk fun s =>
  @sMv 8 23 s <| .mk fun s =>
  @sMv 24 5 s <| .mk fun s =>
  @sMv 25 8 s <| .mk fun s =>
  @sMv 26 8 s <| .mk fun s =>
  @sOp (some 27) (xSl3 4 (s.τ 24) (s.τ 25) (s.τ 26) (frz s.H (s.τ 24))) s <| .mk fun s =>
  @sCall Try.prog (.func 73 []) [(s.τ 27)] (some 28) s <| .mk fun s =>
  @sMv 4 28 s <| .mk fun s =>
  Φ .ret s
def W77_b4 (Φ : EP) (L0 : SP) (s : St) : Prop :=
  @sOp (some 13) (xIx 4 (s.τ 9) (s.τ 11) s.H) s <| .mk fun s =>
  @sLd 14 4 13 true s <| .mk fun s =>
  @sOp (some 7) (xAlloc 7 27 [.int .i64 0, .int .i64 0, .str ⟨#[]⟩, .nils] s.H) s <| .mk fun s =>
  @sOp none (xStore 4 (s.τ 7) (s.τ 14) s.H) s <| .mk fun s =>
  @sMv 15 5 s <| .mk fun s =>
  @sMv 16 1 s <| .mk fun s =>
  @sLd 17 4 7 true s <| .mk fun s =>
  @sCall Try.prog (s.τ 16) [(s.τ 17)] (some 18) s <| .mk fun s =>
  @sOp (some 19) (xLit 4 1 [.int .i64 0, .int .i64 0, .str ⟨#[]⟩, .nils] [(0, (s.τ 18))] s.H) s <| .mk fun s =>
  @sOp (some 20) (xApp Try.prog 27 4 56 (some 20) (s.τ 15) (s.τ 19) s.H) s <| .mk fun s =>
  @sMv 5 20 s <| .mk fun s =>
  @sOp (some 21) (xBin .add false (s.τ 11) (.int .i64 1) s.H) s <| .mk fun s =>
  @sMv 11 21 s <| .mk fun s =>
  L0 s
def W77_l5 (Φ : EP) (L0 : SP) (s : St) : Prop :=
  @sOp (some 12) (xBin .lss false (s.τ 11) (s.τ 10) s.H) s <| .mk fun s =>
  @sIf (s.τ 12) ⟨W77_b4 Φ L0 s⟩ ⟨W77_k2 Φ s⟩
def W77 (Φ : EP) (s : St) : Prop :=
  @sOp (some 4) (xMov (.nils) s.H) s <| .mk fun s =>
  @sOp (some 5) (xMov (.nils) s.H) s <| .mk fun s =>
  @sMv 9 0 s <| .mk fun s =>
  @sOp (some 10) (xLen (s.τ 9) s.H) s <| .mk fun s =>
  @sOp (some 11) (xMov (.int .i64 0) s.H) s <| .mk fun s =>
  @sLoop s ⟨fun L0 s => W77_l5 Φ L0 s⟩
theorem W77_rs (τ : Nat → AV) (H : Heap) : resV Try.prog τ H [.tmp 4] = some (τ 4) := by kernel_rfl
theorem W77_eq (Φ : EP) (s : St) : awp Try.prog (Try.f77.body.getD .skip) Φ s = W77 Φ s := by kernel_rfl
theorem W77_S {args : List AV} {r : AV} (hl : args.length ≤ 29) (h : ∀ vs, W77 (retK Try.prog [.tmp 4] r) ⟨Am.look (argT 0 args), hls [] vs, noG⟩) : Am.Spec Try.prog 77 args r := .of_W (W := W77) Try.func77 (by kernel_rfl) (by kernel_rfl) (by kernel_rfl) Try.ntmps77 W77_eq (by kernel_rfl) hl h

-- 78 "penance/lex.Key"

def W78 (Φ : EP) (s : St) : Prop :=
  @sOp (some 2) (xMov (.bool false) s.H) s <| .mk fun s =>
  @sCall Try.prog (.func 86 []) [] (some 3) s <| .mk fun s =>
  @sMv 4 0 s <| .mk fun s =>
  @sCall Try.prog (.func 85 []) [(s.τ 3), (s.τ 4)] (some 5) s <| .mk fun s =>
  @sMv 2 5 s <| .mk fun s =>
  Φ .ret s
theorem W78_rs (τ : Nat → AV) (H : Heap) : resV Try.prog τ H [.tmp 2] = some (τ 2) := by kernel_rfl
theorem W78_eq (Φ : EP) (s : St) : awp Try.prog (Try.f78.body.getD .skip) Φ s = W78 Φ s := by kernel_rfl
theorem W78_S {args : List AV} {r : AV} (hl : args.length ≤ 6) (h : ∀ vs, W78 (retK Try.prog [.tmp 2] r) ⟨Am.look (argT 0 args), hls [] vs, noG⟩) : Am.Spec Try.prog 78 args r := .of_W (W := W78) Try.func78 (by kernel_rfl) (by kernel_rfl) (by kernel_rfl) Try.ntmps78 W78_eq (by kernel_rfl) hl h

-- 79 "penance/lex.small"

def W79 (Φ : EP) (s : St) : Prop :=
  @sOp (some 2) (xMov (.bool false) s.H) s <| .mk fun s =>
  @sMv 3 0 s <| .mk fun s =>
  @sOp (some 4) (xBin .geq false (s.τ 3) (.int .u8 97) s.H) s <| .mk fun s =>
  @sMv 5 4 s <| .mk fun s =>
  @sGm 6 0 5 true s <| .mk fun s =>
  @sGo 7 5 true s (fun s => (xBin .leq false (s.τ 6) (.int .u8 122) s.H)) <| .mk fun s =>
  @sOp (some 8) (xPick (s.τ 5) (s.τ 7) (.bool false) s.H) s <| .mk fun s =>
  @sMv 2 8 s <| .mk fun s =>
  Φ .ret s
theorem W79_rs (τ : Nat → AV) (H : Heap) : resV Try.prog τ H [.tmp 2] = some (τ 2) := by kernel_rfl
theorem W79_eq (Φ : EP) (s : St) : awp Try.prog (Try.f79.body.getD .skip) Φ s = W79 Φ s := by kernel_rfl
theorem W79_S {args : List AV} {r : AV} (hl : args.length ≤ 9) (h : ∀ vs, W79 (retK Try.prog [.tmp 2] r) ⟨Am.look (argT 0 args), hls [] vs, noG⟩) : Am.Spec Try.prog 79 args r := .of_W (W := W79) Try.func79 (by kernel_rfl) (by kernel_rfl) (by kernel_rfl) Try.ntmps79 W79_eq (by kernel_rfl) hl h

-- 80 "penance/lex.inner"

def W80 (Φ : EP) (s : St) : Prop :=
  @sOp (some 2) (xMov (.bool false) s.H) s <| .mk fun s =>
  @sMv 3 0 s <| .mk fun s =>
  @sCall Try.prog (.func 79 []) [(s.τ 3)] (some 4) s <| .mk fun s =>
  @sMv 5 4 s <| .mk fun s =>
  @sGm 6 0 5 false s <| .mk fun s =>
  @sGrd (guardOf (s.τ 5) false) (some 7) s ⟨fun s K => @sCall Try.prog (.func 87 []) [(s.τ 6)] (some 7) s ⟨K⟩⟩ <| .mk fun s =>
  @sOp (some 8) (xPick (s.τ 5) (.bool true) (s.τ 7) s.H) s <| .mk fun s =>
  @sMv 9 8 s <| .mk fun s =>
  @sGm 10 0 9 false s <| .mk fun s =>
  @sGo 11 9 false s (fun s => (xBin .eql false (s.τ 10) (.int .u8 95) s.H)) <| .mk fun s =>
  @sOp (some 12) (xPick (s.τ 9) (.bool true) (s.τ 11) s.H) s <| .mk fun s =>
  @sMv 2 12 s <| .mk fun s =>
  Φ .ret s
theorem W80_rs (τ : Nat → AV) (H : Heap) : resV Try.prog τ H [.tmp 2] = some (τ 2) := by kernel_rfl
theorem W80_eq (Φ : EP) (s : St) : awp Try.prog (Try.f80.body.getD .skip) Φ s = W80 Φ s := by kernel_rfl
theorem W80_S {args : List AV} {r : AV} (hl : args.length ≤ 13) (h : ∀ vs, W80 (retK Try.prog [.tmp 2] r) ⟨Am.look (argT 0 args), hls [] vs, noG⟩) : Am.Spec Try.prog 80 args r := .of_W (W := W80) Try.func80 (by kernel_rfl) (by kernel_rfl) (by kernel_rfl) Try.ntmps80 W80_eq (by kernel_rfl) hl h

-- 81 "penance/expr.all"

def W81 (Φ : EP) (s : St) : Prop :=
  @sOp (some 1) (xBox 1 27 (s.τ 0) s.H) s <| .mk fun s =>
  @sOp (some 2) (xMov (.nilf) s.H) s <| .mk fun s =>
  @sOp (some 3) (xMkf 88 [(s.τ 1)] s.H) s <| .mk fun s =>
  @sMv 2 3 s <| .mk fun s =>
  Φ .ret s
theorem W81_rs (τ : Nat → AV) (H : Heap) : resV Try.prog τ H [.tmp 2] = some (τ 2) := by kernel_rfl
theorem W81_eq (Φ : EP) (s : St) : awp Try.prog (Try.f81.body.getD .skip) Φ s = W81 Φ s := by kernel_rfl
theorem W81_S {args : List AV} {r : AV} (hl : args.length ≤ 4) (h : ∀ vs, W81 (retK Try.prog [.tmp 2] r) ⟨Am.look (argT 0 args), hls [] vs, noG⟩) : Am.Spec Try.prog 81 args r := .of_W (W := W81) Try.func81 (by kernel_rfl) (by kernel_rfl) (by kernel_rfl) Try.ntmps81 W81_eq (by kernel_rfl) hl h

-- 82 "penance/expr.children"
def W82_b1 (Φ : EP) (s : St) : Prop :=
  @sOp (some 2) (xMov (.int .i64 0) s.H) s <| .mk fun s =>
  Φ .ret s
def W82_b2 (Φ : EP) (s : St) : Prop :=
  @sOp (some 2) (xMov (.int .i64 1) s.H) s <| .mk fun s =>
  Φ .ret s
def W82_b3 (Φ : EP) (s : St) : Prop :=
  @sOp (some 2) (xMov (.int .i64 2) s.H) s <| .mk fun s =>
  Φ .ret s
def W82_b6 (Φ : EP) (s : St) : Prop :=
  @sMv 11 0 s <| .mk fun s =>
  @sOp (some 12) (xBin .eql false (s.τ 11) (.int .i64 3) s.H) s <| .mk fun s =>
  @sMv 13 12 s <| .mk fun s =>
  @sGm 14 0 13 false s <| .mk fun s =>
  @sGo 15 13 false s (fun s => (xBin .eql false (s.τ 14) (.int .i64 4) s.H)) <| .mk fun s =>
  @sOp (some 16) (xPick (s.τ 13) (.bool true) (s.τ 15) s.H) s <| .mk fun s =>
  @sMv 10 16 s <| .mk fun s =>
  @sIf (s.τ 10) ⟨W82_b2 Φ s⟩ ⟨W82_b3 Φ s⟩
def W82 (Φ : EP) (s : St) : Prop :=
  @sOp (some 2) (xMov (.int .i64 0) s.H) s <| .mk fun s =>
  @sMv 4 0 s <| .mk fun s =>
  @sOp (some 5) (xBin .eql false (s.τ 4) (.int .i64 1) s.H) s <| .mk fun s =>
  @sMv 6 5 s <| .mk fun s =>
  @sGm 7 0 6 false s <| .mk fun s =>
  @sGo 8 6 false s (fun s => (xBin .eql false (s.τ 7) (.int .i64 2) s.H)) <| .mk fun s =>
  @sOp (some 9) (xPick (s.τ 6) (.bool true) (s.τ 8) s.H) s <| .mk fun s =>
  @sMv 3 9 s <| .mk fun s =>
  @sIf (s.τ 3) ⟨W82_b1 Φ s⟩ ⟨W82_b6 Φ s⟩
theorem W82_rs (τ : Nat → AV) (H : Heap) : resV Try.prog τ H [.tmp 2] = some (τ 2) := by kernel_rfl
theorem W82_eq (Φ : EP) (s : St) : awp Try.prog (Try.f82.body.getD .skip) Φ s = W82 Φ s := by kernel_rfl
theorem W82_S {args : List AV} {r : AV} (hl : args.length ≤ 17) (h : ∀ vs, W82 (retK Try.prog [.tmp 2] r) ⟨Am.look (argT 0 args), hls [] vs, noG⟩) : Am.Spec Try.prog 82 args r := .of_W (W := W82) Try.func82 (by kernel_rfl) (by kernel_rfl) (by kernel_rfl) Try.ntmps82 W82_eq (by kernel_rfl) hl h

-- 83 "penance/term.active$1"

def W83 (Φ : EP) (s : St) : Prop :=
  @sLd 3 9 1 true s <| .mk fun s =>
  @sMv 4 0 s <| .mk fun s =>
  @sCall Try.prog (.func 84 []) [(s.τ 3), (s.τ 4)] (some 5) s <| .mk fun s =>
  Φ .normal s
theorem W83_rs (τ : Nat → AV) (H : Heap) : resV Try.prog τ H [] = ob (some []) fun vs => some (.tup vs) := by kernel_rfl
theorem W83_eq (Φ : EP) (s : St) : awp Try.prog (Try.f83.body.getD .skip) Φ s = W83 Φ s := by kernel_rfl
theorem W83_S {args : List AV} {r : AV} (hl : args.length ≤ 6) (h : ∀ vs, W83 (retK Try.prog [] r) ⟨Am.look (argT 0 args), hls [] vs, noG⟩) : Am.Spec Try.prog 83 args r := .of_W (W := W83) Try.func83 (by kernel_rfl) (by kernel_rfl) (by kernel_rfl) Try.ntmps83 W83_eq (by kernel_rfl) hl h

-- 84 "penance/term.walk"
def W84_b1 (Φ : EP) (s : St) : Prop :=
  @sOp (some 4) (xMov (.bool false) s.H) s <| .mk fun s =>
  Φ .ret s
def W84_k2 (Φ : EP) (s : St) : Prop :=
  @sOp (some 4) (xMov (.bool true) s.H) s <| .mk fun s =>
  Φ .ret s
def W84_b3 (Φ : EP) (L0 : SP) (s : St) : Prop :=
  @sOp (some 4) (xMov (.bool false) s.H) s <| .mk fun s =>
  Φ .ret s
def W84_b4 (Φ : EP) (L0 : SP) (s : St) : Prop :=
  @sOp (some 36) (xBin .add false (s.τ 28) (.int .i64 1) s.H) s <| .mk fun s =>
  @sMv 28 36 s <| .mk fun s =>
  L0 s
def W84_b6 (Φ : EP) (L0 : SP) (s : St) : Prop :=
  @sOp (some 30) (xIx 9 (s.τ 26) (s.τ 28) s.H) s <| .mk fun s =>
  @sLd 31 9 30 true s <| .mk fun s =>
  @sOp (some 7) (xAlloc 7 29 [.int .i64 0, .int .i64 0, .int .i64 0, .str ⟨#[]⟩, .int .i64 0, .int .i64 0, .str ⟨#[]⟩, .nils, .nils] s.H) s <| .mk fun s =>
  @sOp none (xStore 9 (s.τ 7) (s.τ 31) s.H) s <| .mk fun s =>
  @sLd 32 9 7 true s <| .mk fun s =>
  @sMv 33 1 s <| .mk fun s =>
  @sCall Try.prog (.func 84 []) [(s.τ 32), (s.τ 33)] (some 34) s <| .mk fun s =>
  @sOp (some 35) (xNot (s.τ 34) s.H) s <| .mk fun s =>
  @sIf (s.τ 35) ⟨W84_b3 Φ L0 s⟩ ⟨W84_b4 Φ L0 s⟩
def W84_l7 (Φ : EP) (L0 : SP) (s : St) : Prop :=
  @sOp (some 29) (xBin .lss false (s.τ 28) (s.τ 27) s.H) s <| .mk fun s =>
  @sIf (s.τ 29) ⟨W84_b6 Φ L0 s⟩ ⟨W84_k2 Φ s⟩
def W84_k8 (Φ : EP) (s : St) : Prop :=
  @sMv 26 5 s <| .mk fun s =>
  @sOp (some 27) (xLen (s.τ 26) s.H) s <| .mk fun s =>
  @sOp (some 28) (xMov (.int .i64 0) s.H) s <| .mk fun s =>
  @sLoop s ⟨fun L0 s => W84_l7 Φ L0 s⟩
def W84_b9 (Φ : EP) (s : St) : Prop :=
  @sMv 18 5 s <| .mk fun s =>
  @sMv 19 5 s <| .mk fun s =>
  @sOp (some 20) (xLen (s.τ 19) s.H) s <| .mk fun s =>
  @sOp (some 21) (xMin (s.τ 20) (.int .i64 1) s.H) s <| .mk fun s =>
  @sOp (some 22) (xSlc 9 (s.τ 18) none (some (s.τ 21)) s.H) s <| .mk fun s =>
  @sMv 5 22 s <| .mk fun s =>
  W84_k8 Φ s
def W84_b10 (Φ : EP) (s : St) : Prop :=
  @sOp (some 4) (xMov (.bool true) s.H) s <| .mk fun s =>
  Φ .ret s
def W84_k11 (Φ : EP) (s : St) : Prop :=
  @sIf (s.τ 23) ⟨W84_k8 Φ s⟩ ⟨W84_b10 Φ s⟩
def W84_b12 (Φ : EP) (s : St) : Prop :=
  @sOp (some 25) (xBin .eql false (s.τ 15) (.int .i64 7) s.H) s <| .mk fun s =>
  @sMv 23 25 s <| .mk fun s =>
  W84_k11 Φ s
def W84_b13 (Φ : EP) (s : St) : Prop :=
  @sOp (some 24) (xBin .eql false (s.τ 15) (.int .i64 11) s.H) s <| .mk fun s =>
  @sMv 23 24 s <| .mk fun s =>
  @sIf (s.τ 23) ⟨W84_k11 Φ s⟩ ⟨W84_b12 Φ s⟩
def W84_b14 (Φ : EP) (s : St) : Prop :=
  @sFl 12 8 2 s <| .mk fun s =>
  @sLd 13 1 12 false s <| .mk fun s =>
  @sMv 5 13 s <| .mk fun s =>
  @sFl 14 0 2 s <| .mk fun s =>
  @sLd 15 1 14 false s <| .mk fun s =>
  @sOp (some 17) (xBin .eql false (s.τ 15) (.int .i64 12) s.H) s <| .mk fun s =>
  @sMv 16 17 s <| .mk fun s =>
  @sIf (s.τ 16) ⟨W84_b9 Φ s⟩ ⟨W84_b13 Φ s⟩
def W84 (Φ : EP) (s : St) : Prop :=
  @sOp (some 2) (xBox 2 29 (s.τ 0) s.H) s <| .mk fun s =>
  @sOp (some 4) (xMov (.bool false) s.H) s <| .mk fun s =>
  @sMv 8 1 s <| .mk fun s =>
  @sLd 9 9 2 true s <| .mk fun s =>
  @sCall Try.prog (s.τ 8) [(s.τ 9)] (some 10) s <| .mk fun s =>
  @sOp (some 11) (xNot (s.τ 10) s.H) s <| .mk fun s =>
  @sIf (s.τ 11) ⟨W84_b1 Φ s⟩ ⟨W84_b14 Φ s⟩
theorem W84_rs (τ : Nat → AV) (H : Heap) : resV Try.prog τ H [.tmp 4] = some (τ 4) := by kernel_rfl
theorem W84_eq (Φ : EP) (s : St) : awp Try.prog (Try.f84.body.getD .skip) Φ s = W84 Φ s := by kernel_rfl
theorem W84_S {args : List AV} {r : AV} (hl : args.length ≤ 37) (h : ∀ vs, W84 (retK Try.prog [.tmp 4] r) ⟨Am.look (argT 0 args), hls [] vs, noG⟩) : Am.Spec Try.prog 84 args r := .of_W (W := W84) Try.func84 (by kernel_rfl) (by kernel_rfl) (by kernel_rfl) Try.ntmps84 W84_eq (by kernel_rfl) hl h

-- 85 "slices.Contains[[]string,string]"

def W85 (Φ : EP) (s : St) : Prop :=
  @sOp (some 4) (xMov (.bool false) s.H) s <| .mk fun s =>
  @sMv 5 0 s <| .mk fun s =>
  @sMv 6 1 s <| .mk fun s =>
  @sCall Try.prog (.func 90 []) [(s.τ 5), (s.τ 6)] (some 7) s <| .mk fun s =>
  @sOp (some 8) (xBin .geq false (s.τ 7) (.int .i64 0) s.H) s <| .mk fun s =>
  @sMv 4 8 s <| .mk fun s =>
  Φ .ret s
theorem W85_rs (τ : Nat → AV) (H : Heap) : resV Try.prog τ H [.tmp 4] = some (τ 4) := by kernel_rfl
theorem W85_eq (Φ : EP) (s : St) : awp Try.prog (Try.f85.body.getD .skip) Φ s = W85 Φ s := by kernel_rfl
theorem W85_S {args : List AV} {r : AV} (hl : args.length ≤ 9) (h : ∀ vs, W85 (retK Try.prog [.tmp 4] r) ⟨Am.look (argT 0 args), hls [] vs, noG⟩) : Am.Spec Try.prog 85 args r := .of_W (W := W85) Try.func85 (by kernel_rfl) (by kernel_rfl) (by kernel_rfl) Try.ntmps85 W85_eq (by kernel_rfl) hl h

-- 86 "penance/lex.words"

def W86 (Φ : EP) (s : St) : Prop :=
  @sOp (some 0) (xMov (.nils) s.H) s <| .mk fun s =>
  @sOp (some 1) (xLit 1 16 [.str ⟨#[]⟩] [(0, (.str ⟨#[118, 97, 114]⟩)), (1, (.str ⟨#[115, 116, 97, 99, 107]⟩)), (2, (.str ⟨#[112, 114, 111, 99]⟩)), (3, (.str ⟨#[115, 107, 105, 112]⟩)), (4, (.str ⟨#[100, 111]⟩)), (5, (.str ⟨#[112, 117, 115, 104]⟩)), (6, (.str ⟨#[114, 101, 118, 101, 114, 115, 101]⟩)), (7, (.str ⟨#[97, 99, 99, 101, 112, 116]⟩)), (8, (.str ⟨#[109, 101, 114, 103, 101]⟩)), (9, (.str ⟨#[98, 108, 111, 99, 107]⟩)), (10, (.str ⟨#[101, 120, 105, 116]⟩)), (11, (.str ⟨#[105, 102]⟩)), (12, (.str ⟨#[101, 108, 115, 101]⟩)), (13, (.str ⟨#[99, 104, 111, 111, 115, 101]⟩)), (14, (.str ⟨#[112, 97, 114]⟩)), (15, (.str ⟨#[99, 97, 108, 108]⟩))] s.H) s <| .mk fun s =>
  @sMv 0 1 s <| .mk fun s =>
  Φ .ret s
theorem W86_rs (τ : Nat → AV) (H : Heap) : resV Try.prog τ H [.tmp 0] = some (τ 0) := by kernel_rfl
theorem W86_eq (Φ : EP) (s : St) : awp Try.prog (Try.f86.body.getD .skip) Φ s = W86 Φ s := by kernel_rfl
theorem W86_S {args : List AV} {r : AV} (hl : args.length ≤ 2) (h : ∀ vs, W86 (retK Try.prog [.tmp 0] r) ⟨Am.look (argT 0 args), hls [] vs, noG⟩) : Am.Spec Try.prog 86 args r := .of_W (W := W86) Try.func86 (by kernel_rfl) (by kernel_rfl) (by kernel_rfl) Try.ntmps86 W86_eq (by kernel_rfl) hl h

-- 87 "penance/lex.digit"

def W87 (Φ : EP) (s : St) : Prop :=
  @sOp (some 2) (xMov (.bool false) s.H) s <| .mk fun s =>
  @sMv 3 0 s <| .mk fun s =>
  @sOp (some 4) (xBin .geq false (s.τ 3) (.int .u8 48) s.H) s <| .mk fun s =>
  @sMv 5 4 s <| .mk fun s =>
  @sGm 6 0 5 true s <| .mk fun s =>
  @sGo 7 5 true s (fun s => (xBin .leq false (s.τ 6) (.int .u8 57) s.H)) <| .mk fun s =>
  @sOp (some 8) (xPick (s.τ 5) (s.τ 7) (.bool false) s.H) s <| .mk fun s =>
  @sMv 2 8 s <| .mk fun s =>
  Φ .ret s
theorem W87_rs (τ : Nat → AV) (H : Heap) : resV Try.prog τ H [.tmp 2] = some (τ 2) := by kernel_rfl
theorem W87_eq (Φ : EP) (s : St) : awp Try.prog (Try.f87.body.getD .skip) Φ s = W87 Φ s := by kernel_rfl
theorem W87_S {args : List AV} {r : AV} (hl : args.length ≤ 9) (h : ∀ vs, W87 (retK Try.prog [.tmp 2] r) ⟨Am.look (argT 0 args), hls [] vs, noG⟩) : Am.Spec Try.prog 87 args r := .of_W (W := W87) Try.func87 (by kernel_rfl) (by kernel_rfl) (by kernel_rfl) Try.ntmps87 W87_eq (by kernel_rfl) hl h

-- 88 "penance/expr.all$1"

def W88 (Φ : EP) (s : St) : Prop :=
  @sLd 3 4 1 true s <| .mk fun s =>
  @sMv 4 0 s <| .mk fun s =>
  @sCall Try.prog (.func 89 []) [(s.τ 3), (s.τ 4)] (some 5) s <| .mk fun s =>
  Φ .normal s
theorem W88_rs (τ : Nat → AV) (H : Heap) : resV Try.prog τ H [] = ob (some []) fun vs => some (.tup vs) := by kernel_rfl
theorem W88_eq (Φ : EP) (s : St) : awp Try.prog (Try.f88.body.getD .skip) Φ s = W88 Φ s := by kernel_rfl
theorem W88_S {args : List AV} {r : AV} (hl : args.length ≤ 6) (h : ∀ vs, W88 (retK Try.prog [] r) ⟨Am.look (argT 0 args), hls [] vs, noG⟩) : Am.Spec Try.prog 88 args r := .of_W (W := W88) Try.func88 (by kernel_rfl) (by kernel_rfl) (by kernel_rfl) Try.ntmps88 W88_eq (by kernel_rfl) hl h

-- 89 "penance/expr.walk"
def W89_b1 (Φ : EP) (s : St) : Prop :=
  @sOp (some 4) (xMov (.bool false) s.H) s <| .mk fun s =>
  Φ .ret s
def W89_k2 (Φ : EP) (s : St) : Prop :=
  @sOp (some 4) (xMov (.bool true) s.H) s <| .mk fun s =>
  Φ .ret s
def W89_b3 (Φ : EP) (L0 : SP) (s : St) : Prop :=
  @sOp (some 4) (xMov (.bool false) s.H) s <| .mk fun s =>
  Φ .ret s
def W89_b4 (Φ : EP) (L0 : SP) (s : St) : Prop :=
  @sOp (some 22) (xBin .add false (s.τ 14) (.int .i64 1) s.H) s <| .mk fun s =>
  @sMv 14 22 s <| .mk fun s =>
  L0 s
def W89_b6 (Φ : EP) (L0 : SP) (s : St) : Prop :=
  @sOp (some 16) (xIx 4 (s.τ 12) (s.τ 14) s.H) s <| .mk fun s =>
  @sLd 17 4 16 true s <| .mk fun s =>
  @sOp (some 6) (xAlloc 6 27 [.int .i64 0, .int .i64 0, .str ⟨#[]⟩, .nils] s.H) s <| .mk fun s =>
  @sOp none (xStore 4 (s.τ 6) (s.τ 17) s.H) s <| .mk fun s =>
  @sLd 18 4 6 true s <| .mk fun s =>
  @sMv 19 1 s <| .mk fun s =>
  @sCall Try.prog (.func 89 []) [(s.τ 18), (s.τ 19)] (some 20) s <| .mk fun s =>
  @sOp (some 21) (xNot (s.τ 20) s.H) s <| .mk fun s =>
  @sIf (s.τ 21) ⟨W89_b3 Φ L0 s⟩ ⟨W89_b4 Φ L0 s⟩
def W89_l7 (Φ : EP) (L0 : SP) (s : St) : Prop :=
  @sOp (some 15) (xBin .lss false (s.τ 14) (s.τ 13) s.H) s <| .mk fun s =>
  @sIf (s.τ 15) ⟨W89_b6 Φ L0 s⟩ ⟨W89_k2 Φ s⟩
def W89_b8 (Φ : EP) (s : St) : Prop :=
  @sFl 11 3 2 s <| .mk fun s =>
  @sLd 12 1 11 false s <| .mk fun s =>
  @sOp (some 13) (xLen (s.τ 12) s.H) s <| .mk fun s =>
  @sOp (some 14) (xMov (.int .i64 0) s.H) s <| .mk fun s =>
  @sLoop s ⟨fun L0 s => W89_l7 Φ L0 s⟩
def W89 (Φ : EP) (s : St) : Prop :=
  @sOp (some 2) (xBox 2 27 (s.τ 0) s.H) s <| .mk fun s =>
  @sOp (some 4) (xMov (.bool false) s.H) s <| .mk fun s =>
  @sMv 7 1 s <| .mk fun s =>
  @sLd 8 4 2 true s <| .mk fun s =>
  @sCall Try.prog (s.τ 7) [(s.τ 8)] (some 9) s <| .mk fun s =>
  @sOp (some 10) (xNot (s.τ 9) s.H) s <| .mk fun s =>
  @sIf (s.τ 10) ⟨W89_b1 Φ s⟩ ⟨W89_b8 Φ s⟩
theorem W89_rs (τ : Nat → AV) (H : Heap) : resV Try.prog τ H [.tmp 4] = some (τ 4) := by kernel_rfl
theorem W89_eq (Φ : EP) (s : St) : awp Try.prog (Try.f89.body.getD .skip) Φ s = W89 Φ s := by kernel_rfl
theorem W89_S {args : List AV} {r : AV} (hl : args.length ≤ 23) (h : ∀ vs, W89 (retK Try.prog [.tmp 4] r) ⟨Am.look (argT 0 args), hls [] vs, noG⟩) : Am.Spec Try.prog 89 args r := .of_W (W := W89) Try.func89 (by kernel_rfl) (by kernel_rfl) (by kernel_rfl) Try.ntmps89 W89_eq (by kernel_rfl) hl h

-- 90 "slices.Index[[]string,string]"
def W90_k1 (Φ : EP) (s : St) : Prop :=
  @sOp (some 4) (xMov (.int .i64 (-1)) s.H) s <| .mk fun s =>
  Φ .ret s
def W90_b2 (Φ : EP) (L0 : SP) (s : St) : Prop :=
  @sMv 17 5 s <| .mk fun s =>
  @sMv 4 17 s <| .mk fun s =>
  Φ .ret s
def W90_b3 (Φ : EP) (L0 : SP) (s : St) : Prop :=
  @sOp (some 18) (xBin .add false (s.τ 8) (.int .i64 1) s.H) s <| .mk fun s =>
  @sMv 8 18 s <| .mk fun s =>
  L0 s
def W90_b4 (Φ : EP) (L0 : SP) (s : St) : Prop :=
  @sMv 10 8 s <| .mk fun s =>
  @sMv 5 10 s <| .mk fun s =>
  @sMv 11 1 s <| .mk fun s =>
  @sMv 12 0 s <| .mk fun s =>
  @sMv 13 5 s <| .mk fun s =>
  @sOp (some 14) (xIx 1 (s.τ 12) (s.τ 13) s.H) s <| .mk fun s =>
  @sLd 15 1 14 false s <| .mk fun s =>
  @sOp (some 16) (xBin .eql false (s.τ 11) (s.τ 15) s.H) s <| .mk fun s =>
  @sIf (s.τ 16) ⟨W90_b2 Φ L0 s⟩ ⟨W90_b3 Φ L0 s⟩
def W90_l5 (Φ : EP) (L0 : SP) (s : St) : Prop :=
  @sOp (some 9) (xBin .lss false (s.τ 8) (s.τ 7) s.H) s <| .mk fun s =>
  @sIf (s.τ 9) ⟨W90_b4 Φ L0 s⟩ ⟨W90_k1 Φ s⟩
def W90 (Φ : EP) (s : St) : Prop :=
  @sOp (some 4) (xMov (.int .i64 0) s.H) s <| .mk fun s =>
  @sMv 6 0 s <| .mk fun s =>
  @sOp (some 7) (xLen (s.τ 6) s.H) s <| .mk fun s =>
  @sOp (some 8) (xMov (.int .i64 0) s.H) s <| .mk fun s =>
  @sLoop s ⟨fun L0 s => W90_l5 Φ L0 s⟩
theorem W90_rs (τ : Nat → AV) (H : Heap) : resV Try.prog τ H [.tmp 4] = some (τ 4) := by kernel_rfl
theorem W90_eq (Φ : EP) (s : St) : awp Try.prog (Try.f90.body.getD .skip) Φ s = W90 Φ s := by kernel_rfl
theorem W90_S {args : List AV} {r : AV} (hl : args.length ≤ 19) (h : ∀ vs, W90 (retK Try.prog [.tmp 4] r) ⟨Am.look (argT 0 args), hls [] vs, noG⟩) : Am.Spec Try.prog 90 args r := .of_W (W := W90) Try.func90 (by kernel_rfl) (by kernel_rfl) (by kernel_rfl) Try.ntmps90 W90_eq (by kernel_rfl) hl h

end Go.Proofs.Ytnngddgaobhkiaa
