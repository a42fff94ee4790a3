import Derived.Test.YtkagfenchknjjaaGA5
import Derived.Test.YtkagfenchknjjaaProg
import Derived.KernelRfl
set_option linter.unusedVariables false
namespace Go.Proofs.Ytkagfenchknjjaa
open Go Go.Am

end Go.Proofs.Ytkagfenchknjjaa
set_option linter.unusedVariables false
namespace Go.Proofs.Ytkagfenchknjjaa
open Go Go.Am
-- 12 "penance/penancelaw5.TermAll"
def W12_b1 (P : Program) (Φ : EP) (s : St) : Prop :=
  @sOp (some 10) (xMov (.bool false) s.H) s <| .mk fun s =>
  Φ .ret s
def W12_b2 (P : Program) (Φ : EP) (s : St) : Prop :=
  @sOp (some 10) (xMov (.bool true) s.H) s <| .mk fun s =>
  Φ .ret s
def W12_c3 (P : Program) (Φ : EP) (s : St) : Prop :=
  @sOp (some 89) (xPick (s.τ 83) (s.τ 88) (.bool false) s.H) s <| .mk fun u32 =>
  @sMv 10 89 u32 <| .mk fun s =>
  Φ .ret s
def W12_c4 (P : Program) (Φ : EP) (s : St) : Prop :=
  @sGrd (guardOf (s.τ 83) true) (some 88) s ⟨fun s K => @sCall0 P (.func 27 []) [(s.τ 85), (s.τ 87)] (some 88) s ⟨K⟩⟩ ⟨W12_c3 P Φ⟩
def W12_c5 (P : Program) (Φ : EP) (s : St) : Prop :=
  @sGrd (guardOf (s.τ 83) true) (some 87) s ⟨fun s K => @sCall0 P (.func 31 []) [(s.τ 86)] (some 87) s ⟨K⟩⟩ ⟨W12_c4 P Φ⟩
def W12_c6 (P : Program) (Φ : EP) (u27 : St) (s : St) : Prop :=
  @sChk (compat (cfp 85 41 [(u27.τ 84)]) (occ (s.τ 11), [])) <| .mk <|
  @sGl 86 9 11 83 true true s ⟨W12_c5 P Φ⟩
def W12_c7 (P : Program) (Φ : EP) (s : St) : Prop :=
  @sGrd (guardOf (s.τ 83) true) (some 85) s ⟨fun s K => @sCall0 P (.func 41 []) [(s.τ 84)] (some 85) s ⟨K⟩⟩ ⟨W12_c6 P Φ s⟩
def W12_c8 (P : Program) (Φ : EP) (s : St) : Prop :=
  @sOp (some 82) (xPick (s.τ 76) (s.τ 81) (.bool false) s.H) s <| .mk fun u25 =>
  @sMv 83 82 u25 <| .mk fun u26 =>
  @sGl 84 9 11 83 true true u26 ⟨W12_c7 P Φ⟩
def W12_c9 (P : Program) (Φ : EP) (s : St) : Prop :=
  @sGrd (guardOf (s.τ 76) true) (some 81) s ⟨fun s K => @sCall0 P (.func 39 []) [(s.τ 78), (s.τ 80)] (some 81) s ⟨K⟩⟩ ⟨W12_c8 P Φ⟩
def W12_c10 (P : Program) (Φ : EP) (s : St) : Prop :=
  @sGrd (guardOf (s.τ 76) true) (some 80) s ⟨fun s K => @sCall0 P (.func 22 []) [(s.τ 79)] (some 80) s ⟨K⟩⟩ ⟨W12_c9 P Φ⟩
def W12_c11 (P : Program) (Φ : EP) (u20 : St) (s : St) : Prop :=
  @sChk (compat (cfp 78 40 [(u20.τ 77)]) (occ (s.τ 11), [])) <| .mk <|
  @sGl 79 9 11 76 true true s ⟨W12_c10 P Φ⟩
def W12_c12 (P : Program) (Φ : EP) (s : St) : Prop :=
  @sGrd (guardOf (s.τ 76) true) (some 78) s ⟨fun s K => @sCall0 P (.func 40 []) [(s.τ 77)] (some 78) s ⟨K⟩⟩ ⟨W12_c11 P Φ s⟩
def W12_c13 (P : Program) (Φ : EP) (s : St) : Prop :=
  @sOp (some 75) (xPick (s.τ 67) (s.τ 74) (.bool false) s.H) s <| .mk fun u18 =>
  @sMv 76 75 u18 <| .mk fun u19 =>
  @sGl 77 9 11 76 true true u19 ⟨W12_c12 P Φ⟩
def W12_c14 (P : Program) (Φ : EP) (s : St) : Prop :=
  @sGrd (guardOf (s.τ 67) true) (some 74) s ⟨fun s K => @sOp (some 74) (xBin .eql true (s.τ 70) (s.τ 73) s.H) s ⟨K⟩⟩ ⟨W12_c13 P Φ⟩
def W12_c15 (P : Program) (Φ : EP) (s : St) : Prop :=
  @sGrd (guardOf (s.τ 67) true) (some 73) s ⟨fun s K => @sCall0 P (.func 39 []) [(s.τ 71), (s.τ 72)] (some 73) s ⟨K⟩⟩ ⟨W12_c14 P Φ⟩
def W12_c16 (P : Program) (Φ : EP) (u12 : St) (s : St) : Prop :=
  @sChk (compat (cfp 70 38 [(u12.τ 68), (u12.τ 69)]) (occ (s.τ 12), [])) <| .mk <|
  @sGl 72 9 12 67 true true s ⟨W12_c15 P Φ⟩
def W12_c17 (P : Program) (Φ : EP) (u12 : St) (s : St) : Prop :=
  @sChk (compat (cfp 70 38 [(u12.τ 68), (u12.τ 69)]) (occ (s.τ 11), [])) <| .mk <|
  @sGl 71 9 11 67 true true s ⟨W12_c16 P Φ u12⟩
def W12_c18 (P : Program) (Φ : EP) (s : St) : Prop :=
  @sGrd (guardOf (s.τ 67) true) (some 70) s ⟨fun s K => @sCall0 P (.func 38 []) [(s.τ 68), (s.τ 69)] (some 70) s ⟨K⟩⟩ ⟨W12_c17 P Φ s⟩
def W12_c19 (P : Program) (Φ : EP) (s : St) : Prop :=
  @sGl 69 9 12 67 true true s ⟨W12_c18 P Φ⟩
def W12_c20 (P : Program) (Φ : EP) (s : St) : Prop :=
  @sOp (some 66) (xPick (s.τ 60) (s.τ 65) (.bool false) s.H) s <| .mk fun u9 =>
  @sMv 67 66 u9 <| .mk fun u10 =>
  @sGl 68 9 11 67 true true u10 ⟨W12_c19 P Φ⟩
def W12_c21 (P : Program) (Φ : EP) (s : St) : Prop :=
  @sGrd (guardOf (s.τ 60) true) (some 65) s ⟨fun s K => @sOp (some 65) (xBin .eql false (s.τ 62) (s.τ 64) s.H) s ⟨K⟩⟩ ⟨W12_c20 P Φ⟩
def W12_c22 (P : Program) (Φ : EP) (s : St) : Prop :=
  @sGrd (guardOf (s.τ 60) true) (some 64) s ⟨fun s K => @sCall0 P (.func 37 []) [(s.τ 63)] (some 64) s ⟨K⟩⟩ ⟨W12_c21 P Φ⟩
def W12_c23 (P : Program) (Φ : EP) (u4 : St) (s : St) : Prop :=
  @sChk (compat (cfp 62 36 [(u4.τ 61)]) (occ (s.τ 11), [])) <| .mk <|
  @sGl 63 9 11 60 true true s ⟨W12_c22 P Φ⟩
def W12_c24 (P : Program) (Φ : EP) (s : St) : Prop :=
  @sGrd (guardOf (s.τ 60) true) (some 62) s ⟨fun s K => @sCall0 P (.func 36 []) [(s.τ 61)] (some 62) s ⟨K⟩⟩ ⟨W12_c23 P Φ s⟩
def W12_c25 (P : Program) (Φ : EP) (s : St) : Prop :=
  @sMv 60 59 s <| .mk fun u3 =>
  @sGl 61 9 11 60 true true u3 ⟨W12_c24 P Φ⟩
def W12_k26 (P : Program) (Φ : EP) (s : St) : Prop :=
  @sLd 58 9 11 true s <| .mk fun u1 =>
  @sCall0 P (.func 34 []) [(u1.τ 58), (.int .i64 3), (.int .i64 2), (.int .i64 5)] (some 59) u1 ⟨W12_c25 P Φ⟩
def W12_b27 (P : Program) (Φ : EP) (L0 : SP) (s : St) : Prop :=
  @sOp (some 10) (xMov (.bool false) s.H) s <| .mk fun s =>
  Φ .ret s
def W12_b28 (P : Program) (Φ : EP) (L0 : SP) (s : St) : Prop :=
  @sMv 31 13 s <| .mk fun s =>
  @sOp (some 32) (xBin .add false (s.τ 31) (.int .i64 1) s.H) s <| .mk fun s =>
  @sMv 13 32 s <| .mk fun s =>
  L0 s
def W12_c29 (P : Program) (Φ : EP) (L0 : SP) (s : St) : Prop :=
  @sOp (some 57) (xPick (s.τ 49) (.bool true) (s.τ 56) s.H) s <| .mk fun s =>
  @sIf (s.τ 57) ⟨W12_b27 P Φ L0 s⟩ ⟨W12_b28 P Φ L0 s⟩
def W12_c30 (P : Program) (Φ : EP) (L0 : SP) (s : St) : Prop :=
  @sGrd (guardOf (s.τ 49) false) (some 56) s ⟨fun s K => @sOp (some 56) (xBin .neq true (s.τ 52) (s.τ 55) s.H) s ⟨K⟩⟩ ⟨W12_c29 P Φ L0⟩
def W12_c31 (P : Program) (Φ : EP) (L0 : SP) (s : St) : Prop :=
  @sGrd (guardOf (s.τ 49) false) (some 55) s ⟨fun s K => @sCall0 P (.func 35 []) [(s.τ 53), (.int .i64 3), (.int .i64 2), (s.τ 54)] (some 55) s ⟨K⟩⟩ ⟨W12_c30 P Φ L0⟩
def W12_c32 (P : Program) (Φ : EP) (L0 : SP) (s : St) : Prop :=
  @sGm 54 13 49 false s ⟨W12_c31 P Φ L0⟩
def W12_c33 (P : Program) (Φ : EP) (L0 : SP) (u19 : St) (s : St) : Prop :=
  @sChk (compat (cfp 52 34 [(u19.τ 50), (.int .i64 3), (.int .i64 2), (u19.τ 51)]) (occ (s.τ 11), [])) <| .mk <|
  @sGl 53 9 11 49 true false s ⟨W12_c32 P Φ L0⟩
def W12_c34 (P : Program) (Φ : EP) (L0 : SP) (s : St) : Prop :=
  @sGrd (guardOf (s.τ 49) false) (some 52) s ⟨fun s K => @sCall0 P (.func 34 []) [(s.τ 50), (.int .i64 3), (.int .i64 2), (s.τ 51)] (some 52) s ⟨K⟩⟩ ⟨W12_c33 P Φ L0 s⟩
def W12_c35 (P : Program) (Φ : EP) (L0 : SP) (s : St) : Prop :=
  @sGm 51 13 49 false s ⟨W12_c34 P Φ L0⟩
def W12_c36 (P : Program) (Φ : EP) (L0 : SP) (s : St) : Prop :=
  @sOp (some 48) (xPick (s.τ 40) (.bool true) (s.τ 47) s.H) s <| .mk fun u16 =>
  @sMv 49 48 u16 <| .mk fun u17 =>
  @sGl 50 9 11 49 true false u17 ⟨W12_c35 P Φ L0⟩
def W12_c37 (P : Program) (Φ : EP) (L0 : SP) (s : St) : Prop :=
  @sGrd (guardOf (s.τ 40) false) (some 47) s ⟨fun s K => @sOp (some 47) (xBin .neq true (s.τ 43) (s.τ 46) s.H) s ⟨K⟩⟩ ⟨W12_c36 P Φ L0⟩
def W12_c38 (P : Program) (Φ : EP) (L0 : SP) (s : St) : Prop :=
  @sGrd (guardOf (s.τ 40) false) (some 46) s ⟨fun s K => @sCall0 P (.func 35 []) [(s.τ 44), (.int .i64 3), (s.τ 45), (.int .i64 5)] (some 46) s ⟨K⟩⟩ ⟨W12_c37 P Φ L0⟩
def W12_c39 (P : Program) (Φ : EP) (L0 : SP) (s : St) : Prop :=
  @sGm 45 13 40 false s ⟨W12_c38 P Φ L0⟩
def W12_c40 (P : Program) (Φ : EP) (L0 : SP) (u10 : St) (s : St) : Prop :=
  @sChk (compat (cfp 43 34 [(u10.τ 41), (.int .i64 3), (u10.τ 42), (.int .i64 5)]) (occ (s.τ 11), [])) <| .mk <|
  @sGl 44 9 11 40 true false s ⟨W12_c39 P Φ L0⟩
def W12_c41 (P : Program) (Φ : EP) (L0 : SP) (s : St) : Prop :=
  @sGrd (guardOf (s.τ 40) false) (some 43) s ⟨fun s K => @sCall0 P (.func 34 []) [(s.τ 41), (.int .i64 3), (s.τ 42), (.int .i64 5)] (some 43) s ⟨K⟩⟩ ⟨W12_c40 P Φ L0 s⟩
def W12_c42 (P : Program) (Φ : EP) (L0 : SP) (s : St) : Prop :=
  @sGm 42 13 40 false s ⟨W12_c41 P Φ L0⟩
def W12_c43 (P : Program) (Φ : EP) (L0 : SP) (s : St) : Prop :=
  @sOp (some 39) (xBin .neq true (s.τ 35) (s.τ 38) s.H) s <| .mk fun u7 =>
  @sMv 40 39 u7 <| .mk fun u8 =>
  @sGl 41 9 11 40 true false u8 ⟨W12_c42 P Φ L0⟩
def W12_c44 (P : Program) (Φ : EP) (L0 : SP) (u2 : St) (s : St) : Prop :=
  @sChk (compat (cfp 35 34 [(u2.τ 33), (u2.τ 34), (.int .i64 2), (.int .i64 5)]) (occ (s.τ 12), [])) <| .mk <|
  @sLd 36 9 12 true s <| .mk fun u4 =>
  @sMv 37 13 u4 <| .mk fun u5 =>
  @sCall0 P (.func 35 []) [(u5.τ 36), (u5.τ 37), (.int .i64 2), (.int .i64 5)] (some 38) u5 ⟨W12_c43 P Φ L0⟩
def W12_b45 (P : Program) (Φ : EP) (L0 : SP) (s : St) : Prop :=
  @sLd 33 9 12 true s <| .mk fun u1 =>
  @sMv 34 13 u1 <| .mk fun u2 =>
  @sCall0 P (.func 34 []) [(u2.τ 33), (u2.τ 34), (.int .i64 2), (.int .i64 5)] (some 35) u2 ⟨W12_c44 P Φ L0 u2⟩
def W12_l46 (P : Program) (Φ : EP) (L0 : SP) (s : St) : Prop :=
  @sMv 29 13 s <| .mk fun s =>
  @sOp (some 30) (xBin .lss false (s.τ 29) (.int .i64 4) s.H) s <| .mk fun s =>
  @sIf (s.τ 30) ⟨W12_b45 P Φ L0 s⟩ ⟨W12_k26 P Φ s⟩
def W12_c47 (P : Program) (Φ : EP) (s : St) : Prop :=
  @sOp (some 12) (xAlloc 12 34 [.int .i64 0, .int .i64 0, .int .i64 0, .str ⟨#[]⟩, .int .i64 0, .int .i64 0, .str ⟨#[]⟩, .nils, .nils] s.H) s <| .mk fun s =>
  @sOp none (xStore 9 (s.τ 12) (s.τ 28) s.H) s <| .mk fun s =>
  @sOp (some 13) (xMov (.int .i64 0) s.H) s <| .mk fun s =>
  @sLoop s ⟨fun L0 s => W12_l46 P Φ L0 s⟩
def W12_c48 (P : Program) (Φ : EP) (s : St) : Prop :=
  @sOp (some 11) (xAlloc 11 34 [.int .i64 0, .int .i64 0, .int .i64 0, .str ⟨#[]⟩, .int .i64 0, .int .i64 0, .str ⟨#[]⟩, .nils, .nils] s.H) s <| .mk fun s =>
  @sOp none (xStore 9 (s.τ 11) (s.τ 23) s.H) s <| .mk fun s =>
  @sLd 24 9 11 true s <| .mk fun s =>
  @sMv 25 2 s <| .mk fun s =>
  @sMv 26 3 s <| .mk fun s =>
  @sMv 27 4 s <| .mk fun s =>
  @sCall P (.func 33 []) [(s.τ 24), (s.τ 25), (s.τ 26), (s.τ 27)] (some 28) s ⟨W12_c47 P Φ⟩
def W12_b49 (P : Program) (Φ : EP) (s : St) : Prop :=
  @sLd 21 5 5 true s <| .mk fun s =>
  @sMv 22 1 s <| .mk fun s =>
  @sCall P (.func 23 []) [(s.τ 21), (s.τ 22)] (some 23) s ⟨W12_c48 P Φ⟩
def W12_c50 (P : Program) (Φ : EP) (s : St) : Prop :=
  @sOp (some 20) (xNot (s.τ 19) s.H) s <| .mk fun s =>
  @sIf (s.τ 20) ⟨W12_b2 P Φ s⟩ ⟨W12_b49 P Φ s⟩
def W12_b51 (P : Program) (Φ : EP) (s : St) : Prop :=
  @sLd 16 5 5 true s <| .mk fun s =>
  @sOp (some 17) (xLit 5 1 [.int .i64 0, .int .i64 0, .int .i64 0, .nils, .nils] [(0, (s.τ 16))] s.H) s <| .mk fun s =>
  @sOp (some 18) (xBuild [.int .i64 0, .int .i64 0, .nils] [(2, 1, (s.τ 17))] s.H) s <| .mk fun s =>
  @sCall P (.func 21 []) [(s.τ 18)] (some 19) s ⟨W12_c50 P Φ⟩
def W12_c52 (P : Program) (Φ : EP) (s : St) : Prop :=
  @sOp (some 15) (xNot (s.τ 14) s.H) s <| .mk fun s =>
  @sIf (s.τ 15) ⟨W12_b1 P Φ s⟩ ⟨W12_b51 P Φ s⟩
def W12 (P : Program) (Φ : EP) (s : St) : Prop :=
  @sOp (some 5) (xBox 5 25 (s.τ 0) s.H) s <| .mk fun s =>
  @sOp (some 10) (xMov (.bool false) s.H) s <| .mk fun s =>
  @sCall P (.func 32 []) [] (some 14) s ⟨W12_c52 P Φ⟩
theorem W12_rs (τ : Nat → AV) (H : Heap) : resV Try.prog τ H [.tmp 10] = some (τ 10) := by kernel_rfl
theorem W12_eq (Φ : EP) (s : St) : awp Try.prog (Try.f12.body.getD .skip) Φ s = W12 Try.prog Φ s := by kernel_rfl

-- 14 "penance/penancelaw5.TermNorms"
def W14_b1 (P : Program) (Φ : EP) (s : St) : Prop :=
  @sOp (some 4) (xMov (.bool false) s.H) s <| .mk fun s =>
  Φ .ret s
def W14_b2 (P : Program) (Φ : EP) (s : St) : Prop :=
  @sOp (some 4) (xMov (.bool true) s.H) s <| .mk fun s =>
  Φ .ret s
def W14_b3 (P : Program) (Φ : EP) (s : St) : Prop :=
  @sOp (some 4) (xMov (.bool false) s.H) s <| .mk fun s =>
  Φ .ret s
def W14_b4 (P : Program) (Φ : EP) (s : St) : Prop :=
  @sFl 65 0 10 s <| .mk fun s =>
  @sLd 66 1 65 false s <| .mk fun s =>
  @sOp (some 67) (xBin .eql false (s.τ 66) (.int .i64 0) s.H) s <| .mk fun s =>
  @sMv 4 67 s <| .mk fun s =>
  Φ .ret s
def W14_c5 (P : Program) (Φ : EP) (s : St) : Prop :=
  @sOp (some 88) (xPick (s.τ 85) (s.τ 87) (.bool false) s.H) s <| .mk fun s =>
  @sMv 4 88 s <| .mk fun s =>
  Φ .ret s
def W14_c6 (P : Program) (Φ : EP) (s : St) : Prop :=
  @sGrd (guardOf (s.τ 85) true) (some 87) s ⟨fun s K => @sCall0 P (.func 34 []) [(s.τ 86), (.int .i64 3), (.int .i64 2), (.int .i64 5)] (some 87) s ⟨K⟩⟩ ⟨W14_c5 P Φ⟩
def W14_c7 (P : Program) (Φ : EP) (s : St) : Prop :=
  @sOp (some 84) (xPick (s.τ 77) (s.τ 83) (.bool false) s.H) s <| .mk fun s =>
  @sMv 85 84 s <| .mk fun s =>
  @sGl 86 9 6 85 true true s ⟨W14_c6 P Φ⟩
def W14_c8 (P : Program) (Φ : EP) (s : St) : Prop :=
  @sGrd (guardOf (s.τ 77) true) (some 83) s ⟨fun s K => @sCall0 P (.func 39 []) [(s.τ 81), (s.τ 82)] (some 83) s ⟨K⟩⟩ ⟨W14_c7 P Φ⟩
def W14_c9 (P : Program) (Φ : EP) (s : St) : Prop :=
  @sGl 82 9 6 77 true true s ⟨W14_c8 P Φ⟩
def W14_c10 (P : Program) (Φ : EP) (s : St) : Prop :=
  @sGl 81 9 80 77 true true s ⟨W14_c9 P Φ⟩
def W14_c11 (P : Program) (Φ : EP) (s : St) : Prop :=
  @sGrd (guardOf (s.τ 77) true) (some 80) s ⟨fun s K => @sOp (some 80) (xIx 9 (s.τ 79) (.int .i64 0) s.H) s ⟨K⟩⟩ ⟨W14_c10 P Φ⟩
def W14_c12 (P : Program) (Φ : EP) (s : St) : Prop :=
  @sGl 79 1 78 77 false true s ⟨W14_c11 P Φ⟩
def W14_c13 (P : Program) (Φ : EP) (s : St) : Prop :=
  @sOp (some 76) (xPick (s.τ 71) (s.τ 75) (.bool false) s.H) s <| .mk fun s =>
  @sMv 77 76 s <| .mk fun s =>
  @sGf 78 8 10 77 true s ⟨W14_c12 P Φ⟩
def W14_c14 (P : Program) (Φ : EP) (s : St) : Prop :=
  @sGrd (guardOf (s.τ 71) true) (some 75) s ⟨fun s K => @sOp (some 75) (xBin .eql false (s.τ 74) (.int .i64 1) s.H) s ⟨K⟩⟩ ⟨W14_c13 P Φ⟩
def W14_c15 (P : Program) (Φ : EP) (s : St) : Prop :=
  @sGrd (guardOf (s.τ 71) true) (some 74) s ⟨fun s K => @sOp (some 74) (xLen (s.τ 73) s.H) s ⟨K⟩⟩ ⟨W14_c14 P Φ⟩
def W14_c16 (P : Program) (Φ : EP) (s : St) : Prop :=
  @sGl 73 1 72 71 false true s ⟨W14_c15 P Φ⟩
def W14_b17 (P : Program) (Φ : EP) (s : St) : Prop :=
  @sFl 68 0 10 s <| .mk fun s =>
  @sLd 69 1 68 false s <| .mk fun s =>
  @sOp (some 70) (xBin .eql false (s.τ 69) (.int .i64 7) s.H) s <| .mk fun s =>
  @sMv 71 70 s <| .mk fun s =>
  @sGf 72 8 10 71 true s ⟨W14_c16 P Φ⟩
def W14_c18 (P : Program) (Φ : EP) (s : St) : Prop :=
  @sOp (some 10) (xAlloc 10 34 [.int .i64 0, .int .i64 0, .int .i64 0, .str ⟨#[]⟩, .int .i64 0, .int .i64 0, .str ⟨#[]⟩, .nils, .nils] s.H) s <| .mk fun s =>
  @sOp none (xStore 9 (s.τ 10) (s.τ 61) s.H) s <| .mk fun s =>
  @sFl 62 0 6 s <| .mk fun s =>
  @sLd 63 1 62 false s <| .mk fun s =>
  @sOp (some 64) (xBin .eql false (s.τ 63) (.int .i64 0) s.H) s <| .mk fun s =>
  @sIf (s.τ 64) ⟨W14_b4 P Φ s⟩ ⟨W14_b17 P Φ s⟩
def W14_b19 (P : Program) (Φ : EP) (s : St) : Prop :=
  @sLd 60 9 8 true s <| .mk fun s =>
  @sCall P (.func 40 []) [(s.τ 60)] (some 61) s ⟨W14_c18 P Φ⟩
def W14_c20 (P : Program) (Φ : EP) (s : St) : Prop :=
  @sOp (some 59) (xPick (s.τ 53) (.bool true) (s.τ 58) s.H) s <| .mk fun s =>
  @sIf (s.τ 59) ⟨W14_b3 P Φ s⟩ ⟨W14_b19 P Φ s⟩
def W14_c21 (P : Program) (Φ : EP) (s : St) : Prop :=
  @sGrd (guardOf (s.τ 53) false) (some 58) s ⟨fun s K => @sOp (some 58) (xNot (s.τ 57) s.H) s ⟨K⟩⟩ ⟨W14_c20 P Φ⟩
def W14_c22 (P : Program) (Φ : EP) (s : St) : Prop :=
  @sGrd (guardOf (s.τ 53) false) (some 57) s ⟨fun s K => @sCall0 P (.func 39 []) [(s.τ 55), (s.τ 56)] (some 57) s ⟨K⟩⟩ ⟨W14_c21 P Φ⟩
def W14_c23 (P : Program) (Φ : EP) (s : St) : Prop :=
  @sGrd (guardOf (s.τ 53) false) (some 56) s ⟨fun s K => @sOp (some 56) (xBuild [.int .i64 0, .int .i64 0, .int .i64 0, .str ⟨#[]⟩, .int .i64 0, .int .i64 0, .str ⟨#[]⟩, .nils, .nils] [] s.H) s ⟨K⟩⟩ ⟨W14_c22 P Φ⟩
def W14_c24 (P : Program) (Φ : EP) (s : St) : Prop :=
  @sGrd (guardOf (s.τ 53) false) (some 55) s ⟨fun s K => @sCall0 P (.func 40 []) [(s.τ 54)] (some 55) s ⟨K⟩⟩ ⟨W14_c23 P Φ⟩
def W14_c25 (P : Program) (Φ : EP) (s : St) : Prop :=
  @sOp (some 52) (xPick (s.τ 46) (.bool true) (s.τ 51) s.H) s <| .mk fun u19 =>
  @sMv 53 52 u19 <| .mk fun u20 =>
  @sGl 54 9 9 53 true false u20 ⟨W14_c24 P Φ⟩
def W14_c26 (P : Program) (Φ : EP) (s : St) : Prop :=
  @sGrd (guardOf (s.τ 46) false) (some 51) s ⟨fun s K => @sOp (some 51) (xNot (s.τ 50) s.H) s ⟨K⟩⟩ ⟨W14_c25 P Φ⟩
def W14_c27 (P : Program) (Φ : EP) (s : St) : Prop :=
  @sGrd (guardOf (s.τ 46) false) (some 50) s ⟨fun s K => @sCall0 P (.func 39 []) [(s.τ 48), (s.τ 49)] (some 50) s ⟨K⟩⟩ ⟨W14_c26 P Φ⟩
def W14_c28 (P : Program) (Φ : EP) (u14 : St) (s : St) : Prop :=
  @sChk (compat (cfp 48 40 [(u14.τ 47)]) (occ (s.τ 6), [])) <| .mk <|
  @sGl 49 9 6 46 true false s ⟨W14_c27 P Φ⟩
def W14_c29 (P : Program) (Φ : EP) (s : St) : Prop :=
  @sGrd (guardOf (s.τ 46) false) (some 48) s ⟨fun s K => @sCall0 P (.func 40 []) [(s.τ 47)] (some 48) s ⟨K⟩⟩ ⟨W14_c28 P Φ s⟩
def W14_c30 (P : Program) (Φ : EP) (s : St) : Prop :=
  @sOp (some 45) (xPick (s.τ 39) (.bool true) (s.τ 44) s.H) s <| .mk fun u12 =>
  @sMv 46 45 u12 <| .mk fun u13 =>
  @sGl 47 9 7 46 true false u13 ⟨W14_c29 P Φ⟩
def W14_c31 (P : Program) (Φ : EP) (s : St) : Prop :=
  @sGrd (guardOf (s.τ 39) false) (some 44) s ⟨fun s K => @sOp (some 44) (xBin .gtr false (s.τ 41) (s.τ 43) s.H) s ⟨K⟩⟩ ⟨W14_c30 P Φ⟩
def W14_c32 (P : Program) (Φ : EP) (s : St) : Prop :=
  @sGrd (guardOf (s.τ 39) false) (some 43) s ⟨fun s K => @sCall0 P (.func 36 []) [(s.τ 42)] (some 43) s ⟨K⟩⟩ ⟨W14_c31 P Φ⟩
def W14_c33 (P : Program) (Φ : EP) (u7 : St) (s : St) : Prop :=
  @sChk (compat (cfp 41 36 [(u7.τ 40)]) (occ (s.τ 5), [])) <| .mk <|
  @sGl 42 9 5 39 true false s ⟨W14_c32 P Φ⟩
def W14_c34 (P : Program) (Φ : EP) (s : St) : Prop :=
  @sGrd (guardOf (s.τ 39) false) (some 41) s ⟨fun s K => @sCall0 P (.func 36 []) [(s.τ 40)] (some 41) s ⟨K⟩⟩ ⟨W14_c33 P Φ s⟩
def W14_c35 (P : Program) (Φ : EP) (s : St) : Prop :=
  @sOp (some 38) (xNot (s.τ 37) s.H) s <| .mk fun u5 =>
  @sMv 39 38 u5 <| .mk fun u6 =>
  @sGl 40 9 6 39 true false u6 ⟨W14_c34 P Φ⟩
def W14_c36 (P : Program) (Φ : EP) (u1 : St) (s : St) : Prop :=
  @sChk (compat (cfp 35 40 [(u1.τ 34)]) (occ (s.τ 6), [])) <| .mk <|
  @sLd 36 9 6 true s <| .mk fun u3 =>
  @sCall0 P (.func 39 []) [(u3.τ 35), (u3.τ 36)] (some 37) u3 ⟨W14_c35 P Φ⟩
def W14_c37 (P : Program) (Φ : EP) (s : St) : Prop :=
  @sOp (some 6) (xAlloc 6 34 [.int .i64 0, .int .i64 0, .int .i64 0, .str ⟨#[]⟩, .int .i64 0, .int .i64 0, .str ⟨#[]⟩, .nils, .nils] s.H) s <| .mk fun s =>
  @sOp none (xStore 9 (s.τ 6) (s.τ 22) s.H) s <| .mk fun s =>
  @sOp (some 23) (xBuild [.int .i64 0, .int .i64 0, .int .i64 0, .str ⟨#[]⟩, .int .i64 0, .int .i64 0, .str ⟨#[]⟩, .nils, .nils] [] s.H) s <| .mk fun s =>
  @sLd 24 9 5 true s <| .mk fun s =>
  @sOp (some 25) (xLit 9 2 [.int .i64 0, .int .i64 0, .int .i64 0, .str ⟨#[]⟩, .int .i64 0, .int .i64 0, .str ⟨#[]⟩, .nils, .nils] [(0, (s.τ 23)), (1, (s.τ 24))] s.H) s <| .mk fun s =>
  @sOp (some 26) (xBuild [.int .i64 0, .int .i64 0, .int .i64 0, .str ⟨#[]⟩, .int .i64 0, .int .i64 0, .str ⟨#[]⟩, .nils, .nils] [(0, 1, (.int .i64 12)), (8, 1, (s.τ 25))] s.H) s <| .mk fun s =>
  @sOp (some 7) (xAlloc 7 34 [.int .i64 0, .int .i64 0, .int .i64 0, .str ⟨#[]⟩, .int .i64 0, .int .i64 0, .str ⟨#[]⟩, .nils, .nils] s.H) s <| .mk fun s =>
  @sOp none (xStore 9 (s.τ 7) (s.τ 26) s.H) s <| .mk fun s =>
  @sLd 27 9 5 true s <| .mk fun s =>
  @sOp (some 28) (xLit 9 1 [.int .i64 0, .int .i64 0, .int .i64 0, .str ⟨#[]⟩, .int .i64 0, .int .i64 0, .str ⟨#[]⟩, .nils, .nils] [(0, (s.τ 27))] s.H) s <| .mk fun s =>
  @sOp (some 29) (xBuild [.int .i64 0, .int .i64 0, .int .i64 0, .str ⟨#[]⟩, .int .i64 0, .int .i64 0, .str ⟨#[]⟩, .nils, .nils] [(0, 1, (.int .i64 7)), (8, 1, (s.τ 28))] s.H) s <| .mk fun s =>
  @sOp (some 8) (xAlloc 8 34 [.int .i64 0, .int .i64 0, .int .i64 0, .str ⟨#[]⟩, .int .i64 0, .int .i64 0, .str ⟨#[]⟩, .nils, .nils] s.H) s <| .mk fun s =>
  @sOp none (xStore 9 (s.τ 8) (s.τ 29) s.H) s <| .mk fun s =>
  @sOp (some 30) (xBuild [.int .i64 0, .int .i64 0, .int .i64 0, .str ⟨#[]⟩, .int .i64 0, .int .i64 0, .str ⟨#[]⟩, .nils, .nils] [] s.H) s <| .mk fun s =>
  @sOp (some 31) (xBuild [.int .i64 0, .int .i64 0, .int .i64 0, .str ⟨#[]⟩, .int .i64 0, .int .i64 0, .str ⟨#[]⟩, .nils, .nils] [] s.H) s <| .mk fun s =>
  @sOp (some 32) (xLit 9 2 [.int .i64 0, .int .i64 0, .int .i64 0, .str ⟨#[]⟩, .int .i64 0, .int .i64 0, .str ⟨#[]⟩, .nils, .nils] [(0, (s.τ 30)), (1, (s.τ 31))] s.H) s <| .mk fun s =>
  @sOp (some 33) (xBuild [.int .i64 0, .int .i64 0, .int .i64 0, .str ⟨#[]⟩, .int .i64 0, .int .i64 0, .str ⟨#[]⟩, .nils, .nils] [(0, 1, (.int .i64 11)), (8, 1, (s.τ 32))] s.H) s <| .mk fun s =>
  @sOp (some 9) (xAlloc 9 34 [.int .i64 0, .int .i64 0, .int .i64 0, .str ⟨#[]⟩, .int .i64 0, .int .i64 0, .str ⟨#[]⟩, .nils, .nils] s.H) s <| .mk fun s =>
  @sOp none (xStore 9 (s.τ 9) (s.τ 33) s.H) s <| .mk fun s =>
  @sLd 34 9 6 true s <| .mk fun u1 =>
  @sCall0 P (.func 40 []) [(u1.τ 34)] (some 35) u1 ⟨W14_c36 P Φ u1⟩
def W14_c38 (P : Program) (Φ : EP) (s : St) : Prop :=
  @sOp (some 5) (xAlloc 5 34 [.int .i64 0, .int .i64 0, .int .i64 0, .str ⟨#[]⟩, .int .i64 0, .int .i64 0, .str ⟨#[]⟩, .nils, .nils] s.H) s <| .mk fun s =>
  @sOp none (xStore 9 (s.τ 5) (s.τ 20) s.H) s <| .mk fun s =>
  @sLd 21 9 5 true s <| .mk fun s =>
  @sCall P (.func 40 []) [(s.τ 21)] (some 22) s ⟨W14_c37 P Φ⟩
def W14_b39 (P : Program) (Φ : EP) (s : St) : Prop :=
  @sLd 18 5 2 true s <| .mk fun s =>
  @sMv 19 1 s <| .mk fun s =>
  @sCall P (.func 23 []) [(s.τ 18), (s.τ 19)] (some 20) s ⟨W14_c38 P Φ⟩
def W14_c40 (P : Program) (Φ : EP) (s : St) : Prop :=
  @sOp (some 17) (xNot (s.τ 16) s.H) s <| .mk fun s =>
  @sIf (s.τ 17) ⟨W14_b2 P Φ s⟩ ⟨W14_b39 P Φ s⟩
def W14_b41 (P : Program) (Φ : EP) (s : St) : Prop :=
  @sLd 13 5 2 true s <| .mk fun s =>
  @sOp (some 14) (xLit 5 1 [.int .i64 0, .int .i64 0, .int .i64 0, .nils, .nils] [(0, (s.τ 13))] s.H) s <| .mk fun s =>
  @sOp (some 15) (xBuild [.int .i64 0, .int .i64 0, .nils] [(2, 1, (s.τ 14))] s.H) s <| .mk fun s =>
  @sCall P (.func 21 []) [(s.τ 15)] (some 16) s ⟨W14_c40 P Φ⟩
def W14_c42 (P : Program) (Φ : EP) (s : St) : Prop :=
  @sOp (some 12) (xNot (s.τ 11) s.H) s <| .mk fun s =>
  @sIf (s.τ 12) ⟨W14_b1 P Φ s⟩ ⟨W14_b41 P Φ s⟩
def W14 (P : Program) (Φ : EP) (s : St) : Prop :=
  @sOp (some 2) (xBox 2 25 (s.τ 0) s.H) s <| .mk fun s =>
  @sOp (some 4) (xMov (.bool false) s.H) s <| .mk fun s =>
  @sCall P (.func 32 []) [] (some 11) s ⟨W14_c42 P Φ⟩
theorem W14_rs (τ : Nat → AV) (H : Heap) : resV Try.prog τ H [.tmp 4] = some (τ 4) := by kernel_rfl
theorem W14_eq (Φ : EP) (s : St) : awp Try.prog (Try.f14.body.getD .skip) Φ s = W14 Try.prog Φ s := by kernel_rfl

end Go.Proofs.Ytkagfenchknjjaa
set_option linter.unusedVariables false
namespace Go.Proofs.Ytkagfenchknjjaa
open Go Go.Am
-- 21 "(penance/penancelaw3.Shape).Few"
def W21_c1 (P : Program) (Φ : EP) (s : St) : Prop :=
  @sOp (some 27) (xPick (s.τ 24) (s.τ 26) (.bool false) s.H) s <| .mk fun s =>
  @sMv 2 27 s <| .mk fun s =>
  Φ .ret s
def W21_c2 (P : Program) (Φ : EP) (s : St) : Prop :=
  @sGrd (guardOf (s.τ 24) true) (some 26) s ⟨fun s K => @sOp (some 26) (xBin .leq false (s.τ 25) (.int .i64 40) s.H) s ⟨K⟩⟩ ⟨W21_c1 P Φ⟩
def W21_k3 (P : Program) (Φ : EP) (s : St) : Prop :=
  @sFl 20 2 1 s <| .mk fun s =>
  @sLd 21 1 20 false s <| .mk fun s =>
  @sOp (some 22) (xLen (s.τ 21) s.H) s <| .mk fun s =>
  @sOp (some 23) (xBin .leq false (s.τ 22) (.int .i64 5) s.H) s <| .mk fun s =>
  @sMv 24 23 s <| .mk fun s =>
  @sGm 25 3 24 true s ⟨W21_c2 P Φ⟩
def W21_c4 (P : Program) (Φ : EP) (L0 : SP) (s : St) : Prop :=
  @sOp (some 19) (xBin .add false (s.τ 12) (s.τ 18) s.H) s <| .mk fun s =>
  @sMv 3 19 s <| .mk fun s =>
  @sMv 10 4 s <| .mk fun s =>
  @sOp (some 11) (xBin .add false (s.τ 10) (.int .i64 1) s.H) s <| .mk fun s =>
  @sMv 4 11 s <| .mk fun s =>
  L0 s
def W21_b5 (P : Program) (Φ : EP) (L0 : SP) (s : St) : Prop :=
  @sMv 12 3 s <| .mk fun s =>
  @sFl 13 2 1 s <| .mk fun s =>
  @sLd 14 1 13 false s <| .mk fun s =>
  @sMv 15 4 s <| .mk fun s =>
  @sOp (some 16) (xIx 5 (s.τ 14) (s.τ 15) s.H) s <| .mk fun s =>
  @sLd 17 5 16 true s <| .mk fun s =>
  @sCall P (.func 44 []) [(s.τ 17), (.int .i64 0)] (some 18) s ⟨W21_c4 P Φ L0⟩
def W21_l6 (P : Program) (Φ : EP) (L0 : SP) (s : St) : Prop :=
  @sMv 5 4 s <| .mk fun s =>
  @sFl 6 2 1 s <| .mk fun s =>
  @sLd 7 1 6 false s <| .mk fun s =>
  @sOp (some 8) (xLen (s.τ 7) s.H) s <| .mk fun s =>
  @sOp (some 9) (xBin .lss false (s.τ 5) (s.τ 8) s.H) s <| .mk fun s =>
  @sIf (s.τ 9) ⟨W21_b5 P Φ L0 s⟩ ⟨W21_k3 P Φ s⟩
def W21 (P : Program) (Φ : EP) (s : St) : Prop :=
  @sOp (some 1) (xBox 1 28 (s.τ 0) s.H) s <| .mk fun s =>
  @sOp (some 2) (xMov (.bool false) s.H) s <| .mk fun s =>
  @sOp (some 3) (xMov (.int .i64 0) s.H) s <| .mk fun s =>
  @sOp (some 4) (xMov (.int .i64 0) s.H) s <| .mk fun s =>
  @sLoop s ⟨fun L0 s => W21_l6 P Φ L0 s⟩
theorem W21_rs (τ : Nat → AV) (H : Heap) : resV Try.prog τ H [.tmp 2] = some (τ 2) := by kernel_rfl
theorem W21_eq (Φ : EP) (s : St) : awp Try.prog (Try.f21.body.getD .skip) Φ s = W21 Try.prog Φ s := by kernel_rfl

-- 22 "penance/penanceref5.Norm"
def W22_c1 (P : Program) (Φ : EP) (s : St) : Prop :=
  @sOp none (xStore 9 (s.τ 2) (s.τ 25) s.H) s <| .mk fun s =>
  Φ .ret s
def W22_b2 (P : Program) (Φ : EP) (s : St) : Prop :=
  @sFl 21 8 1 s <| .mk fun s =>
  @sLd 22 1 21 false s <| .mk fun s =>
  @sOp (some 23) (xIx 9 (s.τ 22) (.int .i64 1) s.H) s <| .mk fun s =>
  @sLd 24 9 23 true s <| .mk fun s =>
  @sCall P (.func 22 []) [(s.τ 24)] (some 25) s ⟨W22_c1 P Φ⟩
def W22_b3 (P : Program) (Φ : EP) (s : St) : Prop :=
  @sLd 26 9 4 true s <| .mk fun s =>
  @sFl 27 8 1 s <| .mk fun s =>
  @sLd 28 1 27 false s <| .mk fun s =>
  @sOp (some 29) (xIx 9 (s.τ 28) (.int .i64 1) s.H) s <| .mk fun s =>
  @sLd 30 9 29 true s <| .mk fun s =>
  @sOp (some 31) (xLit 9 2 [.int .i64 0, .int .i64 0, .int .i64 0, .str ⟨#[]⟩, .int .i64 0, .int .i64 0, .str ⟨#[]⟩, .nils, .nils] [(0, (s.τ 26)), (1, (s.τ 30))] s.H) s <| .mk fun s =>
  @sOp (some 32) (xBuild [.int .i64 0, .int .i64 0, .int .i64 0, .str ⟨#[]⟩, .int .i64 0, .int .i64 0, .str ⟨#[]⟩, .nils, .nils] [(0, 1, (.int .i64 12)), (8, 1, (s.τ 31))] s.H) s <| .mk fun s =>
  @sOp none (xStore 9 (s.τ 2) (s.τ 32) s.H) s <| .mk fun s =>
  Φ .ret s
def W22_c4 (P : Program) (Φ : EP) (s : St) : Prop :=
  @sOp (some 4) (xAlloc 4 34 [.int .i64 0, .int .i64 0, .int .i64 0, .str ⟨#[]⟩, .int .i64 0, .int .i64 0, .str ⟨#[]⟩, .nils, .nils] s.H) s <| .mk fun s =>
  @sOp none (xStore 9 (s.τ 4) (s.τ 17) s.H) s <| .mk fun s =>
  @sFl 18 0 4 s <| .mk fun s =>
  @sLd 19 1 18 false s <| .mk fun s =>
  @sOp (some 20) (xBin .eql false (s.τ 19) (.int .i64 0) s.H) s <| .mk fun s =>
  @sIf (s.τ 20) ⟨W22_b2 P Φ s⟩ ⟨W22_b3 P Φ s⟩
def W22_b5 (P : Program) (Φ : EP) (s : St) : Prop :=
  @sFl 13 8 1 s <| .mk fun s =>
  @sLd 14 1 13 false s <| .mk fun s =>
  @sOp (some 15) (xIx 9 (s.τ 14) (.int .i64 0) s.H) s <| .mk fun s =>
  @sLd 16 9 15 true s <| .mk fun s =>
  @sCall P (.func 22 []) [(s.τ 16)] (some 17) s ⟨W22_c4 P Φ⟩
def W22_b6 (P : Program) (Φ : EP) (s : St) : Prop :=
  @sLd 53 9 3 true s <| .mk fun s =>
  @sOp none (xStore 9 (s.τ 2) (s.τ 53) s.H) s <| .mk fun s =>
  Φ .ret s
def W22_b7 (P : Program) (Φ : EP) (s : St) : Prop :=
  @sLd 54 9 5 true s <| .mk fun s =>
  @sLd 55 9 6 true s <| .mk fun s =>
  @sOp (some 56) (xLit 9 2 [.int .i64 0, .int .i64 0, .int .i64 0, .str ⟨#[]⟩, .int .i64 0, .int .i64 0, .str ⟨#[]⟩, .nils, .nils] [(0, (s.τ 54)), (1, (s.τ 55))] s.H) s <| .mk fun s =>
  @sOp (some 57) (xBuild [.int .i64 0, .int .i64 0, .int .i64 0, .str ⟨#[]⟩, .int .i64 0, .int .i64 0, .str ⟨#[]⟩, .nils, .nils] [(0, 1, (.int .i64 11)), (8, 1, (s.τ 56))] s.H) s <| .mk fun s =>
  @sOp none (xStore 9 (s.τ 2) (s.τ 57) s.H) s <| .mk fun s =>
  Φ .ret s
def W22_c8 (P : Program) (Φ : EP) (s : St) : Prop :=
  @sOp (some 52) (xPick (s.τ 48) (s.τ 51) (.bool false) s.H) s <| .mk fun s =>
  @sIf (s.τ 52) ⟨W22_b6 P Φ s⟩ ⟨W22_b7 P Φ s⟩
def W22_c9 (P : Program) (Φ : EP) (s : St) : Prop :=
  @sGrd (guardOf (s.τ 48) true) (some 51) s ⟨fun s K => @sOp (some 51) (xBin .eql false (s.τ 50) (.int .i64 0) s.H) s ⟨K⟩⟩ ⟨W22_c8 P Φ⟩
def W22_c10 (P : Program) (Φ : EP) (s : St) : Prop :=
  @sGl 50 1 49 48 false true s ⟨W22_c9 P Φ⟩
def W22_c11 (P : Program) (Φ : EP) (u0 : St) (u1 : St) (u2 : St) (u3 : St) (u4 : St) (u5 : St) (u6 : St) (u7 : St) (u8 : St) (u9 : St) (s : St) : Prop :=
  @sChk (compat (occ (u0.τ 1), []) ([5], [5])) <| .mk <|
  @sChk (compat (occ (u1.τ 35), []) ([5], [5])) <| .mk <|
  @sChk (compat (occ (u2.τ 36), []) ([5], [5])) <| .mk <|
  @sChk (compat (occ (u3.τ 37), []) ([5], [5])) <| .mk <|
  @sChk (compat (cfp 39 22 [(u4.τ 38)]) ([5], [5])) <| .mk <|
  @sChk (compat (occ (u5.τ 1), []) ([5], [5])) <| .mk <|
  @sChk (compat (occ (u6.τ 40), []) ([5], [5])) <| .mk <|
  @sChk (compat (occ (u7.τ 41), []) ([5], [5])) <| .mk <|
  @sChk (compat (occ (u8.τ 42), []) ([5], [5])) <| .mk <|
  @sChk (compat (cfp 44 22 [(u9.τ 43)]) ([5], [5])) <| .mk <|
  @sOp (some 5) (xAlloc 5 34 [.int .i64 0, .int .i64 0, .int .i64 0, .str ⟨#[]⟩, .int .i64 0, .int .i64 0, .str ⟨#[]⟩, .nils, .nils] s.H) s <| .mk fun u11 =>
  @sChk (compat (occ (u0.τ 1), []) ([6], [6])) <| .mk <|
  @sChk (compat (occ (u1.τ 35), []) ([6], [6])) <| .mk <|
  @sChk (compat (occ (u2.τ 36), []) ([6], [6])) <| .mk <|
  @sChk (compat (occ (u3.τ 37), []) ([6], [6])) <| .mk <|
  @sChk (compat (cfp 39 22 [(u4.τ 38)]) ([6], [6])) <| .mk <|
  @sChk (compat (occ (u5.τ 1), []) ([6], [6])) <| .mk <|
  @sChk (compat (occ (u6.τ 40), []) ([6], [6])) <| .mk <|
  @sChk (compat (occ (u7.τ 41), []) ([6], [6])) <| .mk <|
  @sChk (compat (occ (u8.τ 42), []) ([6], [6])) <| .mk <|
  @sChk (compat (cfp 44 22 [(u9.τ 43)]) ([6], [6])) <| .mk <|
  @sChk (compat ([5], [5]) ([6], [6])) <| .mk <|
  @sOp (some 6) (xAlloc 6 34 [.int .i64 0, .int .i64 0, .int .i64 0, .str ⟨#[]⟩, .int .i64 0, .int .i64 0, .str ⟨#[]⟩, .nils, .nils] u11.H) u11 <| .mk fun u12 =>
  @sOp none (xStore 9 (u12.τ 5) (u12.τ 39) u12.H) u12 <| .mk fun u13 =>
  @sOp none (xStore 9 (u13.τ 6) (u13.τ 44) u13.H) u13 <| .mk fun s =>
  @sFl 45 0 5 s <| .mk fun s =>
  @sLd 46 1 45 false s <| .mk fun s =>
  @sOp (some 47) (xBin .eql false (s.τ 46) (.int .i64 0) s.H) s <| .mk fun s =>
  @sMv 48 47 s <| .mk fun s =>
  @sGf 49 0 6 48 true s ⟨W22_c10 P Φ⟩
def W22_c12 (P : Program) (Φ : EP) (u0 : St) (u1 : St) (u2 : St) (u3 : St) (u4 : St) (s : St) : Prop :=
  @sChk (compat (cfp 39 22 [(u4.τ 38)]) (occ (s.τ 1), [])) <| .mk <|
  @sFl 40 8 1 s <| .mk fun u6 =>
  @sChk (compat (cfp 39 22 [(u4.τ 38)]) (occ (u6.τ 40), [])) <| .mk <|
  @sLd 41 1 40 false u6 <| .mk fun u7 =>
  @sChk (compat (cfp 39 22 [(u4.τ 38)]) (occ (u7.τ 41), [])) <| .mk <|
  @sOp (some 42) (xIx 9 (u7.τ 41) (.int .i64 1) u7.H) u7 <| .mk fun u8 =>
  @sChk (compat (cfp 39 22 [(u4.τ 38)]) (occ (u8.τ 42), [])) <| .mk <|
  @sLd 43 9 42 true u8 <| .mk fun u9 =>
  @sCall0 P (.func 22 []) [(u9.τ 43)] (some 44) u9 ⟨W22_c11 P Φ u0 u1 u2 u3 u4 s u6 u7 u8 u9⟩
def W22_b13 (P : Program) (Φ : EP) (s : St) : Prop :=
  @sFl 35 8 1 s <| .mk fun u1 =>
  @sLd 36 1 35 false u1 <| .mk fun u2 =>
  @sOp (some 37) (xIx 9 (u2.τ 36) (.int .i64 0) u2.H) u2 <| .mk fun u3 =>
  @sLd 38 9 37 true u3 <| .mk fun u4 =>
  @sCall0 P (.func 22 []) [(u4.τ 38)] (some 39) u4 ⟨W22_c12 P Φ s u1 u2 u3 u4⟩
def W22_b14 (P : Program) (Φ : EP) (s : St) : Prop :=
  @sLd 68 9 3 true s <| .mk fun s =>
  @sOp none (xStore 9 (s.τ 2) (s.τ 68) s.H) s <| .mk fun s =>
  Φ .ret s
def W22_b15 (P : Program) (Φ : EP) (s : St) : Prop :=
  @sLd 69 9 7 true s <| .mk fun s =>
  @sOp (some 70) (xLit 9 1 [.int .i64 0, .int .i64 0, .int .i64 0, .str ⟨#[]⟩, .int .i64 0, .int .i64 0, .str ⟨#[]⟩, .nils, .nils] [(0, (s.τ 69))] s.H) s <| .mk fun s =>
  @sOp (some 71) (xBuild [.int .i64 0, .int .i64 0, .int .i64 0, .str ⟨#[]⟩, .int .i64 0, .int .i64 0, .str ⟨#[]⟩, .nils, .nils] [(0, 1, (.int .i64 7)), (8, 1, (s.τ 70))] s.H) s <| .mk fun s =>
  @sOp none (xStore 9 (s.τ 2) (s.τ 71) s.H) s <| .mk fun s =>
  Φ .ret s
def W22_c16 (P : Program) (Φ : EP) (s : St) : Prop :=
  @sOp (some 7) (xAlloc 7 34 [.int .i64 0, .int .i64 0, .int .i64 0, .str ⟨#[]⟩, .int .i64 0, .int .i64 0, .str ⟨#[]⟩, .nils, .nils] s.H) s <| .mk fun s =>
  @sOp none (xStore 9 (s.τ 7) (s.τ 64) s.H) s <| .mk fun s =>
  @sFl 65 0 7 s <| .mk fun s =>
  @sLd 66 1 65 false s <| .mk fun s =>
  @sOp (some 67) (xBin .eql false (s.τ 66) (.int .i64 0) s.H) s <| .mk fun s =>
  @sIf (s.τ 67) ⟨W22_b14 P Φ s⟩ ⟨W22_b15 P Φ s⟩
def W22_b17 (P : Program) (Φ : EP) (s : St) : Prop :=
  @sFl 60 8 1 s <| .mk fun s =>
  @sLd 61 1 60 false s <| .mk fun s =>
  @sOp (some 62) (xIx 9 (s.τ 61) (.int .i64 0) s.H) s <| .mk fun s =>
  @sLd 63 9 62 true s <| .mk fun s =>
  @sCall P (.func 22 []) [(s.τ 63)] (some 64) s ⟨W22_c16 P Φ⟩
def W22_b18 (P : Program) (Φ : EP) (s : St) : Prop :=
  @sLd 72 9 1 true s <| .mk fun s =>
  @sOp none (xStore 9 (s.τ 2) (s.τ 72) s.H) s <| .mk fun s =>
  Φ .ret s
def W22_b19 (P : Program) (Φ : EP) (s : St) : Prop :=
  @sOp (some 59) (xBin .eql false (s.τ 10) (.int .i64 7) s.H) s <| .mk fun s =>
  @sMv 58 59 s <| .mk fun s =>
  @sIf (s.τ 58) ⟨W22_b17 P Φ s⟩ ⟨W22_b18 P Φ s⟩
def W22_b20 (P : Program) (Φ : EP) (s : St) : Prop :=
  @sOp (some 34) (xBin .eql false (s.τ 10) (.int .i64 11) s.H) s <| .mk fun s =>
  @sMv 33 34 s <| .mk fun s =>
  @sIf (s.τ 33) ⟨W22_b13 P Φ s⟩ ⟨W22_b19 P Φ s⟩
def W22 (P : Program) (Φ : EP) (s : St) : Prop :=
  @sOp (some 1) (xBox 1 34 (s.τ 0) s.H) s <| .mk fun s =>
  @sOp (some 2) (xAlloc 2 34 [.int .i64 0, .int .i64 0, .int .i64 0, .str ⟨#[]⟩, .int .i64 0, .int .i64 0, .str ⟨#[]⟩, .nils, .nils] s.H) s <| .mk fun s =>
  @sOp (some 8) (xBuild [.int .i64 0, .int .i64 0, .int .i64 0, .str ⟨#[]⟩, .int .i64 0, .int .i64 0, .str ⟨#[]⟩, .nils, .nils] [] s.H) s <| .mk fun s =>
  @sOp (some 3) (xAlloc 3 34 [.int .i64 0, .int .i64 0, .int .i64 0, .str ⟨#[]⟩, .int .i64 0, .int .i64 0, .str ⟨#[]⟩, .nils, .nils] s.H) s <| .mk fun s =>
  @sOp none (xStore 9 (s.τ 3) (s.τ 8) s.H) s <| .mk fun s =>
  @sFl 9 0 1 s <| .mk fun s =>
  @sLd 10 1 9 false s <| .mk fun s =>
  @sOp (some 12) (xBin .eql false (s.τ 10) (.int .i64 12) s.H) s <| .mk fun s =>
  @sMv 11 12 s <| .mk fun s =>
  @sIf (s.τ 11) ⟨W22_b5 P Φ s⟩ ⟨W22_b20 P Φ s⟩
theorem W22_rs (τ : Nat → AV) (H : Heap) : resV Try.prog τ H [.cell 2 34] = rdV H 9 true (τ 2) := by kernel_rfl
theorem W22_eq (Φ : EP) (s : St) : awp Try.prog (Try.f22.body.getD .skip) Φ s = W22 Try.prog Φ s := by kernel_rfl

-- 23 "penance/penancelaw5.Make"
def W23_b1 (P : Program) (Φ : EP) (s : St) : Prop :=
  @sOp (some 34) (xBuild [.int .i64 0, .int .i64 0, .int .i64 0, .str ⟨#[]⟩, .int .i64 0, .int .i64 0, .str ⟨#[]⟩, .nils, .nils] [(0, 1, (.int .i64 1)), (1, 1, (.int .i64 (-1))), (3, 1, (.str ⟨#[97, 115, 107]⟩))] s.H) s <| .mk fun s =>
  @sOp none (xStore 9 (s.τ 4) (s.τ 34) s.H) s <| .mk fun s =>
  Φ .ret s
def W23_c2 (P : Program) (Φ : EP) (s : St) : Prop :=
  @sOp none (xStore 9 (s.τ 4) (s.τ 37) s.H) s <| .mk fun s =>
  Φ .ret s
def W23_b3 (P : Program) (Φ : EP) (s : St) : Prop :=
  @sOp (some 9) (xAlloc 9 3 [.int .i64 0] s.H) s <| .mk fun s =>
  @sOp none (xStore 1 (s.τ 9) (.int .i64 0) s.H) s <| .mk fun s =>
  @sLd 35 9 7 true s <| .mk fun s =>
  @sMv 36 1 s <| .mk fun s =>
  @sCall P (.func 47 []) [(s.τ 35), (s.τ 36), (s.τ 9), (.bool false)] (some 37) s ⟨W23_c2 P Φ⟩
def W23_c4 (P : Program) (Φ : EP) (s : St) : Prop :=
  @sMv 27 29 s <| .mk fun s =>
  @sOp (some 30) (xExt (s.τ 27) 0 s.H) s <| .mk fun s =>
  @sOp (some 31) (xExt (s.τ 27) 1 s.H) s <| .mk fun s =>
  @sOp (some 7) (xAlloc 7 34 [.int .i64 0, .int .i64 0, .int .i64 0, .str ⟨#[]⟩, .int .i64 0, .int .i64 0, .str ⟨#[]⟩, .nils, .nils] s.H) s <| .mk fun s =>
  @sOp none (xStore 9 (s.τ 7) (s.τ 30) s.H) s <| .mk fun s =>
  @sMv 8 31 s <| .mk fun s =>
  @sMv 32 8 s <| .mk fun s =>
  @sOp (some 33) (xNot (s.τ 32) s.H) s <| .mk fun s =>
  @sIf (s.τ 33) ⟨W23_b1 P Φ s⟩ ⟨W23_b3 P Φ s⟩
def W23_k5 (P : Program) (Φ : EP) (s : St) : Prop :=
  @sLd 28 3 5 true s <| .mk fun s =>
  @sCall P (.func 46 []) [(s.τ 28)] (some 29) s ⟨W23_c4 P Φ⟩
def W23_b6 (P : Program) (Φ : EP) (L0 : SP) (s : St) : Prop :=
  @sFl 21 2 5 s <| .mk fun s =>
  @sLd 22 1 21 false s <| .mk fun s =>
  @sMv 23 6 s <| .mk fun s =>
  @sOp (some 24) (xBuild [.int .i64 0, .str ⟨#[]⟩, .str ⟨#[]⟩, .int .i64 0, .int .i64 0, .str ⟨#[]⟩, .nils, .nils] [(0, 1, (.int .i64 1)), (1, 1, (.str ⟨#[112, 97, 121]⟩))] s.H) s <| .mk fun s =>
  @sOp (some 25) (xIx 9 (s.τ 22) (s.τ 23) s.H) s <| .mk fun s =>
  @sFl 26 1 25 s <| .mk fun s =>
  @sOp none (xStore 8 (s.τ 26) (s.τ 24) s.H) s <| .mk fun s =>
  @sMv 19 6 s <| .mk fun s =>
  @sOp (some 20) (xBin .add false (s.τ 19) (.int .i64 1) s.H) s <| .mk fun s =>
  @sMv 6 20 s <| .mk fun s =>
  L0 s
def W23_l7 (P : Program) (Φ : EP) (L0 : SP) (s : St) : Prop :=
  @sMv 14 6 s <| .mk fun s =>
  @sFl 15 2 5 s <| .mk fun s =>
  @sLd 16 1 15 false s <| .mk fun s =>
  @sOp (some 17) (xLen (s.τ 16) s.H) s <| .mk fun s =>
  @sOp (some 18) (xBin .lss false (s.τ 14) (s.τ 17) s.H) s <| .mk fun s =>
  @sIf (s.τ 18) ⟨W23_b6 P Φ L0 s⟩ ⟨W23_k5 P Φ s⟩
def W23_c8 (P : Program) (Φ : EP) (s : St) : Prop :=
  @sOp (some 5) (xAlloc 5 69 [.nils, .nils, .nils] s.H) s <| .mk fun s =>
  @sOp none (xStore 3 (s.τ 5) (s.τ 13) s.H) s <| .mk fun s =>
  @sOp (some 6) (xMov (.int .i64 1) s.H) s <| .mk fun s =>
  @sLoop s ⟨fun L0 s => W23_l7 P Φ L0 s⟩
def W23 (P : Program) (Φ : EP) (s : St) : Prop :=
  @sOp (some 2) (xBox 2 25 (s.τ 0) s.H) s <| .mk fun s =>
  @sOp (some 4) (xAlloc 4 34 [.int .i64 0, .int .i64 0, .int .i64 0, .str ⟨#[]⟩, .int .i64 0, .int .i64 0, .str ⟨#[]⟩, .nils, .nils] s.H) s <| .mk fun s =>
  @sLd 10 5 2 true s <| .mk fun s =>
  @sOp (some 11) (xLit 5 1 [.int .i64 0, .int .i64 0, .int .i64 0, .nils, .nils] [(0, (s.τ 10))] s.H) s <| .mk fun s =>
  @sOp (some 12) (xBuild [.int .i64 0, .int .i64 0, .nils] [(2, 1, (s.τ 11))] s.H) s <| .mk fun s =>
  @sCall P (.func 45 []) [(s.τ 12)] (some 13) s ⟨W23_c8 P Φ⟩
theorem W23_rs (τ : Nat → AV) (H : Heap) : resV Try.prog τ H [.cell 4 34] = rdV H 9 true (τ 4) := by kernel_rfl
theorem W23_eq (Φ : EP) (s : St) : awp Try.prog (Try.f23.body.getD .skip) Φ s = W23 Try.prog Φ s := by kernel_rfl

end Go.Proofs.Ytkagfenchknjjaa
set_option linter.unusedVariables false
namespace Go.Proofs.Ytkagfenchknjjaa
open Go Go.Am
-- 26 "penance/penanceref5.Active"
def W26_b1 (P : Program) (Φ : EP) (s : St) : Prop :=
  @sOp (some 2) (xMov (.int .i64 1) s.H) s <| .mk fun s =>
  Φ .ret s
def W26_b2 (P : Program) (Φ : EP) (s : St) : Prop :=
  @sOp (some 2) (xMov (.int .i64 2) s.H) s <| .mk fun s =>
  Φ .ret s
def W26_b3 (P : Program) (Φ : EP) (s : St) : Prop :=
  @sOp (some 2) (xMov (.int .i64 0) s.H) s <| .mk fun s =>
  Φ .ret s
def W26_b4 (P : Program) (Φ : EP) (s : St) : Prop :=
  @sOp (some 9) (xBin .eql false (s.τ 4) (.int .i64 11) s.H) s <| .mk fun s =>
  @sMv 8 9 s <| .mk fun s =>
  @sIf (s.τ 8) ⟨W26_b2 P Φ s⟩ ⟨W26_b3 P Φ s⟩
def W26_k5 (P : Program) (Φ : EP) (s : St) : Prop :=
  @sIf (s.τ 5) ⟨W26_b1 P Φ s⟩ ⟨W26_b4 P Φ s⟩
def W26_b6 (P : Program) (Φ : EP) (s : St) : Prop :=
  @sOp (some 7) (xBin .eql false (s.τ 4) (.int .i64 7) s.H) s <| .mk fun s =>
  @sMv 5 7 s <| .mk fun s =>
  W26_k5 P Φ s
def W26 (P : Program) (Φ : EP) (s : St) : Prop :=
  @sOp (some 1) (xBox 1 34 (s.τ 0) s.H) s <| .mk fun s =>
  @sOp (some 2) (xMov (.int .i64 0) s.H) s <| .mk fun s =>
  @sFl 3 0 1 s <| .mk fun s =>
  @sLd 4 1 3 false s <| .mk fun s =>
  @sOp (some 6) (xBin .eql false (s.τ 4) (.int .i64 12) s.H) s <| .mk fun s =>
  @sMv 5 6 s <| .mk fun s =>
  @sIf (s.τ 5) ⟨W26_k5 P Φ s⟩ ⟨W26_b6 P Φ s⟩
theorem W26_rs (τ : Nat → AV) (H : Heap) : resV Try.prog τ H [.tmp 2] = some (τ 2) := by kernel_rfl
theorem W26_eq (Φ : EP) (s : St) : awp Try.prog (Try.f26.body.getD .skip) Φ s = W26 Try.prog Φ s := by kernel_rfl

-- 27 "penance/penanceref1.Ints"
def W27_b1 (P : Program) (Φ : EP) (s : St) : Prop :=
  @sOp (some 4) (xMov (.bool false) s.H) s <| .mk fun s =>
  Φ .ret s
def W27_k2 (P : Program) (Φ : EP) (s : St) : Prop :=
  @sOp (some 4) (xMov (.bool true) s.H) s <| .mk fun s =>
  Φ .ret s
def W27_b3 (P : Program) (Φ : EP) (L0 : SP) (s : St) : Prop :=
  @sOp (some 4) (xMov (.bool false) s.H) s <| .mk fun s =>
  Φ .ret s
def W27_b4 (P : Program) (Φ : EP) (L0 : SP) (s : St) : Prop :=
  @sMv 15 5 s <| .mk fun s =>
  @sOp (some 16) (xBin .add false (s.τ 15) (.int .i64 1) s.H) s <| .mk fun s =>
  @sMv 5 16 s <| .mk fun s =>
  L0 s
def W27_b5 (P : Program) (Φ : EP) (L0 : SP) (s : St) : Prop :=
  @sMv 17 0 s <| .mk fun s =>
  @sMv 18 5 s <| .mk fun s =>
  @sOp (some 19) (xIx 1 (s.τ 17) (s.τ 18) s.H) s <| .mk fun s =>
  @sLd 20 1 19 false s <| .mk fun s =>
  @sMv 21 1 s <| .mk fun s =>
  @sMv 22 5 s <| .mk fun s =>
  @sOp (some 23) (xIx 1 (s.τ 21) (s.τ 22) s.H) s <| .mk fun s =>
  @sLd 24 1 23 false s <| .mk fun s =>
  @sOp (some 25) (xBin .neq false (s.τ 20) (s.τ 24) s.H) s <| .mk fun s =>
  @sIf (s.τ 25) ⟨W27_b3 P Φ L0 s⟩ ⟨W27_b4 P Φ L0 s⟩
def W27_l6 (P : Program) (Φ : EP) (L0 : SP) (s : St) : Prop :=
  @sMv 11 5 s <| .mk fun s =>
  @sMv 12 0 s <| .mk fun s =>
  @sOp (some 13) (xLen (s.τ 12) s.H) s <| .mk fun s =>
  @sOp (some 14) (xBin .lss false (s.τ 11) (s.τ 13) s.H) s <| .mk fun s =>
  @sIf (s.τ 14) ⟨W27_b5 P Φ L0 s⟩ ⟨W27_k2 P Φ s⟩
def W27_b7 (P : Program) (Φ : EP) (s : St) : Prop :=
  @sOp (some 5) (xMov (.int .i64 0) s.H) s <| .mk fun s =>
  @sLoop s ⟨fun L0 s => W27_l6 P Φ L0 s⟩
def W27 (P : Program) (Φ : EP) (s : St) : Prop :=
  @sOp (some 4) (xMov (.bool false) s.H) s <| .mk fun s =>
  @sMv 6 0 s <| .mk fun s =>
  @sOp (some 7) (xLen (s.τ 6) s.H) s <| .mk fun s =>
  @sMv 8 1 s <| .mk fun s =>
  @sOp (some 9) (xLen (s.τ 8) s.H) s <| .mk fun s =>
  @sOp (some 10) (xBin .neq false (s.τ 7) (s.τ 9) s.H) s <| .mk fun s =>
  @sIf (s.τ 10) ⟨W27_b1 P Φ s⟩ ⟨W27_b7 P Φ s⟩
theorem W27_rs (τ : Nat → AV) (H : Heap) : resV Try.prog τ H [.tmp 4] = some (τ 4) := by kernel_rfl
theorem W27_eq (Φ : EP) (s : St) : awp Try.prog (Try.f27.body.getD .skip) Φ s = W27 Try.prog Φ s := by kernel_rfl

-- 31 "penance/penanceref5.Waits"
def W31_b1 (P : Program) (Φ : EP) (s : St) : Prop :=
  @sFl 8 1 1 s <| .mk fun s =>
  @sLd 9 1 8 false s <| .mk fun s =>
  @sOp (some 10) (xLit 1 1 [.int .i64 0] [(0, (s.τ 9))] s.H) s <| .mk fun s =>
  @sMv 2 10 s <| .mk fun s =>
  Φ .ret s
def W31_k2 (P : Program) (Φ : EP) (s : St) : Prop :=
  @sMv 25 3 s <| .mk fun s =>
  @sMv 2 25 s <| .mk fun s =>
  Φ .ret s
def W31_c3 (P : Program) (Φ : EP) (L0 : SP) (s : St) : Prop :=
  @sOp (some 24) (xApp P 3 1 8 (some 24) (s.τ 17) (s.τ 23) s.H) s <| .mk fun s =>
  @sMv 3 24 s <| .mk fun s =>
  @sMv 15 4 s <| .mk fun s =>
  @sOp (some 16) (xBin .add false (s.τ 15) (.int .i64 1) s.H) s <| .mk fun s =>
  @sMv 4 16 s <| .mk fun s =>
  L0 s
def W31_b4 (P : Program) (Φ : EP) (L0 : SP) (s : St) : Prop :=
  @sMv 17 3 s <| .mk fun s =>
  @sFl 18 8 1 s <| .mk fun s =>
  @sLd 19 1 18 false s <| .mk fun s =>
  @sMv 20 4 s <| .mk fun s =>
  @sOp (some 21) (xIx 9 (s.τ 19) (s.τ 20) s.H) s <| .mk fun s =>
  @sLd 22 9 21 true s <| .mk fun s =>
  @sCall P (.func 31 []) [(s.τ 22)] (some 23) s ⟨W31_c3 P Φ L0⟩
def W31_c5 (P : Program) (Φ : EP) (L0 : SP) (s : St) : Prop :=
  @sOp (some 14) (xBin .lss false (s.τ 11) (s.τ 13) s.H) s <| .mk fun s =>
  @sIf (s.τ 14) ⟨W31_b4 P Φ L0 s⟩ ⟨W31_k2 P Φ s⟩
def W31_l6 (P : Program) (Φ : EP) (L0 : SP) (s : St) : Prop :=
  @sMv 11 4 s <| .mk fun s =>
  @sLd 12 9 1 true s <| .mk fun s =>
  @sCall P (.func 26 []) [(s.τ 12)] (some 13) s ⟨W31_c5 P Φ L0⟩
def W31_b7 (P : Program) (Φ : EP) (s : St) : Prop :=
  @sOp (some 3) (xMov (.nils) s.H) s <| .mk fun s =>
  @sOp (some 4) (xMov (.int .i64 0) s.H) s <| .mk fun s =>
  @sLoop s ⟨fun L0 s => W31_l6 P Φ L0 s⟩
def W31 (P : Program) (Φ : EP) (s : St) : Prop :=
  @sOp (some 1) (xBox 1 34 (s.τ 0) s.H) s <| .mk fun s =>
  @sOp (some 2) (xMov (.nils) s.H) s <| .mk fun s =>
  @sFl 5 0 1 s <| .mk fun s =>
  @sLd 6 1 5 false s <| .mk fun s =>
  @sOp (some 7) (xBin .eql false (s.τ 6) (.int .i64 14) s.H) s <| .mk fun s =>
  @sIf (s.τ 7) ⟨W31_b1 P Φ s⟩ ⟨W31_b7 P Φ s⟩
theorem W31_rs (τ : Nat → AV) (H : Heap) : resV Try.prog τ H [.tmp 2] = some (τ 2) := by kernel_rfl
theorem W31_eq (Φ : EP) (s : St) : awp Try.prog (Try.f31.body.getD .skip) Φ s = W31 Try.prog Φ s := by kernel_rfl

-- 32 "penance/penancelaw5.known"
def W32_c1 (P : Program) (Φ : EP) (s : St) : Prop :=
  @sOp (some 36) (xPick (s.τ 31) (s.τ 35) (.bool false) s.H) s <| .mk fun s =>
  @sMv 0 36 s <| .mk fun s =>
  Φ .ret s
def W32_c2 (P : Program) (Φ : EP) (s : St) : Prop :=
  @sGrd (guardOf (s.τ 31) true) (some 35) s ⟨fun s K => @sOp (some 35) (xBin .eql false (s.τ 34) (.int .i64 3) s.H) s ⟨K⟩⟩ ⟨W32_c1 P Φ⟩
def W32_c3 (P : Program) (Φ : EP) (s : St) : Prop :=
  @sGl 34 1 33 31 false true s ⟨W32_c2 P Φ⟩
def W32_c4 (P : Program) (Φ : EP) (s : St) : Prop :=
  @sGrd (guardOf (s.τ 31) true) (some 33) s ⟨fun s K => @sOp (some 33) (xIx 1 (s.τ 32) (.int .i64 0) s.H) s ⟨K⟩⟩ ⟨W32_c3 P Φ⟩
def W32_c5 (P : Program) (Φ : EP) (s : St) : Prop :=
  @sOp (some 30) (xPick (s.τ 26) (s.τ 29) (.bool false) s.H) s <| .mk fun s =>
  @sMv 31 30 s <| .mk fun s =>
  @sGm 32 3 31 true s ⟨W32_c4 P Φ⟩
def W32_c6 (P : Program) (Φ : EP) (s : St) : Prop :=
  @sGrd (guardOf (s.τ 26) true) (some 29) s ⟨fun s K => @sOp (some 29) (xBin .eql false (s.τ 28) (.int .i64 1) s.H) s ⟨K⟩⟩ ⟨W32_c5 P Φ⟩
def W32_c7 (P : Program) (Φ : EP) (s : St) : Prop :=
  @sGrd (guardOf (s.τ 26) true) (some 28) s ⟨fun s K => @sOp (some 28) (xLen (s.τ 27) s.H) s ⟨K⟩⟩ ⟨W32_c6 P Φ⟩
def W32_c8 (P : Program) (Φ : EP) (s : St) : Prop :=
  @sOp (some 25) (xPick (s.τ 22) (s.τ 24) (.bool false) s.H) s <| .mk fun s =>
  @sMv 26 25 s <| .mk fun s =>
  @sGm 27 3 26 true s ⟨W32_c7 P Φ⟩
def W32_c9 (P : Program) (Φ : EP) (s : St) : Prop :=
  @sGrd (guardOf (s.τ 22) true) (some 24) s ⟨fun s K => @sCall P (.func 34 []) [(s.τ 23), (.int .i64 0), (.int .i64 0), (.int .i64 0)] (some 24) s ⟨K⟩⟩ ⟨W32_c8 P Φ⟩
def W32_c10 (P : Program) (Φ : EP) (s : St) : Prop :=
  @sOp (some 21) (xPick (s.τ 17) (s.τ 20) (.bool false) s.H) s <| .mk fun s =>
  @sMv 22 21 s <| .mk fun s =>
  @sGl 23 9 2 22 true true s ⟨W32_c9 P Φ⟩
def W32_c11 (P : Program) (Φ : EP) (s : St) : Prop :=
  @sGrd (guardOf (s.τ 17) true) (some 20) s ⟨fun s K => @sOp (some 20) (xBin .eql false (s.τ 19) (.int .i64 2) s.H) s ⟨K⟩⟩ ⟨W32_c10 P Φ⟩
def W32_c12 (P : Program) (Φ : EP) (s : St) : Prop :=
  @sGrd (guardOf (s.τ 17) true) (some 19) s ⟨fun s K => @sCall P (.func 36 []) [(s.τ 18)] (some 19) s ⟨K⟩⟩ ⟨W32_c11 P Φ⟩
def W32_c13 (P : Program) (Φ : EP) (s : St) : Prop :=
  @sMv 17 16 s <| .mk fun s =>
  @sGl 18 9 1 17 true true s ⟨W32_c12 P Φ⟩
def W32_c14 (P : Program) (Φ : EP) (s : St) : Prop :=
  @sOp (some 15) (xBuild [.int .i64 0, .int .i64 0, .int .i64 0, .str ⟨#[]⟩, .int .i64 0, .int .i64 0, .str ⟨#[]⟩, .nils, .nils] [] s.H) s <| .mk fun s =>
  @sCall P (.func 38 []) [(s.τ 14), (s.τ 15)] (some 16) s ⟨W32_c13 P Φ⟩
def W32_c15 (P : Program) (Φ : EP) (s : St) : Prop :=
  @sMv 3 12 s <| .mk fun s =>
  @sLd 13 9 1 true s <| .mk fun s =>
  @sCall P (.func 40 []) [(s.τ 13)] (some 14) s ⟨W32_c14 P Φ⟩
def W32 (P : Program) (Φ : EP) (s : St) : Prop :=
  @sOp (some 0) (xMov (.bool false) s.H) s <| .mk fun s =>
  @sOp (some 4) (xBuild [.int .i64 0, .int .i64 0, .int .i64 0, .str ⟨#[]⟩, .int .i64 0, .int .i64 0, .str ⟨#[]⟩, .nils, .nils] [] s.H) s <| .mk fun s =>
  @sOp (some 5) (xLit 9 1 [.int .i64 0, .int .i64 0, .int .i64 0, .str ⟨#[]⟩, .int .i64 0, .int .i64 0, .str ⟨#[]⟩, .nils, .nils] [(0, (s.τ 4))] s.H) s <| .mk fun s =>
  @sOp (some 6) (xBuild [.int .i64 0, .int .i64 0, .int .i64 0, .str ⟨#[]⟩, .int .i64 0, .int .i64 0, .str ⟨#[]⟩, .nils, .nils] [(0, 1, (.int .i64 7)), (8, 1, (s.τ 5))] s.H) s <| .mk fun s =>
  @sOp (some 1) (xAlloc 1 34 [.int .i64 0, .int .i64 0, .int .i64 0, .str ⟨#[]⟩, .int .i64 0, .int .i64 0, .str ⟨#[]⟩, .nils, .nils] s.H) s <| .mk fun s =>
  @sOp none (xStore 9 (s.τ 1) (s.τ 6) s.H) s <| .mk fun s =>
  @sOp (some 7) (xBuild [.int .i64 0, .int .i64 0, .int .i64 0, .str ⟨#[]⟩, .int .i64 0, .int .i64 0, .str ⟨#[]⟩, .nils, .nils] [(0, 1, (.int .i64 14)), (1, 1, (.int .i64 3)), (2, 1, (.int .i64 (-1))), (3, 1, (.str ⟨#[112, 97, 121]⟩))] s.H) s <| .mk fun s =>
  @sOp (some 2) (xAlloc 2 34 [.int .i64 0, .int .i64 0, .int .i64 0, .str ⟨#[]⟩, .int .i64 0, .int .i64 0, .str ⟨#[]⟩, .nils, .nils] s.H) s <| .mk fun s =>
  @sOp none (xStore 9 (s.τ 2) (s.τ 7) s.H) s <| .mk fun s =>
  @sLd 8 9 2 true s <| .mk fun s =>
  @sOp (some 9) (xBuild [.int .i64 0, .int .i64 0, .int .i64 0, .str ⟨#[]⟩, .int .i64 0, .int .i64 0, .str ⟨#[]⟩, .nils, .nils] [] s.H) s <| .mk fun s =>
  @sOp (some 10) (xLit 9 2 [.int .i64 0, .int .i64 0, .int .i64 0, .str ⟨#[]⟩, .int .i64 0, .int .i64 0, .str ⟨#[]⟩, .nils, .nils] [(0, (s.τ 8)), (1, (s.τ 9))] s.H) s <| .mk fun s =>
  @sOp (some 11) (xBuild [.int .i64 0, .int .i64 0, .int .i64 0, .str ⟨#[]⟩, .int .i64 0, .int .i64 0, .str ⟨#[]⟩, .nils, .nils] [(0, 1, (.int .i64 12)), (8, 1, (s.τ 10))] s.H) s <| .mk fun s =>
  @sCall P (.func 41 []) [(s.τ 11)] (some 12) s ⟨W32_c15 P Φ⟩
theorem W32_rs (τ : Nat → AV) (H : Heap) : resV Try.prog τ H [.tmp 0] = some (τ 0) := by kernel_rfl
theorem W32_eq (Φ : EP) (s : St) : awp Try.prog (Try.f32.body.getD .skip) Φ s = W32 Try.prog Φ s := by kernel_rfl

-- 33 "penance/penancelaw5.Spoilt"
def W33_c1 (P : Program) (Φ : EP) (s : St) : Prop :=
  @sOp (some 40) (xIx 9 (s.τ 29) (s.τ 30) s.H) s <| .mk fun s =>
  @sOp none (xStore 9 (s.τ 40) (s.τ 39) s.H) s <| .mk fun s =>
  @sMv 41 9 s <| .mk fun s =>
  @sFl 42 8 4 s <| .mk fun s =>
  @sOp none (xStore 1 (s.τ 42) (s.τ 41) s.H) s <| .mk fun s =>
  @sLd 43 9 4 true s <| .mk fun s =>
  @sOp none (xStore 9 (s.τ 8) (s.τ 43) s.H) s <| .mk fun s =>
  Φ .ret s
def W33_c2 (P : Program) (Φ : EP) (s : St) : Prop :=
  @sMv 10 28 s <| .mk fun s =>
  @sMv 29 9 s <| .mk fun s =>
  @sMv 30 10 s <| .mk fun s =>
  @sMv 31 9 s <| .mk fun s =>
  @sMv 32 10 s <| .mk fun s =>
  @sOp (some 33) (xIx 9 (s.τ 31) (s.τ 32) s.H) s <| .mk fun s =>
  @sLd 34 9 33 true s <| .mk fun s =>
  @sMv 35 1 s <| .mk fun s =>
  @sMv 36 2 s <| .mk fun s =>
  @sMv 37 3 s <| .mk fun s =>
  @sOp (some 38) (xBin .quo false (s.τ 37) (.int .i64 9) s.H) s <| .mk fun s =>
  @sCall P (.func 33 []) [(s.τ 34), (s.τ 35), (s.τ 36), (s.τ 38)] (some 39) s ⟨W33_c1 P Φ⟩
def W33_b3 (P : Program) (Φ : EP) (s : St) : Prop :=
  @sOp (some 20) (xRow 20 34 9 0 [.int .i64 0, .int .i64 0, .int .i64 0, .str ⟨#[]⟩, .int .i64 0, .int .i64 0, .str ⟨#[]⟩, .nils, .nils] [] s.H) s <| .mk fun s =>
  @sFl 21 8 4 s <| .mk fun s =>
  @sLd 22 1 21 false s <| .mk fun s =>
  @sOp (some 23) (xApp P 34 9 120 (some 23) (s.τ 20) (s.τ 22) s.H) s <| .mk fun s =>
  @sMv 9 23 s <| .mk fun s =>
  @sMv 24 3 s <| .mk fun s =>
  @sOp (some 25) (xBin .quo false (s.τ 24) (.int .i64 4) s.H) s <| .mk fun s =>
  @sMv 26 9 s <| .mk fun s =>
  @sOp (some 27) (xLen (s.τ 26) s.H) s <| .mk fun s =>
  @sCall P (.func 43 []) [(s.τ 25), (s.τ 27)] (some 28) s ⟨W33_c2 P Φ⟩
def W33_k4 (P : Program) (Φ : EP) (s : St) : Prop :=
  @sLd 112 9 4 true s <| .mk fun s =>
  @sOp none (xStore 9 (s.τ 8) (s.τ 112) s.H) s <| .mk fun s =>
  Φ .ret s
def W33_c5 (P : Program) (Φ : EP) (s : St) : Prop :=
  @sOp (some 50) (xBin .sub false (s.τ 49) (.int .i64 1) s.H) s <| .mk fun s =>
  @sFl 51 0 4 s <| .mk fun s =>
  @sOp none (xStore 1 (s.τ 51) (s.τ 50) s.H) s <| .mk fun s =>
  W33_k4 P Φ s
def W33_b6 (P : Program) (Φ : EP) (s : St) : Prop :=
  @sMv 48 2 s <| .mk fun s =>
  @sCall P (.func 43 []) [(s.τ 48), (.int .i64 17)] (some 49) s ⟨W33_c5 P Φ⟩
def W33_c7 (P : Program) (Φ : EP) (s : St) : Prop :=
  @sOp (some 58) (xIx 1 (s.τ 55) (s.τ 57) s.H) s <| .mk fun s =>
  @sLd 59 1 58 false s <| .mk fun s =>
  @sFl 60 1 4 s <| .mk fun s =>
  @sOp none (xStore 1 (s.τ 60) (s.τ 59) s.H) s <| .mk fun s =>
  W33_k4 P Φ s
def W33_b8 (P : Program) (Φ : EP) (s : St) : Prop :=
  @sMv 54 2 s <| .mk fun s =>
  @sOp (some 55) (xLit 1 6 [.int .i64 0] [(0, (.int .i64 (-2))), (1, (.int .i64 (-1))), (2, (.int .i64 0)), (3, (.int .i64 2)), (4, (.int .i64 5)), (5, (s.τ 54))] s.H) s <| .mk fun s =>
  @sMv 56 2 s <| .mk fun s =>
  @sCall P (.func 43 []) [(s.τ 56), (.int .i64 6)] (some 57) s ⟨W33_c7 P Φ⟩
def W33_c9 (P : Program) (Φ : EP) (s : St) : Prop :=
  @sOp (some 67) (xIx 1 (s.τ 64) (s.τ 66) s.H) s <| .mk fun s =>
  @sLd 68 1 67 false s <| .mk fun s =>
  @sFl 69 2 4 s <| .mk fun s =>
  @sOp none (xStore 1 (s.τ 69) (s.τ 68) s.H) s <| .mk fun s =>
  W33_k4 P Φ s
def W33_b10 (P : Program) (Φ : EP) (s : St) : Prop :=
  @sMv 63 2 s <| .mk fun s =>
  @sOp (some 64) (xLit 1 6 [.int .i64 0] [(0, (.int .i64 (-2))), (1, (.int .i64 (-1))), (2, (.int .i64 0)), (3, (.int .i64 2)), (4, (.int .i64 3)), (5, (s.τ 63))] s.H) s <| .mk fun s =>
  @sMv 65 2 s <| .mk fun s =>
  @sCall P (.func 43 []) [(s.τ 65), (.int .i64 6)] (some 66) s ⟨W33_c9 P Φ⟩
def W33_c11 (P : Program) (Φ : EP) (s : St) : Prop :=
  @sOp (some 75) (xIx 1 (s.τ 72) (s.τ 74) s.H) s <| .mk fun s =>
  @sLd 76 1 75 false s <| .mk fun s =>
  @sFl 77 3 4 s <| .mk fun s =>
  @sOp none (xStore 1 (s.τ 77) (s.τ 76) s.H) s <| .mk fun s =>
  W33_k4 P Φ s
def W33_b12 (P : Program) (Φ : EP) (s : St) : Prop :=
  @sOp (some 72) (xLit 1 5 [.str ⟨#[]⟩] [(0, (.str ⟨#[]⟩)), (1, (.str ⟨#[112, 97, 121]⟩)), (2, (.str ⟨#[100, 111]⟩)), (3, (.str ⟨#[97, 32, 98]⟩)), (4, (.str ⟨#[80, 97, 121]⟩))] s.H) s <| .mk fun s =>
  @sMv 73 2 s <| .mk fun s =>
  @sCall P (.func 43 []) [(s.τ 73), (.int .i64 5)] (some 74) s ⟨W33_c11 P Φ⟩
def W33_c13 (P : Program) (Φ : EP) (s : St) : Prop :=
  @sOp (some 85) (xBuild [.int .i64 0, .int .i64 0, .str ⟨#[]⟩, .nils] [(0, 1, (s.τ 81)), (1, 1, (s.τ 84))] s.H) s <| .mk fun s =>
  @sFl 86 4 4 s <| .mk fun s =>
  @sOp none (xStore 4 (s.τ 86) (s.τ 85) s.H) s <| .mk fun s =>
  W33_k4 P Φ s
def W33_c14 (P : Program) (Φ : EP) (s : St) : Prop :=
  @sMv 82 2 s <| .mk fun s =>
  @sOp (some 83) (xBin .quo false (s.τ 82) (.int .i64 4) s.H) s <| .mk fun s =>
  @sCall P (.func 43 []) [(s.τ 83), (.int .i64 5)] (some 84) s ⟨W33_c13 P Φ⟩
def W33_b15 (P : Program) (Φ : EP) (s : St) : Prop :=
  @sMv 80 2 s <| .mk fun s =>
  @sCall P (.func 43 []) [(s.τ 80), (.int .i64 4)] (some 81) s ⟨W33_c14 P Φ⟩
def W33_b16 (P : Program) (Φ : EP) (s : St) : Prop :=
  @sOp (some 89) (xRow 89 34 9 0 [.int .i64 0, .int .i64 0, .int .i64 0, .str ⟨#[]⟩, .int .i64 0, .int .i64 0, .str ⟨#[]⟩, .nils, .nils] [] s.H) s <| .mk fun s =>
  @sFl 90 8 4 s <| .mk fun s =>
  @sLd 91 1 90 false s <| .mk fun s =>
  @sOp (some 92) (xApp P 34 9 120 (some 92) (s.τ 89) (s.τ 91) s.H) s <| .mk fun s =>
  @sOp (some 93) (xBuild [.int .i64 0, .int .i64 0, .int .i64 0, .str ⟨#[]⟩, .int .i64 0, .int .i64 0, .str ⟨#[]⟩, .nils, .nils] [(0, 1, (.int .i64 14)), (2, 1, (.int .i64 (-1))), (3, 1, (.str ⟨#[112, 97, 121]⟩))] s.H) s <| .mk fun s =>
  @sOp (some 94) (xLit 9 1 [.int .i64 0, .int .i64 0, .int .i64 0, .str ⟨#[]⟩, .int .i64 0, .int .i64 0, .str ⟨#[]⟩, .nils, .nils] [(0, (s.τ 93))] s.H) s <| .mk fun s =>
  @sOp (some 95) (xApp P 34 9 120 (some 95) (s.τ 92) (s.τ 94) s.H) s <| .mk fun s =>
  @sFl 96 8 4 s <| .mk fun s =>
  @sOp none (xStore 1 (s.τ 96) (s.τ 95) s.H) s <| .mk fun s =>
  W33_k4 P Φ s
def W33_b17 (P : Program) (Φ : EP) (s : St) : Prop :=
  @sFl 103 8 4 s <| .mk fun s =>
  @sLd 104 1 103 false s <| .mk fun s =>
  @sOp (some 105) (xSlc 9 (s.τ 104) (some (.int .i64 1)) none s.H) s <| .mk fun s =>
  @sFl 106 8 4 s <| .mk fun s =>
  @sOp none (xStore 1 (s.τ 106) (s.τ 105) s.H) s <| .mk fun s =>
  W33_k4 P Φ s
def W33_b18 (P : Program) (Φ : EP) (s : St) : Prop :=
  @sFl 99 8 4 s <| .mk fun s =>
  @sLd 100 1 99 false s <| .mk fun s =>
  @sOp (some 101) (xLen (s.τ 100) s.H) s <| .mk fun s =>
  @sOp (some 102) (xBin .gtr false (s.τ 101) (.int .i64 0) s.H) s <| .mk fun s =>
  @sIf (s.τ 102) ⟨W33_b17 P Φ s⟩ ⟨W33_k4 P Φ s⟩
def W33_b19 (P : Program) (Φ : EP) (s : St) : Prop :=
  @sLd 109 9 4 true s <| .mk fun s =>
  @sOp (some 110) (xLit 9 1 [.int .i64 0, .int .i64 0, .int .i64 0, .str ⟨#[]⟩, .int .i64 0, .int .i64 0, .str ⟨#[]⟩, .nils, .nils] [(0, (s.τ 109))] s.H) s <| .mk fun s =>
  @sOp (some 111) (xBuild [.int .i64 0, .int .i64 0, .int .i64 0, .str ⟨#[]⟩, .int .i64 0, .int .i64 0, .str ⟨#[]⟩, .nils, .nils] [(0, 1, (.int .i64 3)), (8, 1, (s.τ 110))] s.H) s <| .mk fun s =>
  @sOp none (xStore 9 (s.τ 4) (s.τ 111) s.H) s <| .mk fun s =>
  W33_k4 P Φ s
def W33_b20 (P : Program) (Φ : EP) (s : St) : Prop :=
  @sOp (some 108) (xBin .eql false (s.τ 45) (.int .i64 7) s.H) s <| .mk fun s =>
  @sMv 107 108 s <| .mk fun s =>
  @sIf (s.τ 107) ⟨W33_b19 P Φ s⟩ ⟨W33_k4 P Φ s⟩
def W33_b21 (P : Program) (Φ : EP) (s : St) : Prop :=
  @sOp (some 98) (xBin .eql false (s.τ 45) (.int .i64 6) s.H) s <| .mk fun s =>
  @sMv 97 98 s <| .mk fun s =>
  @sIf (s.τ 97) ⟨W33_b18 P Φ s⟩ ⟨W33_b20 P Φ s⟩
def W33_b22 (P : Program) (Φ : EP) (s : St) : Prop :=
  @sOp (some 88) (xBin .eql false (s.τ 45) (.int .i64 5) s.H) s <| .mk fun s =>
  @sMv 87 88 s <| .mk fun s =>
  @sIf (s.τ 87) ⟨W33_b16 P Φ s⟩ ⟨W33_b21 P Φ s⟩
def W33_b23 (P : Program) (Φ : EP) (s : St) : Prop :=
  @sOp (some 79) (xBin .eql false (s.τ 45) (.int .i64 4) s.H) s <| .mk fun s =>
  @sMv 78 79 s <| .mk fun s =>
  @sIf (s.τ 78) ⟨W33_b15 P Φ s⟩ ⟨W33_b22 P Φ s⟩
def W33_b24 (P : Program) (Φ : EP) (s : St) : Prop :=
  @sOp (some 71) (xBin .eql false (s.τ 45) (.int .i64 3) s.H) s <| .mk fun s =>
  @sMv 70 71 s <| .mk fun s =>
  @sIf (s.τ 70) ⟨W33_b12 P Φ s⟩ ⟨W33_b23 P Φ s⟩
def W33_b25 (P : Program) (Φ : EP) (s : St) : Prop :=
  @sOp (some 62) (xBin .eql false (s.τ 45) (.int .i64 2) s.H) s <| .mk fun s =>
  @sMv 61 62 s <| .mk fun s =>
  @sIf (s.τ 61) ⟨W33_b10 P Φ s⟩ ⟨W33_b24 P Φ s⟩
def W33_b26 (P : Program) (Φ : EP) (s : St) : Prop :=
  @sOp (some 53) (xBin .eql false (s.τ 45) (.int .i64 1) s.H) s <| .mk fun s =>
  @sMv 52 53 s <| .mk fun s =>
  @sIf (s.τ 52) ⟨W33_b8 P Φ s⟩ ⟨W33_b25 P Φ s⟩
def W33_c27 (P : Program) (Φ : EP) (s : St) : Prop :=
  @sOp (some 47) (xBin .eql false (s.τ 45) (.int .i64 0) s.H) s <| .mk fun s =>
  @sMv 46 47 s <| .mk fun s =>
  @sIf (s.τ 46) ⟨W33_b6 P Φ s⟩ ⟨W33_b26 P Φ s⟩
def W33_b28 (P : Program) (Φ : EP) (s : St) : Prop :=
  @sMv 44 1 s <| .mk fun s =>
  @sCall P (.func 43 []) [(s.τ 44), (.int .i64 8)] (some 45) s ⟨W33_c27 P Φ⟩
def W33_c29 (P : Program) (Φ : EP) (s : St) : Prop :=
  @sOp (some 19) (xPick (s.τ 15) (s.τ 18) (.bool false) s.H) s <| .mk fun s =>
  @sIf (s.τ 19) ⟨W33_b3 P Φ s⟩ ⟨W33_b28 P Φ s⟩
def W33_c30 (P : Program) (Φ : EP) (s : St) : Prop :=
  @sGrd (guardOf (s.τ 15) true) (some 18) s ⟨fun s K => @sOp (some 18) (xBin .gtr false (s.τ 17) (.int .i64 0) s.H) s ⟨K⟩⟩ ⟨W33_c29 P Φ⟩
def W33_c31 (P : Program) (Φ : EP) (s : St) : Prop :=
  @sGrd (guardOf (s.τ 15) true) (some 17) s ⟨fun s K => @sCall P (.func 43 []) [(s.τ 16), (.int .i64 4)] (some 17) s ⟨K⟩⟩ ⟨W33_c30 P Φ⟩
def W33 (P : Program) (Φ : EP) (s : St) : Prop :=
  @sOp (some 4) (xBox 4 34 (s.τ 0) s.H) s <| .mk fun s =>
  @sOp (some 8) (xAlloc 8 34 [.int .i64 0, .int .i64 0, .int .i64 0, .str ⟨#[]⟩, .int .i64 0, .int .i64 0, .str ⟨#[]⟩, .nils, .nils] s.H) s <| .mk fun s =>
  @sFl 11 8 4 s <| .mk fun s =>
  @sLd 12 1 11 false s <| .mk fun s =>
  @sOp (some 13) (xLen (s.τ 12) s.H) s <| .mk fun s =>
  @sOp (some 14) (xBin .gtr false (s.τ 13) (.int .i64 0) s.H) s <| .mk fun s =>
  @sMv 15 14 s <| .mk fun s =>
  @sGm 16 3 15 true s ⟨W33_c31 P Φ⟩
theorem W33_rs (τ : Nat → AV) (H : Heap) : resV Try.prog τ H [.cell 8 34] = rdV H 9 true (τ 8) := by kernel_rfl
theorem W33_eq (Φ : EP) (s : St) : awp Try.prog (Try.f33.body.getD .skip) Φ s = W33 Try.prog Φ s := by kernel_rfl

-- 34 "penance/term.Right"
def W34_c1 (P : Program) (Φ : EP) (s : St) : Prop :=
  @sMv 8 14 s <| .mk fun s =>
  Φ .ret s
def W34 (P : Program) (Φ : EP) (s : St) : Prop :=
  @sOp (some 4) (xBox 4 34 (s.τ 0) s.H) s <| .mk fun s =>
  @sOp (some 8) (xMov (.bool false) s.H) s <| .mk fun s =>
  @sMv 9 1 s <| .mk fun s =>
  @sMv 10 2 s <| .mk fun s =>
  @sMv 11 3 s <| .mk fun s =>
  @sOp (some 12) (xBuild [.int .i64 0, .int .i64 0, .int .i64 0] [(0, 1, (s.τ 9)), (1, 1, (s.τ 10)), (2, 1, (s.τ 11))] s.H) s <| .mk fun s =>
  @sLd 13 9 4 true s <| .mk fun s =>
  @sCall P (.func 51 []) [(s.τ 12), (s.τ 13), (.bool false)] (some 14) s ⟨W34_c1 P Φ⟩
theorem W34_rs (τ : Nat → AV) (H : Heap) : resV Try.prog τ H [.tmp 8] = some (τ 8) := by kernel_rfl
theorem W34_eq (Φ : EP) (s : St) : awp Try.prog (Try.f34.body.getD .skip) Φ s = W34 Try.prog Φ s := by kernel_rfl

-- 35 "penance/penanceref5.Right"
def W35_b1 (P : Program) (Φ : EP) (s : St) : Prop :=
  @sOp (some 8) (xMov (.bool false) s.H) s <| .mk fun s =>
  Φ .ret s
def W35_b2 (P : Program) (Φ : EP) (s : St) : Prop :=
  @sOp (some 8) (xMov (.bool false) s.H) s <| .mk fun s =>
  Φ .ret s
def W35_b3 (P : Program) (Φ : EP) (s : St) : Prop :=
  @sOp (some 8) (xMov (.bool false) s.H) s <| .mk fun s =>
  Φ .ret s
def W35_c4 (P : Program) (Φ : EP) (s : St) : Prop :=
  @sOp (some 122) (xPick (s.τ 115) (.bool true) (s.τ 121) s.H) s <| .mk fun s =>
  @sMv 8 122 s <| .mk fun s =>
  Φ .ret s
def W35_c5 (P : Program) (Φ : EP) (s : St) : Prop :=
  @sGrd (guardOf (s.τ 115) false) (some 121) s ⟨fun s K => @sOp (some 121) (xNot (s.τ 120) s.H) s ⟨K⟩⟩ ⟨W35_c4 P Φ⟩
def W35_c6 (P : Program) (Φ : EP) (s : St) : Prop :=
  @sGrd (guardOf (s.τ 115) false) (some 120) s ⟨fun s K => @sCall P (.func 57 []) [(s.τ 119)] (some 120) s ⟨K⟩⟩ ⟨W35_c5 P Φ⟩
def W35_c7 (P : Program) (Φ : EP) (s : St) : Prop :=
  @sGl 119 9 118 115 true false s ⟨W35_c6 P Φ⟩
def W35_c8 (P : Program) (Φ : EP) (s : St) : Prop :=
  @sGrd (guardOf (s.τ 115) false) (some 118) s ⟨fun s K => @sOp (some 118) (xIx 9 (s.τ 117) (.int .i64 0) s.H) s ⟨K⟩⟩ ⟨W35_c7 P Φ⟩
def W35_c9 (P : Program) (Φ : EP) (s : St) : Prop :=
  @sGl 117 1 116 115 false false s ⟨W35_c8 P Φ⟩
def W35_k10 (P : Program) (Φ : EP) (s : St) : Prop :=
  @sFl 112 0 4 s <| .mk fun s =>
  @sLd 113 1 112 false s <| .mk fun s =>
  @sOp (some 114) (xBin .neq false (s.τ 113) (.int .i64 3) s.H) s <| .mk fun s =>
  @sMv 115 114 s <| .mk fun s =>
  @sGf 116 8 4 115 false s ⟨W35_c9 P Φ⟩
def W35_b11 (P : Program) (Φ : EP) (L0 : SP) (s : St) : Prop :=
  @sOp (some 8) (xMov (.bool false) s.H) s <| .mk fun s =>
  Φ .ret s
def W35_b12 (P : Program) (Φ : EP) (L0 : SP) (s : St) : Prop :=
  @sMv 100 10 s <| .mk fun s =>
  @sOp (some 101) (xBin .add false (s.τ 100) (.int .i64 1) s.H) s <| .mk fun s =>
  @sMv 10 101 s <| .mk fun s =>
  L0 s
def W35_c13 (P : Program) (Φ : EP) (L0 : SP) (s : St) : Prop :=
  @sOp (some 111) (xNot (s.τ 110) s.H) s <| .mk fun s =>
  @sIf (s.τ 111) ⟨W35_b11 P Φ L0 s⟩ ⟨W35_b12 P Φ L0 s⟩
def W35_b14 (P : Program) (Φ : EP) (L0 : SP) (s : St) : Prop :=
  @sFl 102 8 4 s <| .mk fun s =>
  @sLd 103 1 102 false s <| .mk fun s =>
  @sMv 104 10 s <| .mk fun s =>
  @sOp (some 105) (xIx 9 (s.τ 103) (s.τ 104) s.H) s <| .mk fun s =>
  @sLd 106 9 105 true s <| .mk fun s =>
  @sMv 107 1 s <| .mk fun s =>
  @sMv 108 2 s <| .mk fun s =>
  @sMv 109 3 s <| .mk fun s =>
  @sCall P (.func 35 []) [(s.τ 106), (s.τ 107), (s.τ 108), (s.τ 109)] (some 110) s ⟨W35_c13 P Φ L0⟩
def W35_l15 (P : Program) (Φ : EP) (L0 : SP) (s : St) : Prop :=
  @sMv 95 10 s <| .mk fun s =>
  @sFl 96 8 4 s <| .mk fun s =>
  @sLd 97 1 96 false s <| .mk fun s =>
  @sOp (some 98) (xLen (s.τ 97) s.H) s <| .mk fun s =>
  @sOp (some 99) (xBin .lss false (s.τ 95) (s.τ 98) s.H) s <| .mk fun s =>
  @sIf (s.τ 99) ⟨W35_b14 P Φ L0 s⟩ ⟨W35_k10 P Φ s⟩
def W35_b16 (P : Program) (Φ : EP) (s : St) : Prop :=
  @sOp (some 10) (xMov (.int .i64 0) s.H) s <| .mk fun s =>
  @sLoop s ⟨fun L0 s => W35_l15 P Φ L0 s⟩
def W35_c17 (P : Program) (Φ : EP) (s : St) : Prop :=
  @sOp (some 94) (xPick (s.τ 83) (.bool true) (s.τ 93) s.H) s <| .mk fun s =>
  @sIf (s.τ 94) ⟨W35_b3 P Φ s⟩ ⟨W35_b16 P Φ s⟩
def W35_c18 (P : Program) (Φ : EP) (s : St) : Prop :=
  @sGrd (guardOf (s.τ 83) false) (some 93) s ⟨fun s K => @sOp (some 93) (xPick (s.τ 87) (s.τ 92) (.bool false) s.H) s ⟨K⟩⟩ ⟨W35_c17 P Φ⟩
def W35_c19 (P : Program) (Φ : EP) (s : St) : Prop :=
  @sGrd (guardOf (s.τ 87) true) (some 92) s ⟨fun s K => @sOp (some 92) (xNot (s.τ 91) s.H) s ⟨K⟩⟩ ⟨W35_c18 P Φ⟩
def W35_c20 (P : Program) (Φ : EP) (s : St) : Prop :=
  @sGrd (guardOf (s.τ 87) true) (some 91) s ⟨fun s K => @sCall P (.func 56 []) [(s.τ 89), (s.τ 90)] (some 91) s ⟨K⟩⟩ ⟨W35_c19 P Φ⟩
def W35_c21 (P : Program) (Φ : EP) (s : St) : Prop :=
  @sGrd (guardOf (s.τ 87) true) (some 90) s ⟨fun s K => @sOp (some 90) (xBuild [.int .i64 0, .int .i64 0, .str ⟨#[]⟩, .nils] [] s.H) s ⟨K⟩⟩ ⟨W35_c20 P Φ⟩
def W35_c22 (P : Program) (Φ : EP) (s : St) : Prop :=
  @sGl 89 4 88 87 true true s ⟨W35_c21 P Φ⟩
def W35_c23 (P : Program) (Φ : EP) (s : St) : Prop :=
  @sGf 88 4 4 87 true s ⟨W35_c22 P Φ⟩
def W35_c24 (P : Program) (Φ : EP) (s : St) : Prop :=
  @sGm 87 86 83 false s ⟨W35_c23 P Φ⟩
def W35_c25 (P : Program) (Φ : EP) (s : St) : Prop :=
  @sGrd (guardOf (s.τ 83) false) (some 86) s ⟨fun s K => @sOp (some 86) (xNot (s.τ 85) s.H) s ⟨K⟩⟩ ⟨W35_c24 P Φ⟩
def W35_c26 (P : Program) (Φ : EP) (s : St) : Prop :=
  @sGl 85 1 84 83 false false s ⟨W35_c25 P Φ⟩
def W35_c27 (P : Program) (Φ : EP) (s : St) : Prop :=
  @sOp (some 82) (xPick (s.τ 76) (s.τ 81) (.bool false) s.H) s <| .mk fun s =>
  @sMv 83 82 s <| .mk fun s =>
  @sGf 84 3 9 83 false s ⟨W35_c26 P Φ⟩
def W35_c28 (P : Program) (Φ : EP) (s : St) : Prop :=
  @sGrd (guardOf (s.τ 76) true) (some 81) s ⟨fun s K => @sOp (some 81) (xNot (s.τ 80) s.H) s ⟨K⟩⟩ ⟨W35_c27 P Φ⟩
def W35_c29 (P : Program) (Φ : EP) (s : St) : Prop :=
  @sGrd (guardOf (s.τ 76) true) (some 80) s ⟨fun s K => @sCall P (.func 55 []) [(s.τ 78), (s.τ 79)] (some 80) s ⟨K⟩⟩ ⟨W35_c28 P Φ⟩
def W35_c30 (P : Program) (Φ : EP) (s : St) : Prop :=
  @sGm 79 1 76 true s ⟨W35_c29 P Φ⟩
def W35_c31 (P : Program) (Φ : EP) (s : St) : Prop :=
  @sGl 78 4 77 76 true true s ⟨W35_c30 P Φ⟩
def W35_b32 (P : Program) (Φ : EP) (s : St) : Prop :=
  @sFl 74 3 9 s <| .mk fun s =>
  @sLd 75 1 74 false s <| .mk fun s =>
  @sMv 76 75 s <| .mk fun s =>
  @sGf 77 4 4 76 true s ⟨W35_c31 P Φ⟩
def W35_c33 (P : Program) (Φ : EP) (s : St) : Prop :=
  @sOp (some 73) (xPick (s.τ 64) (.bool true) (s.τ 72) s.H) s <| .mk fun s =>
  @sIf (s.τ 73) ⟨W35_b2 P Φ s⟩ ⟨W35_b32 P Φ s⟩
def W35_c34 (P : Program) (Φ : EP) (s : St) : Prop :=
  @sGrd (guardOf (s.τ 64) false) (some 72) s ⟨fun s K => @sOp (some 72) (xPick (s.τ 67) (s.τ 71) (.bool false) s.H) s ⟨K⟩⟩ ⟨W35_c33 P Φ⟩
def W35_c35 (P : Program) (Φ : EP) (s : St) : Prop :=
  @sGrd (guardOf (s.τ 67) true) (some 71) s ⟨fun s K => @sOp (some 71) (xNot (s.τ 70) s.H) s ⟨K⟩⟩ ⟨W35_c34 P Φ⟩
def W35_c36 (P : Program) (Φ : EP) (s : St) : Prop :=
  @sGrd (guardOf (s.τ 67) true) (some 70) s ⟨fun s K => @sCall P (.func 54 []) [(s.τ 69)] (some 70) s ⟨K⟩⟩ ⟨W35_c35 P Φ⟩
def W35_c37 (P : Program) (Φ : EP) (s : St) : Prop :=
  @sGl 69 1 68 67 false true s ⟨W35_c36 P Φ⟩
def W35_c38 (P : Program) (Φ : EP) (s : St) : Prop :=
  @sGf 68 3 4 67 true s ⟨W35_c37 P Φ⟩
def W35_c39 (P : Program) (Φ : EP) (s : St) : Prop :=
  @sGm 67 66 64 false s ⟨W35_c38 P Φ⟩
def W35_c40 (P : Program) (Φ : EP) (s : St) : Prop :=
  @sGl 66 1 65 64 false false s ⟨W35_c39 P Φ⟩
def W35_c41 (P : Program) (Φ : EP) (s : St) : Prop :=
  @sOp (some 63) (xPick (s.τ 56) (.bool true) (s.τ 62) s.H) s <| .mk fun s =>
  @sMv 64 63 s <| .mk fun s =>
  @sGf 65 2 9 64 false s ⟨W35_c40 P Φ⟩
def W35_c42 (P : Program) (Φ : EP) (s : St) : Prop :=
  @sGrd (guardOf (s.τ 56) false) (some 62) s ⟨fun s K => @sOp (some 62) (xBin .neq true (s.τ 58) (s.τ 61) s.H) s ⟨K⟩⟩ ⟨W35_c41 P Φ⟩
def W35_c43 (P : Program) (Φ : EP) (s : St) : Prop :=
  @sGrd (guardOf (s.τ 56) false) (some 61) s ⟨fun s K => @sOp (some 61) (xBin .neq false (s.τ 60) (.str ⟨#[]⟩) s.H) s ⟨K⟩⟩ ⟨W35_c42 P Φ⟩
def W35_c44 (P : Program) (Φ : EP) (s : St) : Prop :=
  @sGl 60 1 59 56 false false s ⟨W35_c43 P Φ⟩
def W35_c45 (P : Program) (Φ : EP) (s : St) : Prop :=
  @sGf 59 3 4 56 false s ⟨W35_c44 P Φ⟩
def W35_c46 (P : Program) (Φ : EP) (s : St) : Prop :=
  @sGl 58 1 57 56 false false s ⟨W35_c45 P Φ⟩
def W35_c47 (P : Program) (Φ : EP) (s : St) : Prop :=
  @sOp (some 55) (xPick (s.τ 46) (.bool true) (s.τ 54) s.H) s <| .mk fun s =>
  @sMv 56 55 s <| .mk fun s =>
  @sGf 57 2 9 56 false s ⟨W35_c46 P Φ⟩
def W35_c48 (P : Program) (Φ : EP) (s : St) : Prop :=
  @sGrd (guardOf (s.τ 46) false) (some 54) s ⟨fun s K => @sOp (some 54) (xPick (s.τ 50) (s.τ 53) (.bool false) s.H) s ⟨K⟩⟩ ⟨W35_c47 P Φ⟩
def W35_c49 (P : Program) (Φ : EP) (s : St) : Prop :=
  @sGrd (guardOf (s.τ 50) true) (some 53) s ⟨fun s K => @sOp (some 53) (xBin .neq false (s.τ 52) (.int .i64 0) s.H) s ⟨K⟩⟩ ⟨W35_c48 P Φ⟩
def W35_c50 (P : Program) (Φ : EP) (s : St) : Prop :=
  @sGl 52 1 51 50 false true s ⟨W35_c49 P Φ⟩
def W35_c51 (P : Program) (Φ : EP) (s : St) : Prop :=
  @sGf 51 2 4 50 true s ⟨W35_c50 P Φ⟩
def W35_c52 (P : Program) (Φ : EP) (s : St) : Prop :=
  @sGm 50 49 46 false s ⟨W35_c51 P Φ⟩
def W35_c53 (P : Program) (Φ : EP) (s : St) : Prop :=
  @sGrd (guardOf (s.τ 46) false) (some 49) s ⟨fun s K => @sOp (some 49) (xNot (s.τ 48) s.H) s ⟨K⟩⟩ ⟨W35_c52 P Φ⟩
def W35_c54 (P : Program) (Φ : EP) (s : St) : Prop :=
  @sGl 48 1 47 46 false false s ⟨W35_c53 P Φ⟩
def W35_c55 (P : Program) (Φ : EP) (s : St) : Prop :=
  @sOp (some 45) (xPick (s.τ 41) (s.τ 44) (.bool false) s.H) s <| .mk fun s =>
  @sMv 46 45 s <| .mk fun s =>
  @sGf 47 1 9 46 false s ⟨W35_c54 P Φ⟩
def W35_c56 (P : Program) (Φ : EP) (s : St) : Prop :=
  @sGrd (guardOf (s.τ 41) true) (some 44) s ⟨fun s K => @sOp (some 44) (xBin .neq false (s.τ 43) (.int .i64 0) s.H) s ⟨K⟩⟩ ⟨W35_c55 P Φ⟩
def W35_c57 (P : Program) (Φ : EP) (s : St) : Prop :=
  @sGl 43 1 42 41 false true s ⟨W35_c56 P Φ⟩
def W35_b58 (P : Program) (Φ : EP) (s : St) : Prop :=
  @sFl 38 0 9 s <| .mk fun s =>
  @sLd 39 1 38 false s <| .mk fun s =>
  @sOp (some 40) (xNot (s.τ 39) s.H) s <| .mk fun s =>
  @sMv 41 40 s <| .mk fun s =>
  @sGf 42 1 4 41 true s ⟨W35_c57 P Φ⟩
def W35_c59 (P : Program) (Φ : EP) (s : St) : Prop :=
  @sOp (some 37) (xPick (s.τ 30) (.bool true) (s.τ 36) s.H) s <| .mk fun s =>
  @sIf (s.τ 37) ⟨W35_b1 P Φ s⟩ ⟨W35_b58 P Φ s⟩
def W35_c60 (P : Program) (Φ : EP) (s : St) : Prop :=
  @sGrd (guardOf (s.τ 30) false) (some 36) s ⟨fun s K => @sOp (some 36) (xNot (s.τ 35) s.H) s ⟨K⟩⟩ ⟨W35_c59 P Φ⟩
def W35_c61 (P : Program) (Φ : EP) (s : St) : Prop :=
  @sGrd (guardOf (s.τ 30) false) (some 35) s ⟨fun s K => @sCall P (.func 53 []) [(s.τ 31), (s.τ 32), (s.τ 33), (s.τ 34)] (some 35) s ⟨K⟩⟩ ⟨W35_c60 P Φ⟩
def W35_c62 (P : Program) (Φ : EP) (s : St) : Prop :=
  @sGm 34 3 30 false s ⟨W35_c61 P Φ⟩
def W35_c63 (P : Program) (Φ : EP) (s : St) : Prop :=
  @sGm 33 2 30 false s ⟨W35_c62 P Φ⟩
def W35_c64 (P : Program) (Φ : EP) (s : St) : Prop :=
  @sGm 32 1 30 false s ⟨W35_c63 P Φ⟩
def W35_c65 (P : Program) (Φ : EP) (s : St) : Prop :=
  @sOp (some 29) (xPick (s.τ 22) (.bool true) (s.τ 28) s.H) s <| .mk fun s =>
  @sMv 30 29 s <| .mk fun s =>
  @sGl 31 9 4 30 true false s ⟨W35_c64 P Φ⟩
def W35_c66 (P : Program) (Φ : EP) (s : St) : Prop :=
  @sGrd (guardOf (s.τ 22) false) (some 28) s ⟨fun s K => @sOp (some 28) (xBin .neq false (s.τ 25) (s.τ 27) s.H) s ⟨K⟩⟩ ⟨W35_c65 P Φ⟩
def W35_c67 (P : Program) (Φ : EP) (s : St) : Prop :=
  @sGl 27 1 26 22 false false s ⟨W35_c66 P Φ⟩
def W35_c68 (P : Program) (Φ : EP) (s : St) : Prop :=
  @sGf 26 4 9 22 false s ⟨W35_c67 P Φ⟩
def W35_c69 (P : Program) (Φ : EP) (s : St) : Prop :=
  @sGrd (guardOf (s.τ 22) false) (some 25) s ⟨fun s K => @sOp (some 25) (xLen (s.τ 24) s.H) s ⟨K⟩⟩ ⟨W35_c68 P Φ⟩
def W35_c70 (P : Program) (Φ : EP) (s : St) : Prop :=
  @sGl 24 1 23 22 false false s ⟨W35_c69 P Φ⟩
def W35_c71 (P : Program) (Φ : EP) (s : St) : Prop :=
  @sOp (some 21) (xPick (s.τ 17) (.bool true) (s.τ 20) s.H) s <| .mk fun s =>
  @sMv 22 21 s <| .mk fun s =>
  @sGf 23 8 4 22 false s ⟨W35_c70 P Φ⟩
def W35_c72 (P : Program) (Φ : EP) (s : St) : Prop :=
  @sGrd (guardOf (s.τ 17) false) (some 20) s ⟨fun s K => @sOp (some 20) (xBin .gtr false (s.τ 19) (.int .i64 14) s.H) s ⟨K⟩⟩ ⟨W35_c71 P Φ⟩
def W35_c73 (P : Program) (Φ : EP) (s : St) : Prop :=
  @sGl 19 1 18 17 false false s ⟨W35_c72 P Φ⟩
def W35_c74 (P : Program) (Φ : EP) (s : St) : Prop :=
  @sOp (some 9) (xAlloc 9 90 [.bool false, .bool false, .bool false, .bool false, .int .i64 0] s.H) s <| .mk fun s =>
  @sOp none (xStore 5 (s.τ 9) (s.τ 13) s.H) s <| .mk fun s =>
  @sFl 14 0 4 s <| .mk fun s =>
  @sLd 15 1 14 false s <| .mk fun s =>
  @sOp (some 16) (xBin .lss false (s.τ 15) (.int .i64 0) s.H) s <| .mk fun s =>
  @sMv 17 16 s <| .mk fun s =>
  @sGf 18 0 4 17 false s ⟨W35_c73 P Φ⟩
def W35 (P : Program) (Φ : EP) (s : St) : Prop :=
  @sOp (some 4) (xBox 4 34 (s.τ 0) s.H) s <| .mk fun s =>
  @sOp (some 8) (xMov (.bool false) s.H) s <| .mk fun s =>
  @sFl 11 0 4 s <| .mk fun s =>
  @sLd 12 1 11 false s <| .mk fun s =>
  @sCall P (.func 52 []) [(s.τ 12)] (some 13) s ⟨W35_c74 P Φ⟩
theorem W35_rs (τ : Nat → AV) (H : Heap) : resV Try.prog τ H [.tmp 8] = some (τ 8) := by kernel_rfl
theorem W35_eq (Φ : EP) (s : St) : awp Try.prog (Try.f35.body.getD .skip) Φ s = W35 Try.prog Φ s := by kernel_rfl

-- 36 "penance/term.Size"
def W36_k1 (P : Program) (Φ : EP) (s : St) : Prop :=
  @sMv 18 3 s <| .mk fun s =>
  @sMv 2 18 s <| .mk fun s =>
  Φ .ret s
def W36_c2 (P : Program) (Φ : EP) (L0 : SP) (s : St) : Prop :=
  @sOp (some 16) (xBin .add false (s.τ 13) (s.τ 15) s.H) s <| .mk fun s =>
  @sMv 3 16 s <| .mk fun s =>
  @sOp (some 17) (xBin .add false (s.τ 9) (.int .i64 1) s.H) s <| .mk fun s =>
  @sMv 9 17 s <| .mk fun s =>
  L0 s
def W36_b3 (P : Program) (Φ : EP) (L0 : SP) (s : St) : Prop :=
  @sOp (some 11) (xIx 9 (s.τ 7) (s.τ 9) s.H) s <| .mk fun s =>
  @sLd 12 9 11 true s <| .mk fun s =>
  @sOp (some 5) (xAlloc 5 34 [.int .i64 0, .int .i64 0, .int .i64 0, .str ⟨#[]⟩, .int .i64 0, .int .i64 0, .str ⟨#[]⟩, .nils, .nils] s.H) s <| .mk fun s =>
  @sOp none (xStore 9 (s.τ 5) (s.τ 12) s.H) s <| .mk fun s =>
  @sMv 13 3 s <| .mk fun s =>
  @sLd 14 9 5 true s <| .mk fun s =>
  @sCall P (.func 36 []) [(s.τ 14)] (some 15) s ⟨W36_c2 P Φ L0⟩
def W36_l4 (P : Program) (Φ : EP) (L0 : SP) (s : St) : Prop :=
  @sOp (some 10) (xBin .lss false (s.τ 9) (s.τ 8) s.H) s <| .mk fun s =>
  @sIf (s.τ 10) ⟨W36_b3 P Φ L0 s⟩ ⟨W36_k1 P Φ s⟩
def W36 (P : Program) (Φ : EP) (s : St) : Prop :=
  @sOp (some 1) (xBox 1 34 (s.τ 0) s.H) s <| .mk fun s =>
  @sOp (some 2) (xMov (.int .i64 0) s.H) s <| .mk fun s =>
  @sOp (some 3) (xMov (.int .i64 1) s.H) s <| .mk fun s =>
  @sFl 6 8 1 s <| .mk fun s =>
  @sLd 7 1 6 false s <| .mk fun s =>
  @sOp (some 8) (xLen (s.τ 7) s.H) s <| .mk fun s =>
  @sOp (some 9) (xMov (.int .i64 0) s.H) s <| .mk fun s =>
  @sLoop s ⟨fun L0 s => W36_l4 P Φ L0 s⟩
theorem W36_rs (τ : Nat → AV) (H : Heap) : resV Try.prog τ H [.tmp 2] = some (τ 2) := by kernel_rfl
theorem W36_eq (Φ : EP) (s : St) : awp Try.prog (Try.f36.body.getD .skip) Φ s = W36 Try.prog Φ s := by kernel_rfl

-- 37 "penance/penanceref5.Size"
def W37_k1 (P : Program) (Φ : EP) (s : St) : Prop :=
  @sMv 20 3 s <| .mk fun s =>
  @sMv 2 20 s <| .mk fun s =>
  Φ .ret s
def W37_c2 (P : Program) (Φ : EP) (L0 : SP) (s : St) : Prop :=
  @sOp (some 19) (xBin .add false (s.τ 12) (s.τ 18) s.H) s <| .mk fun s =>
  @sMv 3 19 s <| .mk fun s =>
  @sMv 10 4 s <| .mk fun s =>
  @sOp (some 11) (xBin .add false (s.τ 10) (.int .i64 1) s.H) s <| .mk fun s =>
  @sMv 4 11 s <| .mk fun s =>
  L0 s
def W37_b3 (P : Program) (Φ : EP) (L0 : SP) (s : St) : Prop :=
  @sMv 12 3 s <| .mk fun s =>
  @sFl 13 8 1 s <| .mk fun s =>
  @sLd 14 1 13 false s <| .mk fun s =>
  @sMv 15 4 s <| .mk fun s =>
  @sOp (some 16) (xIx 9 (s.τ 14) (s.τ 15) s.H) s <| .mk fun s =>
  @sLd 17 9 16 true s <| .mk fun s =>
  @sCall P (.func 37 []) [(s.τ 17)] (some 18) s ⟨W37_c2 P Φ L0⟩
def W37_l4 (P : Program) (Φ : EP) (L0 : SP) (s : St) : Prop :=
  @sMv 5 4 s <| .mk fun s =>
  @sFl 6 8 1 s <| .mk fun s =>
  @sLd 7 1 6 false s <| .mk fun s =>
  @sOp (some 8) (xLen (s.τ 7) s.H) s <| .mk fun s =>
  @sOp (some 9) (xBin .lss false (s.τ 5) (s.τ 8) s.H) s <| .mk fun s =>
  @sIf (s.τ 9) ⟨W37_b3 P Φ L0 s⟩ ⟨W37_k1 P Φ s⟩
def W37 (P : Program) (Φ : EP) (s : St) : Prop :=
  @sOp (some 1) (xBox 1 34 (s.τ 0) s.H) s <| .mk fun s =>
  @sOp (some 2) (xMov (.int .i64 0) s.H) s <| .mk fun s =>
  @sOp (some 3) (xMov (.int .i64 1) s.H) s <| .mk fun s =>
  @sOp (some 4) (xMov (.int .i64 0) s.H) s <| .mk fun s =>
  @sLoop s ⟨fun L0 s => W37_l4 P Φ L0 s⟩
theorem W37_rs (τ : Nat → AV) (H : Heap) : resV Try.prog τ H [.tmp 2] = some (τ 2) := by kernel_rfl
theorem W37_eq (Φ : EP) (s : St) : awp Try.prog (Try.f37.body.getD .skip) Φ s = W37 Try.prog Φ s := by kernel_rfl

-- 38 "penance/term.Same"
def W38_c1 (P : Program) (Φ : EP) (s : St) : Prop :=
  @sOp (some 40) (xPick (s.τ 34) (s.τ 39) (.bool false) s.H) s <| .mk fun s =>
  @sMv 4 40 s <| .mk fun s =>
  Φ .ret s
def W38_c2 (P : Program) (Φ : EP) (s : St) : Prop :=
  @sGrd (guardOf (s.τ 34) true) (some 39) s ⟨fun s K => @sCall P (.func 59 []) [(s.τ 36), (s.τ 38), (.func 38 [])] (some 39) s ⟨K⟩⟩ ⟨W38_c1 P Φ⟩
def W38_c3 (P : Program) (Φ : EP) (s : St) : Prop :=
  @sGl 38 1 37 34 false true s ⟨W38_c2 P Φ⟩
def W38_c4 (P : Program) (Φ : EP) (s : St) : Prop :=
  @sGf 37 8 3 34 true s ⟨W38_c3 P Φ⟩
def W38_c5 (P : Program) (Φ : EP) (s : St) : Prop :=
  @sGl 36 1 35 34 false true s ⟨W38_c4 P Φ⟩
def W38_c6 (P : Program) (Φ : EP) (s : St) : Prop :=
  @sOp (some 33) (xPick (s.τ 27) (s.τ 32) (.bool false) s.H) s <| .mk fun s =>
  @sMv 34 33 s <| .mk fun s =>
  @sGf 35 8 2 34 true s ⟨W38_c5 P Φ⟩
def W38_c7 (P : Program) (Φ : EP) (s : St) : Prop :=
  @sGrd (guardOf (s.τ 27) true) (some 32) s ⟨fun s K => @sCall P (.func 58 []) [(s.τ 29), (s.τ 31)] (some 32) s ⟨K⟩⟩ ⟨W38_c6 P Φ⟩
def W38_c8 (P : Program) (Φ : EP) (s : St) : Prop :=
  @sGl 31 4 30 27 true true s ⟨W38_c7 P Φ⟩
def W38_c9 (P : Program) (Φ : EP) (s : St) : Prop :=
  @sGf 30 4 3 27 true s ⟨W38_c8 P Φ⟩
def W38_c10 (P : Program) (Φ : EP) (s : St) : Prop :=
  @sGl 29 4 28 27 true true s ⟨W38_c9 P Φ⟩
def W38_c11 (P : Program) (Φ : EP) (s : St) : Prop :=
  @sOp (some 26) (xPick (s.τ 20) (s.τ 25) (.bool false) s.H) s <| .mk fun s =>
  @sMv 27 26 s <| .mk fun s =>
  @sGf 28 4 2 27 true s ⟨W38_c10 P Φ⟩
def W38_c12 (P : Program) (Φ : EP) (s : St) : Prop :=
  @sGrd (guardOf (s.τ 20) true) (some 25) s ⟨fun s K => @sOp (some 25) (xBin .eql false (s.τ 22) (s.τ 24) s.H) s ⟨K⟩⟩ ⟨W38_c11 P Φ⟩
def W38_c13 (P : Program) (Φ : EP) (s : St) : Prop :=
  @sGl 24 1 23 20 false true s ⟨W38_c12 P Φ⟩
def W38_c14 (P : Program) (Φ : EP) (s : St) : Prop :=
  @sGf 23 3 3 20 true s ⟨W38_c13 P Φ⟩
def W38_c15 (P : Program) (Φ : EP) (s : St) : Prop :=
  @sGl 22 1 21 20 false true s ⟨W38_c14 P Φ⟩
def W38 (P : Program) (Φ : EP) (s : St) : Prop :=
  @sOp (some 2) (xBox 2 34 (s.τ 0) s.H) s <| .mk fun s =>
  @sOp (some 3) (xBox 3 34 (s.τ 1) s.H) s <| .mk fun s =>
  @sOp (some 4) (xMov (.bool false) s.H) s <| .mk fun s =>
  @sFl 5 0 2 s <| .mk fun s =>
  @sLd 6 1 5 false s <| .mk fun s =>
  @sFl 7 1 2 s <| .mk fun s =>
  @sLd 8 1 7 false s <| .mk fun s =>
  @sFl 9 2 2 s <| .mk fun s =>
  @sLd 10 1 9 false s <| .mk fun s =>
  @sOp (some 11) (xBuild [.int .i64 0, .int .i64 0, .int .i64 0] [(0, 1, (s.τ 6)), (1, 1, (s.τ 8)), (2, 1, (s.τ 10))] s.H) s <| .mk fun s =>
  @sFl 12 0 3 s <| .mk fun s =>
  @sLd 13 1 12 false s <| .mk fun s =>
  @sFl 14 1 3 s <| .mk fun s =>
  @sLd 15 1 14 false s <| .mk fun s =>
  @sFl 16 2 3 s <| .mk fun s =>
  @sLd 17 1 16 false s <| .mk fun s =>
  @sOp (some 18) (xBuild [.int .i64 0, .int .i64 0, .int .i64 0] [(0, 1, (s.τ 13)), (1, 1, (s.τ 15)), (2, 1, (s.τ 17))] s.H) s <| .mk fun s =>
  @sOp (some 19) (xEq false [(0, .int), (1, .int), (2, .int)] (s.τ 11) (s.τ 18) s.H) s <| .mk fun s =>
  @sMv 20 19 s <| .mk fun s =>
  @sGf 21 3 2 20 true s ⟨W38_c15 P Φ⟩
theorem W38_rs (τ : Nat → AV) (H : Heap) : resV Try.prog τ H [.tmp 4] = some (τ 4) := by kernel_rfl
theorem W38_eq (Φ : EP) (s : St) : awp Try.prog (Try.f38.body.getD .skip) Φ s = W38 Try.prog Φ s := by kernel_rfl

end Go.Proofs.Ytkagfenchknjjaa
set_option linter.unusedVariables false
namespace Go.Proofs.Ytkagfenchknjjaa
open Go Go.Am
-- 39 "penance/penanceref5.Same"
def W39_b1 (P : Program) (Φ : EP) (s : St) : Prop :=
  @sOp (some 4) (xMov (.bool false) s.H) s <| .mk fun s =>
  Φ .ret s
def W39_k2 (P : Program) (Φ : EP) (s : St) : Prop :=
  @sOp (some 4) (xMov (.bool true) s.H) s <| .mk fun s =>
  Φ .ret s
def W39_b3 (P : Program) (Φ : EP) (L0 : SP) (s : St) : Prop :=
  @sOp (some 4) (xMov (.bool false) s.H) s <| .mk fun s =>
  Φ .ret s
def W39_b4 (P : Program) (Φ : EP) (L0 : SP) (s : St) : Prop :=
  @sMv 54 5 s <| .mk fun s =>
  @sOp (some 55) (xBin .add false (s.τ 54) (.int .i64 1) s.H) s <| .mk fun s =>
  @sMv 5 55 s <| .mk fun s =>
  L0 s
def W39_c5 (P : Program) (Φ : EP) (L0 : SP) (s : St) : Prop :=
  @sOp (some 67) (xNot (s.τ 66) s.H) s <| .mk fun s =>
  @sIf (s.τ 67) ⟨W39_b3 P Φ L0 s⟩ ⟨W39_b4 P Φ L0 s⟩
def W39_b6 (P : Program) (Φ : EP) (L0 : SP) (s : St) : Prop :=
  @sFl 56 8 2 s <| .mk fun s =>
  @sLd 57 1 56 false s <| .mk fun s =>
  @sMv 58 5 s <| .mk fun s =>
  @sOp (some 59) (xIx 9 (s.τ 57) (s.τ 58) s.H) s <| .mk fun s =>
  @sLd 60 9 59 true s <| .mk fun s =>
  @sFl 61 8 3 s <| .mk fun s =>
  @sLd 62 1 61 false s <| .mk fun s =>
  @sMv 63 5 s <| .mk fun s =>
  @sOp (some 64) (xIx 9 (s.τ 62) (s.τ 63) s.H) s <| .mk fun s =>
  @sLd 65 9 64 true s <| .mk fun s =>
  @sCall0 P (.func 39 []) [(s.τ 60), (s.τ 65)] (some 66) s ⟨W39_c5 P Φ L0⟩
def W39_l7 (P : Program) (Φ : EP) (L0 : SP) (s : St) : Prop :=
  @sMv 49 5 s <| .mk fun s =>
  @sFl 50 8 2 s <| .mk fun s =>
  @sLd 51 1 50 false s <| .mk fun s =>
  @sOp (some 52) (xLen (s.τ 51) s.H) s <| .mk fun s =>
  @sOp (some 53) (xBin .lss false (s.τ 49) (s.τ 52) s.H) s <| .mk fun s =>
  @sIf (s.τ 53) ⟨W39_b6 P Φ L0 s⟩ ⟨W39_k2 P Φ s⟩
def W39_b8 (P : Program) (Φ : EP) (s : St) : Prop :=
  @sOp (some 5) (xMov (.int .i64 0) s.H) s <| .mk fun s =>
  @sLoop s ⟨fun L0 s => W39_l7 P Φ L0 s⟩
def W39_c9 (P : Program) (Φ : EP) (s : St) : Prop :=
  @sOp (some 48) (xPick (s.τ 40) (.bool true) (s.τ 47) s.H) s <| .mk fun s =>
  @sIf (s.τ 48) ⟨W39_b1 P Φ s⟩ ⟨W39_b8 P Φ s⟩
def W39_c10 (P : Program) (Φ : EP) (s : St) : Prop :=
  @sGrd (guardOf (s.τ 40) false) (some 47) s ⟨fun s K => @sOp (some 47) (xBin .neq false (s.τ 43) (s.τ 46) s.H) s ⟨K⟩⟩ ⟨W39_c9 P Φ⟩
def W39_c11 (P : Program) (Φ : EP) (s : St) : Prop :=
  @sGrd (guardOf (s.τ 40) false) (some 46) s ⟨fun s K => @sOp (some 46) (xLen (s.τ 45) s.H) s ⟨K⟩⟩ ⟨W39_c10 P Φ⟩
def W39_c12 (P : Program) (Φ : EP) (s : St) : Prop :=
  @sGl 45 1 44 40 false false s ⟨W39_c11 P Φ⟩
def W39_c13 (P : Program) (Φ : EP) (s : St) : Prop :=
  @sGf 44 8 3 40 false s ⟨W39_c12 P Φ⟩
def W39_c14 (P : Program) (Φ : EP) (s : St) : Prop :=
  @sGrd (guardOf (s.τ 40) false) (some 43) s ⟨fun s K => @sOp (some 43) (xLen (s.τ 42) s.H) s ⟨K⟩⟩ ⟨W39_c13 P Φ⟩
def W39_c15 (P : Program) (Φ : EP) (s : St) : Prop :=
  @sGl 42 1 41 40 false false s ⟨W39_c14 P Φ⟩
def W39_c16 (P : Program) (Φ : EP) (s : St) : Prop :=
  @sOp (some 39) (xPick (s.τ 32) (.bool true) (s.τ 38) s.H) s <| .mk fun s =>
  @sMv 40 39 s <| .mk fun s =>
  @sGf 41 8 2 40 false s ⟨W39_c15 P Φ⟩
def W39_c17 (P : Program) (Φ : EP) (s : St) : Prop :=
  @sGrd (guardOf (s.τ 32) false) (some 38) s ⟨fun s K => @sOp (some 38) (xNot (s.τ 37) s.H) s ⟨K⟩⟩ ⟨W39_c16 P Φ⟩
def W39_c18 (P : Program) (Φ : EP) (s : St) : Prop :=
  @sGrd (guardOf (s.τ 32) false) (some 37) s ⟨fun s K => @sCall P (.func 56 []) [(s.τ 34), (s.τ 36)] (some 37) s ⟨K⟩⟩ ⟨W39_c17 P Φ⟩
def W39_c19 (P : Program) (Φ : EP) (s : St) : Prop :=
  @sGl 36 4 35 32 true false s ⟨W39_c18 P Φ⟩
def W39_c20 (P : Program) (Φ : EP) (s : St) : Prop :=
  @sGf 35 4 3 32 false s ⟨W39_c19 P Φ⟩
def W39_c21 (P : Program) (Φ : EP) (s : St) : Prop :=
  @sGl 34 4 33 32 true false s ⟨W39_c20 P Φ⟩
def W39_c22 (P : Program) (Φ : EP) (s : St) : Prop :=
  @sOp (some 31) (xPick (s.τ 25) (.bool true) (s.τ 30) s.H) s <| .mk fun s =>
  @sMv 32 31 s <| .mk fun s =>
  @sGf 33 4 2 32 false s ⟨W39_c21 P Φ⟩
def W39_c23 (P : Program) (Φ : EP) (s : St) : Prop :=
  @sGrd (guardOf (s.τ 25) false) (some 30) s ⟨fun s K => @sOp (some 30) (xBin .neq false (s.τ 27) (s.τ 29) s.H) s ⟨K⟩⟩ ⟨W39_c22 P Φ⟩
def W39_c24 (P : Program) (Φ : EP) (s : St) : Prop :=
  @sGl 29 1 28 25 false false s ⟨W39_c23 P Φ⟩
def W39_c25 (P : Program) (Φ : EP) (s : St) : Prop :=
  @sGf 28 3 3 25 false s ⟨W39_c24 P Φ⟩
def W39_c26 (P : Program) (Φ : EP) (s : St) : Prop :=
  @sGl 27 1 26 25 false false s ⟨W39_c25 P Φ⟩
def W39_c27 (P : Program) (Φ : EP) (s : St) : Prop :=
  @sOp (some 24) (xPick (s.τ 18) (.bool true) (s.τ 23) s.H) s <| .mk fun s =>
  @sMv 25 24 s <| .mk fun s =>
  @sGf 26 3 2 25 false s ⟨W39_c26 P Φ⟩
def W39_c28 (P : Program) (Φ : EP) (s : St) : Prop :=
  @sGrd (guardOf (s.τ 18) false) (some 23) s ⟨fun s K => @sOp (some 23) (xBin .neq false (s.τ 20) (s.τ 22) s.H) s ⟨K⟩⟩ ⟨W39_c27 P Φ⟩
def W39_c29 (P : Program) (Φ : EP) (s : St) : Prop :=
  @sGl 22 1 21 18 false false s ⟨W39_c28 P Φ⟩
def W39_c30 (P : Program) (Φ : EP) (s : St) : Prop :=
  @sGf 21 2 3 18 false s ⟨W39_c29 P Φ⟩
def W39_c31 (P : Program) (Φ : EP) (s : St) : Prop :=
  @sGl 20 1 19 18 false false s ⟨W39_c30 P Φ⟩
def W39_c32 (P : Program) (Φ : EP) (s : St) : Prop :=
  @sOp (some 17) (xPick (s.τ 11) (.bool true) (s.τ 16) s.H) s <| .mk fun s =>
  @sMv 18 17 s <| .mk fun s =>
  @sGf 19 2 2 18 false s ⟨W39_c31 P Φ⟩
def W39_c33 (P : Program) (Φ : EP) (s : St) : Prop :=
  @sGrd (guardOf (s.τ 11) false) (some 16) s ⟨fun s K => @sOp (some 16) (xBin .neq false (s.τ 13) (s.τ 15) s.H) s ⟨K⟩⟩ ⟨W39_c32 P Φ⟩
def W39_c34 (P : Program) (Φ : EP) (s : St) : Prop :=
  @sGl 15 1 14 11 false false s ⟨W39_c33 P Φ⟩
def W39_c35 (P : Program) (Φ : EP) (s : St) : Prop :=
  @sGf 14 1 3 11 false s ⟨W39_c34 P Φ⟩
def W39_c36 (P : Program) (Φ : EP) (s : St) : Prop :=
  @sGl 13 1 12 11 false false s ⟨W39_c35 P Φ⟩
def W39 (P : Program) (Φ : EP) (s : St) : Prop :=
  @sOp (some 2) (xBox 2 34 (s.τ 0) s.H) s <| .mk fun s =>
  @sOp (some 3) (xBox 3 34 (s.τ 1) s.H) s <| .mk fun s =>
  @sOp (some 4) (xMov (.bool false) s.H) s <| .mk fun s =>
  @sFl 6 0 2 s <| .mk fun s =>
  @sLd 7 1 6 false s <| .mk fun s =>
  @sFl 8 0 3 s <| .mk fun s =>
  @sLd 9 1 8 false s <| .mk fun s =>
  @sOp (some 10) (xBin .neq false (s.τ 7) (s.τ 9) s.H) s <| .mk fun s =>
  @sMv 11 10 s <| .mk fun s =>
  @sGf 12 1 2 11 false s ⟨W39_c36 P Φ⟩
theorem W39_rs (τ : Nat → AV) (H : Heap) : resV Try.prog τ H [.tmp 4] = some (τ 4) := by kernel_rfl
theorem W39_eq (Φ : EP) (s : St) : awp Try.prog (Try.f39.body.getD .skip) Φ s = W39 Try.prog Φ s := by kernel_rfl

-- 40 "penance/term.Norm"
def W40_c1 (P : Program) (Φ : EP) (s : St) : Prop :=
  @sOp none (xStore 9 (s.τ 2) (s.τ 30) s.H) s <| .mk fun s =>
  Φ .ret s
def W40_b2 (P : Program) (Φ : EP) (s : St) : Prop :=
  @sFl 26 8 1 s <| .mk fun s =>
  @sLd 27 1 26 false s <| .mk fun s =>
  @sOp (some 28) (xIx 9 (s.τ 27) (.int .i64 1) s.H) s <| .mk fun s =>
  @sLd 29 9 28 true s <| .mk fun s =>
  @sCall P (.func 40 []) [(s.τ 29)] (some 30) s ⟨W40_c1 P Φ⟩
def W40_c3 (P : Program) (Φ : EP) (s : St) : Prop :=
  @sOp (some 37) (xLit 9 2 [.int .i64 0, .int .i64 0, .int .i64 0, .str ⟨#[]⟩, .int .i64 0, .int .i64 0, .str ⟨#[]⟩, .nils, .nils] [(0, (s.τ 31)), (1, (s.τ 36))] s.H) s <| .mk fun u7 =>
  @sOp (some 38) (xBuild [.int .i64 0, .int .i64 0, .int .i64 0, .str ⟨#[]⟩, .int .i64 0, .int .i64 0, .str ⟨#[]⟩, .nils, .nils] [(0, 1, (.int .i64 12)), (8, 1, (u7.τ 37))] u7.H) u7 <| .mk fun u8 =>
  @sOp none (xStore 9 (u8.τ 2) (u8.τ 38) u8.H) u8 <| .mk fun s =>
  Φ .ret s
def W40_b4 (P : Program) (Φ : EP) (s : St) : Prop :=
  @sLd 31 9 4 true s <| .mk fun u1 =>
  @sFl 32 8 1 u1 <| .mk fun u2 =>
  @sLd 33 1 32 false u2 <| .mk fun u3 =>
  @sOp (some 34) (xIx 9 (u3.τ 33) (.int .i64 1) u3.H) u3 <| .mk fun u4 =>
  @sLd 35 9 34 true u4 <| .mk fun u5 =>
  @sChk (compat (occ (s.τ 4), []) (cfp 36 61 [(u5.τ 35)])) <| .mk <|
  @sCall0 P (.func 61 []) [(u5.τ 35)] (some 36) u5 ⟨W40_c3 P Φ⟩
def W40_c5 (P : Program) (Φ : EP) (s : St) : Prop :=
  @sIf (s.τ 25) ⟨W40_b2 P Φ s⟩ ⟨W40_b4 P Φ s⟩
def W40_c6 (P : Program) (Φ : EP) (s : St) : Prop :=
  @sOp (some 4) (xAlloc 4 34 [.int .i64 0, .int .i64 0, .int .i64 0, .str ⟨#[]⟩, .int .i64 0, .int .i64 0, .str ⟨#[]⟩, .nils, .nils] s.H) s <| .mk fun s =>
  @sOp none (xStore 9 (s.τ 4) (s.τ 22) s.H) s <| .mk fun s =>
  @sMv 23 3 s <| .mk fun s =>
  @sLd 24 9 4 true s <| .mk fun s =>
  @sCall P (s.τ 23) [(s.τ 24)] (some 25) s ⟨W40_c5 P Φ⟩
def W40_b7 (P : Program) (Φ : EP) (s : St) : Prop :=
  @sFl 18 8 1 s <| .mk fun s =>
  @sLd 19 1 18 false s <| .mk fun s =>
  @sOp (some 20) (xIx 9 (s.τ 19) (.int .i64 0) s.H) s <| .mk fun s =>
  @sLd 21 9 20 true s <| .mk fun s =>
  @sCall P (.func 40 []) [(s.τ 21)] (some 22) s ⟨W40_c6 P Φ⟩
def W40_b8 (P : Program) (Φ : EP) (s : St) : Prop :=
  @sOp (some 67) (xBuild [.int .i64 0, .int .i64 0, .int .i64 0, .str ⟨#[]⟩, .int .i64 0, .int .i64 0, .str ⟨#[]⟩, .nils, .nils] [] s.H) s <| .mk fun s =>
  @sOp none (xStore 9 (s.τ 2) (s.τ 67) s.H) s <| .mk fun s =>
  Φ .ret s
def W40_b9 (P : Program) (Φ : EP) (s : St) : Prop :=
  @sLd 68 9 5 true s <| .mk fun s =>
  @sLd 69 9 6 true s <| .mk fun s =>
  @sOp (some 70) (xLit 9 2 [.int .i64 0, .int .i64 0, .int .i64 0, .str ⟨#[]⟩, .int .i64 0, .int .i64 0, .str ⟨#[]⟩, .nils, .nils] [(0, (s.τ 68)), (1, (s.τ 69))] s.H) s <| .mk fun s =>
  @sOp (some 71) (xBuild [.int .i64 0, .int .i64 0, .int .i64 0, .str ⟨#[]⟩, .int .i64 0, .int .i64 0, .str ⟨#[]⟩, .nils, .nils] [(0, 1, (.int .i64 11)), (8, 1, (s.τ 70))] s.H) s <| .mk fun s =>
  @sOp none (xStore 9 (s.τ 2) (s.τ 71) s.H) s <| .mk fun s =>
  Φ .ret s
def W40_c10 (P : Program) (Φ : EP) (s : St) : Prop :=
  @sOp (some 66) (xPick (s.τ 62) (s.τ 65) (.bool false) s.H) s <| .mk fun s =>
  @sIf (s.τ 66) ⟨W40_b8 P Φ s⟩ ⟨W40_b9 P Φ s⟩
def W40_c11 (P : Program) (Φ : EP) (s : St) : Prop :=
  @sGrd (guardOf (s.τ 62) true) (some 65) s ⟨fun s K => @sCall P (s.τ 63) [(s.τ 64)] (some 65) s ⟨K⟩⟩ ⟨W40_c10 P Φ⟩
def W40_c12 (P : Program) (Φ : EP) (s : St) : Prop :=
  @sGl 64 9 6 62 true true s ⟨W40_c11 P Φ⟩
def W40_c13 (P : Program) (Φ : EP) (s : St) : Prop :=
  @sMv 62 61 s <| .mk fun s =>
  @sGm 63 3 62 true s ⟨W40_c12 P Φ⟩
def W40_c14 (P : Program) (Φ : EP) (u0 : St) (u1 : St) (u2 : St) (u3 : St) (u4 : St) (u5 : St) (u6 : St) (u7 : St) (u8 : St) (u9 : St) (s : St) : Prop :=
  @sChk (compat (occ (u0.τ 1), []) ([5], [5])) <| .mk <|
  @sChk (compat (occ (u1.τ 49), []) ([5], [5])) <| .mk <|
  @sChk (compat (occ (u2.τ 50), []) ([5], [5])) <| .mk <|
  @sChk (compat (occ (u3.τ 51), []) ([5], [5])) <| .mk <|
  @sChk (compat (cfp 53 40 [(u4.τ 52)]) ([5], [5])) <| .mk <|
  @sChk (compat (occ (u5.τ 1), []) ([5], [5])) <| .mk <|
  @sChk (compat (occ (u6.τ 54), []) ([5], [5])) <| .mk <|
  @sChk (compat (occ (u7.τ 55), []) ([5], [5])) <| .mk <|
  @sChk (compat (occ (u8.τ 56), []) ([5], [5])) <| .mk <|
  @sChk (compat (cfp 58 40 [(u9.τ 57)]) ([5], [5])) <| .mk <|
  @sOp (some 5) (xAlloc 5 34 [.int .i64 0, .int .i64 0, .int .i64 0, .str ⟨#[]⟩, .int .i64 0, .int .i64 0, .str ⟨#[]⟩, .nils, .nils] s.H) s <| .mk fun u11 =>
  @sChk (compat (occ (u0.τ 1), []) ([6], [6])) <| .mk <|
  @sChk (compat (occ (u1.τ 49), []) ([6], [6])) <| .mk <|
  @sChk (compat (occ (u2.τ 50), []) ([6], [6])) <| .mk <|
  @sChk (compat (occ (u3.τ 51), []) ([6], [6])) <| .mk <|
  @sChk (compat (cfp 53 40 [(u4.τ 52)]) ([6], [6])) <| .mk <|
  @sChk (compat (occ (u5.τ 1), []) ([6], [6])) <| .mk <|
  @sChk (compat (occ (u6.τ 54), []) ([6], [6])) <| .mk <|
  @sChk (compat (occ (u7.τ 55), []) ([6], [6])) <| .mk <|
  @sChk (compat (occ (u8.τ 56), []) ([6], [6])) <| .mk <|
  @sChk (compat (cfp 58 40 [(u9.τ 57)]) ([6], [6])) <| .mk <|
  @sChk (compat ([5], [5]) ([6], [6])) <| .mk <|
  @sOp (some 6) (xAlloc 6 34 [.int .i64 0, .int .i64 0, .int .i64 0, .str ⟨#[]⟩, .int .i64 0, .int .i64 0, .str ⟨#[]⟩, .nils, .nils] u11.H) u11 <| .mk fun u12 =>
  @sOp none (xStore 9 (u12.τ 5) (u12.τ 53) u12.H) u12 <| .mk fun u13 =>
  @sOp none (xStore 9 (u13.τ 6) (u13.τ 58) u13.H) u13 <| .mk fun s =>
  @sMv 59 3 s <| .mk fun s =>
  @sLd 60 9 5 true s <| .mk fun s =>
  @sCall P (s.τ 59) [(s.τ 60)] (some 61) s ⟨W40_c13 P Φ⟩
def W40_c15 (P : Program) (Φ : EP) (u0 : St) (u1 : St) (u2 : St) (u3 : St) (u4 : St) (s : St) : Prop :=
  @sChk (compat (cfp 53 40 [(u4.τ 52)]) (occ (s.τ 1), [])) <| .mk <|
  @sFl 54 8 1 s <| .mk fun u6 =>
  @sChk (compat (cfp 53 40 [(u4.τ 52)]) (occ (u6.τ 54), [])) <| .mk <|
  @sLd 55 1 54 false u6 <| .mk fun u7 =>
  @sChk (compat (cfp 53 40 [(u4.τ 52)]) (occ (u7.τ 55), [])) <| .mk <|
  @sOp (some 56) (xIx 9 (u7.τ 55) (.int .i64 1) u7.H) u7 <| .mk fun u8 =>
  @sChk (compat (cfp 53 40 [(u4.τ 52)]) (occ (u8.τ 56), [])) <| .mk <|
  @sLd 57 9 56 true u8 <| .mk fun u9 =>
  @sCall0 P (.func 40 []) [(u9.τ 57)] (some 58) u9 ⟨W40_c14 P Φ u0 u1 u2 u3 u4 s u6 u7 u8 u9⟩
def W40_b16 (P : Program) (Φ : EP) (s : St) : Prop :=
  @sFl 49 8 1 s <| .mk fun u1 =>
  @sLd 50 1 49 false u1 <| .mk fun u2 =>
  @sOp (some 51) (xIx 9 (u2.τ 50) (.int .i64 0) u2.H) u2 <| .mk fun u3 =>
  @sLd 52 9 51 true u3 <| .mk fun u4 =>
  @sCall0 P (.func 40 []) [(u4.τ 52)] (some 53) u4 ⟨W40_c15 P Φ s u1 u2 u3 u4⟩
def W40_b17 (P : Program) (Φ : EP) (s : St) : Prop :=
  @sOp (some 90) (xBuild [.int .i64 0, .int .i64 0, .int .i64 0, .str ⟨#[]⟩, .int .i64 0, .int .i64 0, .str ⟨#[]⟩, .nils, .nils] [] s.H) s <| .mk fun s =>
  @sOp none (xStore 9 (s.τ 2) (s.τ 90) s.H) s <| .mk fun s =>
  Φ .ret s
def W40_b18 (P : Program) (Φ : EP) (s : St) : Prop :=
  @sLd 91 9 7 true s <| .mk fun s =>
  @sOp (some 92) (xLit 9 1 [.int .i64 0, .int .i64 0, .int .i64 0, .str ⟨#[]⟩, .int .i64 0, .int .i64 0, .str ⟨#[]⟩, .nils, .nils] [(0, (s.τ 91))] s.H) s <| .mk fun s =>
  @sOp (some 93) (xBuild [.int .i64 0, .int .i64 0, .int .i64 0, .str ⟨#[]⟩, .int .i64 0, .int .i64 0, .str ⟨#[]⟩, .nils, .nils] [(0, 1, (.int .i64 7)), (8, 1, (s.τ 92))] s.H) s <| .mk fun s =>
  @sOp none (xStore 9 (s.τ 2) (s.τ 93) s.H) s <| .mk fun s =>
  Φ .ret s
def W40_c19 (P : Program) (Φ : EP) (s : St) : Prop :=
  @sIf (s.τ 89) ⟨W40_b17 P Φ s⟩ ⟨W40_b18 P Φ s⟩
def W40_c20 (P : Program) (Φ : EP) (s : St) : Prop :=
  @sOp (some 7) (xAlloc 7 34 [.int .i64 0, .int .i64 0, .int .i64 0, .str ⟨#[]⟩, .int .i64 0, .int .i64 0, .str ⟨#[]⟩, .nils, .nils] s.H) s <| .mk fun s =>
  @sOp none (xStore 9 (s.τ 7) (s.τ 86) s.H) s <| .mk fun s =>
  @sMv 87 3 s <| .mk fun s =>
  @sLd 88 9 7 true s <| .mk fun s =>
  @sCall P (s.τ 87) [(s.τ 88)] (some 89) s ⟨W40_c19 P Φ⟩
def W40_b21 (P : Program) (Φ : EP) (s : St) : Prop :=
  @sFl 82 8 1 s <| .mk fun s =>
  @sLd 83 1 82 false s <| .mk fun s =>
  @sOp (some 84) (xIx 9 (s.τ 83) (.int .i64 0) s.H) s <| .mk fun s =>
  @sLd 85 9 84 true s <| .mk fun s =>
  @sCall P (.func 40 []) [(s.τ 85)] (some 86) s ⟨W40_c20 P Φ⟩
def W40_c22 (P : Program) (Φ : EP) (s : St) : Prop :=
  @sOp none (xStore 9 (s.τ 2) (s.τ 95) s.H) s <| .mk fun s =>
  Φ .ret s
def W40_b23 (P : Program) (Φ : EP) (s : St) : Prop :=
  @sLd 94 9 1 true s <| .mk fun s =>
  @sCall P (.func 61 []) [(s.τ 94)] (some 95) s ⟨W40_c22 P Φ⟩
def W40_c24 (P : Program) (Φ : EP) (s : St) : Prop :=
  @sOp (some 81) (xPick (s.τ 76) (s.τ 80) (.bool false) s.H) s <| .mk fun s =>
  @sMv 72 81 s <| .mk fun s =>
  @sIf (s.τ 72) ⟨W40_b21 P Φ s⟩ ⟨W40_b23 P Φ s⟩
def W40_c25 (P : Program) (Φ : EP) (s : St) : Prop :=
  @sGrd (guardOf (s.τ 76) true) (some 80) s ⟨fun s K => @sOp (some 80) (xBin .eql false (s.τ 79) (.int .i64 1) s.H) s ⟨K⟩⟩ ⟨W40_c24 P Φ⟩
def W40_c26 (P : Program) (Φ : EP) (s : St) : Prop :=
  @sGrd (guardOf (s.τ 76) true) (some 79) s ⟨fun s K => @sOp (some 79) (xLen (s.τ 78) s.H) s ⟨K⟩⟩ ⟨W40_c25 P Φ⟩
def W40_c27 (P : Program) (Φ : EP) (s : St) : Prop :=
  @sGl 78 1 77 76 false true s ⟨W40_c26 P Φ⟩
def W40_b28 (P : Program) (Φ : EP) (s : St) : Prop :=
  @sFl 73 0 1 s <| .mk fun s =>
  @sLd 74 1 73 false s <| .mk fun s =>
  @sOp (some 75) (xBin .eql false (s.τ 74) (.int .i64 7) s.H) s <| .mk fun s =>
  @sMv 76 75 s <| .mk fun s =>
  @sGf 77 8 1 76 true s ⟨W40_c27 P Φ⟩
def W40_c29 (P : Program) (Φ : EP) (s : St) : Prop :=
  @sOp (some 48) (xPick (s.τ 43) (s.τ 47) (.bool false) s.H) s <| .mk fun s =>
  @sMv 39 48 s <| .mk fun s =>
  @sIf (s.τ 39) ⟨W40_b16 P Φ s⟩ ⟨W40_b28 P Φ s⟩
def W40_c30 (P : Program) (Φ : EP) (s : St) : Prop :=
  @sGrd (guardOf (s.τ 43) true) (some 47) s ⟨fun s K => @sOp (some 47) (xBin .eql false (s.τ 46) (.int .i64 2) s.H) s ⟨K⟩⟩ ⟨W40_c29 P Φ⟩
def W40_c31 (P : Program) (Φ : EP) (s : St) : Prop :=
  @sGrd (guardOf (s.τ 43) true) (some 46) s ⟨fun s K => @sOp (some 46) (xLen (s.τ 45) s.H) s ⟨K⟩⟩ ⟨W40_c30 P Φ⟩
def W40_c32 (P : Program) (Φ : EP) (s : St) : Prop :=
  @sGl 45 1 44 43 false true s ⟨W40_c31 P Φ⟩
def W40_b33 (P : Program) (Φ : EP) (s : St) : Prop :=
  @sFl 40 0 1 s <| .mk fun s =>
  @sLd 41 1 40 false s <| .mk fun s =>
  @sOp (some 42) (xBin .eql false (s.τ 41) (.int .i64 11) s.H) s <| .mk fun s =>
  @sMv 43 42 s <| .mk fun s =>
  @sGf 44 8 1 43 true s ⟨W40_c32 P Φ⟩
def W40_c34 (P : Program) (Φ : EP) (s : St) : Prop :=
  @sOp (some 17) (xPick (s.τ 12) (s.τ 16) (.bool false) s.H) s <| .mk fun s =>
  @sMv 8 17 s <| .mk fun s =>
  @sIf (s.τ 8) ⟨W40_b7 P Φ s⟩ ⟨W40_b33 P Φ s⟩
def W40_c35 (P : Program) (Φ : EP) (s : St) : Prop :=
  @sGrd (guardOf (s.τ 12) true) (some 16) s ⟨fun s K => @sOp (some 16) (xBin .eql false (s.τ 15) (.int .i64 2) s.H) s ⟨K⟩⟩ ⟨W40_c34 P Φ⟩
def W40_c36 (P : Program) (Φ : EP) (s : St) : Prop :=
  @sGrd (guardOf (s.τ 12) true) (some 15) s ⟨fun s K => @sOp (some 15) (xLen (s.τ 14) s.H) s ⟨K⟩⟩ ⟨W40_c35 P Φ⟩
def W40_c37 (P : Program) (Φ : EP) (s : St) : Prop :=
  @sGl 14 1 13 12 false true s ⟨W40_c36 P Φ⟩
def W40 (P : Program) (Φ : EP) (s : St) : Prop :=
  @sOp (some 1) (xBox 1 34 (s.τ 0) s.H) s <| .mk fun s =>
  @sOp (some 2) (xAlloc 2 34 [.int .i64 0, .int .i64 0, .int .i64 0, .str ⟨#[]⟩, .int .i64 0, .int .i64 0, .str ⟨#[]⟩, .nils, .nils] s.H) s <| .mk fun s =>
  @sOp (some 3) (xMov (.func 60 []) s.H) s <| .mk fun s =>
  @sFl 9 0 1 s <| .mk fun s =>
  @sLd 10 1 9 false s <| .mk fun s =>
  @sOp (some 11) (xBin .eql false (s.τ 10) (.int .i64 12) s.H) s <| .mk fun s =>
  @sMv 12 11 s <| .mk fun s =>
  @sGf 13 8 1 12 true s ⟨W40_c37 P Φ⟩
theorem W40_rs (τ : Nat → AV) (H : Heap) : resV Try.prog τ H [.cell 2 34] = rdV H 9 true (τ 2) := by kernel_rfl
theorem W40_eq (Φ : EP) (s : St) : awp Try.prog (Try.f40.body.getD .skip) Φ s = W40 Try.prog Φ s := by kernel_rfl

-- 41 "penance/term.Waits"
def W41_c1 (P : Program) (Φ : EP) (s : St) : Prop :=
  @sMv 2 17 s <| .mk fun s =>
  Φ .ret s
def W41_k2 (P : Program) (Φ : EP) (s : St) : Prop :=
  @sLd 16 1 3 false s <| .mk fun s =>
  @sCall P (.func 49 []) [(s.τ 16)] (some 17) s ⟨W41_c1 P Φ⟩
def W41_b3 (P : Program) (Φ : EP) (s : St) : Prop :=
  @sLd 11 1 3 false s <| .mk fun s =>
  @sFl 12 1 4 s <| .mk fun s =>
  @sLd 13 1 12 false s <| .mk fun s =>
  @sOp (some 14) (xLit 1 1 [.int .i64 0] [(0, (s.τ 13))] s.H) s <| .mk fun s =>
  @sOp (some 15) (xApp P 3 1 8 (some 15) (s.τ 11) (s.τ 14) s.H) s <| .mk fun s =>
  @sOp none (xStore 1 (s.τ 3) (s.τ 15) s.H) s <| .mk fun s =>
  Φ .normal s
def W41_r4 (P : Program) (Φ : EP) (s : St) : Prop :=
  @sOp (some 4) (xAlloc 4 34 [.int .i64 0, .int .i64 0, .int .i64 0, .str ⟨#[]⟩, .int .i64 0, .int .i64 0, .str ⟨#[]⟩, .nils, .nils] s.H) s <| .mk fun s =>
  @sOp none (xStore 9 (s.τ 4) (s.τ 7) s.H) s <| .mk fun s =>
  @sFl 8 0 4 s <| .mk fun s =>
  @sLd 9 1 8 false s <| .mk fun s =>
  @sOp (some 10) (xBin .eql false (s.τ 9) (.int .i64 14) s.H) s <| .mk fun s =>
  @sIf (s.τ 10) ⟨W41_b3 P Φ s⟩ ⟨Φ .normal s⟩
def W41_c5 (P : Program) (Φ : EP) (s : St) : Prop :=
  @sRange P (s.τ 6) [7] s ⟨fun Φ s => W41_r4 P Φ s⟩ ⟨(blkK 0 (thenK (W41_k2 P Φ) Φ))⟩
def W41 (P : Program) (Φ : EP) (s : St) : Prop :=
  @sOp (some 1) (xBox 1 34 (s.τ 0) s.H) s <| .mk fun s =>
  @sOp (some 2) (xMov (.nils) s.H) s <| .mk fun s =>
  @sOp (some 3) (xAlloc 3 41 [.nils] s.H) s <| .mk fun s =>
  @sLd 5 9 1 true s <| .mk fun s =>
  @sCall P (.func 62 []) [(s.τ 5)] (some 6) s ⟨W41_c5 P Φ⟩
theorem W41_rs (τ : Nat → AV) (H : Heap) : resV Try.prog τ H [.tmp 2] = some (τ 2) := by kernel_rfl
theorem W41_eq (Φ : EP) (s : St) : awp Try.prog (Try.f41.body.getD .skip) Φ s = W41 Try.prog Φ s := by kernel_rfl

-- 43 "penance/penancelaw5.within"
def W43_k1 (P : Program) (Φ : EP) (s : St) : Prop :=
  @sMv 14 5 s <| .mk fun s =>
  @sMv 4 14 s <| .mk fun s =>
  Φ .ret s
def W43_b2 (P : Program) (Φ : EP) (s : St) : Prop :=
  @sMv 11 5 s <| .mk fun s =>
  @sMv 12 1 s <| .mk fun s =>
  @sOp (some 13) (xBin .add false (s.τ 11) (s.τ 12) s.H) s <| .mk fun s =>
  @sMv 5 13 s <| .mk fun s =>
  W43_k1 P Φ s
def W43 (P : Program) (Φ : EP) (s : St) : Prop :=
  @sOp (some 4) (xMov (.int .i64 0) s.H) s <| .mk fun s =>
  @sMv 6 0 s <| .mk fun s =>
  @sMv 7 1 s <| .mk fun s =>
  @sOp (some 8) (xBin .rem false (s.τ 6) (s.τ 7) s.H) s <| .mk fun s =>
  @sMv 5 8 s <| .mk fun s =>
  @sMv 9 5 s <| .mk fun s =>
  @sOp (some 10) (xBin .lss false (s.τ 9) (.int .i64 0) s.H) s <| .mk fun s =>
  @sIf (s.τ 10) ⟨W43_b2 P Φ s⟩ ⟨W43_k1 P Φ s⟩
theorem W43_rs (τ : Nat → AV) (H : Heap) : resV Try.prog τ H [.tmp 4] = some (τ 4) := by kernel_rfl
theorem W43_eq (Φ : EP) (s : St) : awp Try.prog (Try.f43.body.getD .skip) Φ s = W43 Try.prog Φ s := by kernel_rfl

-- 44 "penance/penancelaw3.size"
def W44_b1 (P : Program) (Φ : EP) (s : St) : Prop :=
  @sOp (some 4) (xMov (.int .i64 1000) s.H) s <| .mk fun s =>
  Φ .ret s
def W44_k2 (P : Program) (Φ : EP) (s : St) : Prop :=
  @sMv 36 5 s <| .mk fun s =>
  @sMv 4 36 s <| .mk fun s =>
  Φ .ret s
def W44_c3 (P : Program) (Φ : EP) (L0 : SP) (s : St) : Prop :=
  @sOp (some 35) (xBin .add false (s.τ 26) (s.τ 34) s.H) s <| .mk fun s =>
  @sMv 5 35 s <| .mk fun s =>
  @sMv 24 6 s <| .mk fun s =>
  @sOp (some 25) (xBin .add false (s.τ 24) (.int .i64 1) s.H) s <| .mk fun s =>
  @sMv 6 25 s <| .mk fun s =>
  L0 s
def W44_b4 (P : Program) (Φ : EP) (L0 : SP) (s : St) : Prop :=
  @sMv 26 5 s <| .mk fun s =>
  @sFl 27 4 2 s <| .mk fun s =>
  @sLd 28 1 27 false s <| .mk fun s =>
  @sMv 29 6 s <| .mk fun s =>
  @sOp (some 30) (xIx 5 (s.τ 28) (s.τ 29) s.H) s <| .mk fun s =>
  @sLd 31 5 30 true s <| .mk fun s =>
  @sMv 32 1 s <| .mk fun s =>
  @sOp (some 33) (xBin .add false (s.τ 32) (.int .i64 1) s.H) s <| .mk fun s =>
  @sCall P (.func 44 []) [(s.τ 31), (s.τ 33)] (some 34) s ⟨W44_c3 P Φ L0⟩
def W44_c5 (P : Program) (Φ : EP) (L0 : SP) (s : St) : Prop :=
  @sOp (some 23) (xPick (s.τ 20) (s.τ 22) (.bool false) s.H) s <| .mk fun s =>
  @sIf (s.τ 23) ⟨W44_b4 P Φ L0 s⟩ ⟨W44_k2 P Φ s⟩
def W44_c6 (P : Program) (Φ : EP) (L0 : SP) (s : St) : Prop :=
  @sGrd (guardOf (s.τ 20) true) (some 22) s ⟨fun s K => @sOp (some 22) (xBin .leq false (s.τ 21) (.int .i64 40) s.H) s ⟨K⟩⟩ ⟨W44_c5 P Φ L0⟩
def W44_l7 (P : Program) (Φ : EP) (L0 : SP) (s : St) : Prop :=
  @sMv 15 6 s <| .mk fun s =>
  @sFl 16 4 2 s <| .mk fun s =>
  @sLd 17 1 16 false s <| .mk fun s =>
  @sOp (some 18) (xLen (s.τ 17) s.H) s <| .mk fun s =>
  @sOp (some 19) (xBin .lss false (s.τ 15) (s.τ 18) s.H) s <| .mk fun s =>
  @sMv 20 19 s <| .mk fun s =>
  @sGm 21 5 20 true s ⟨W44_c6 P Φ L0⟩
def W44_b8 (P : Program) (Φ : EP) (s : St) : Prop :=
  @sOp (some 5) (xMov (.int .i64 1) s.H) s <| .mk fun s =>
  @sOp (some 6) (xMov (.int .i64 0) s.H) s <| .mk fun s =>
  @sLoop s ⟨fun L0 s => W44_l7 P Φ L0 s⟩
def W44_c9 (P : Program) (Φ : EP) (s : St) : Prop :=
  @sOp (some 14) (xPick (s.τ 9) (.bool true) (s.τ 13) s.H) s <| .mk fun s =>
  @sIf (s.τ 14) ⟨W44_b1 P Φ s⟩ ⟨W44_b8 P Φ s⟩
def W44_c10 (P : Program) (Φ : EP) (s : St) : Prop :=
  @sGrd (guardOf (s.τ 9) false) (some 13) s ⟨fun s K => @sOp (some 13) (xNot (s.τ 12) s.H) s ⟨K⟩⟩ ⟨W44_c9 P Φ⟩
def W44_c11 (P : Program) (Φ : EP) (s : St) : Prop :=
  @sGrd (guardOf (s.τ 9) false) (some 12) s ⟨fun s K => @sCall P (.func 64 []) [(s.τ 11)] (some 12) s ⟨K⟩⟩ ⟨W44_c10 P Φ⟩
def W44_c12 (P : Program) (Φ : EP) (s : St) : Prop :=
  @sGl 11 1 10 9 false false s ⟨W44_c11 P Φ⟩
def W44 (P : Program) (Φ : EP) (s : St) : Prop :=
  @sOp (some 2) (xBox 2 25 (s.τ 0) s.H) s <| .mk fun s =>
  @sOp (some 4) (xMov (.int .i64 0) s.H) s <| .mk fun s =>
  @sMv 7 1 s <| .mk fun s =>
  @sOp (some 8) (xBin .gtr false (s.τ 7) (.int .i64 8) s.H) s <| .mk fun s =>
  @sMv 9 8 s <| .mk fun s =>
  @sGf 10 3 2 9 false s ⟨W44_c12 P Φ⟩
theorem W44_rs (τ : Nat → AV) (H : Heap) : resV Try.prog τ H [.tmp 4] = some (τ 4) := by kernel_rfl
theorem W44_eq (Φ : EP) (s : St) : awp Try.prog (Try.f44.body.getD .skip) Φ s = W44 Try.prog Φ s := by kernel_rfl

-- 45 "(penance/penancelaw3.Shape).Make"
def W45_k1 (P : Program) (Φ : EP) (s : St) : Prop :=
  @sLd 57 3 3 true s <| .mk fun s =>
  @sOp none (xStore 3 (s.τ 2) (s.τ 57) s.H) s <| .mk fun s =>
  Φ .ret s
def W45_k2 (P : Program) (Φ : EP) (L0 : SP) (s : St) : Prop :=
  @sFl 51 2 3 s <| .mk fun s =>
  @sLd 52 1 51 false s <| .mk fun s =>
  @sLd 53 9 6 true s <| .mk fun s =>
  @sOp (some 54) (xLit 9 1 [.str ⟨#[]⟩, .int .i64 0, .str ⟨#[]⟩, .str ⟨#[]⟩, .int .i64 0, .int .i64 0, .str ⟨#[]⟩, .nils, .nils] [(0, (s.τ 53))] s.H) s <| .mk fun s =>
  @sOp (some 55) (xApp P 75 9 136 (some 55) (s.τ 52) (s.τ 54) s.H) s <| .mk fun s =>
  @sFl 56 2 3 s <| .mk fun s =>
  @sOp none (xStore 1 (s.τ 56) (s.τ 55) s.H) s <| .mk fun s =>
  @sMv 32 5 s <| .mk fun s =>
  @sOp (some 33) (xBin .add false (s.τ 32) (.int .i64 1) s.H) s <| .mk fun s =>
  @sMv 5 33 s <| .mk fun s =>
  L0 s
def W45_c3 (P : Program) (Φ : EP) (L0 : SP) (s : St) : Prop :=
  @sFl 50 1 6 s <| .mk fun s =>
  @sOp none (xStore 8 (s.τ 50) (s.τ 49) s.H) s <| .mk fun s =>
  W45_k2 P Φ L0 s
def W45_b4 (P : Program) (Φ : EP) (L0 : SP) (s : St) : Prop :=
  @sFl 44 2 1 s <| .mk fun s =>
  @sLd 45 1 44 false s <| .mk fun s =>
  @sMv 46 5 s <| .mk fun s =>
  @sOp (some 47) (xIx 5 (s.τ 45) (s.τ 46) s.H) s <| .mk fun s =>
  @sLd 48 5 47 true s <| .mk fun s =>
  @sCall P (.func 69 []) [(s.τ 48), (.int .i64 0)] (some 49) s ⟨W45_c3 P Φ L0⟩
def W45_c5 (P : Program) (Φ : EP) (L0 : SP) (s : St) : Prop :=
  @sMv 35 5 s <| .mk fun s =>
  @sOp (some 36) (xIx 1 (s.τ 34) (s.τ 35) s.H) s <| .mk fun s =>
  @sLd 37 1 36 false s <| .mk fun s =>
  @sOp (some 38) (xBuild [.str ⟨#[]⟩, .int .i64 0, .str ⟨#[]⟩, .str ⟨#[]⟩, .int .i64 0, .int .i64 0, .str ⟨#[]⟩, .nils, .nils] [(0, 1, (s.τ 37))] s.H) s <| .mk fun s =>
  @sOp (some 6) (xAlloc 6 75 [.str ⟨#[]⟩, .int .i64 0, .str ⟨#[]⟩, .str ⟨#[]⟩, .int .i64 0, .int .i64 0, .str ⟨#[]⟩, .nils, .nils] s.H) s <| .mk fun s =>
  @sOp none (xStore 9 (s.τ 6) (s.τ 38) s.H) s <| .mk fun s =>
  @sMv 39 5 s <| .mk fun s =>
  @sFl 40 2 1 s <| .mk fun s =>
  @sLd 41 1 40 false s <| .mk fun s =>
  @sOp (some 42) (xLen (s.τ 41) s.H) s <| .mk fun s =>
  @sOp (some 43) (xBin .lss false (s.τ 39) (s.τ 42) s.H) s <| .mk fun s =>
  @sIf (s.τ 43) ⟨W45_b4 P Φ L0 s⟩ ⟨W45_k2 P Φ L0 s⟩
def W45_l6 (P : Program) (Φ : EP) (L0 : SP) (s : St) : Prop :=
  @sMv 30 5 s <| .mk fun s =>
  @sOp (some 31) (xBin .lss false (s.τ 30) (.int .i64 5) s.H) s <| .mk fun s =>
  @sIf (s.τ 31) ⟨@sCall P (.func 68 []) [] (some 34) s ⟨W45_c5 P Φ L0⟩⟩ ⟨W45_k1 P Φ s⟩
def W45_k7 (P : Program) (Φ : EP) (s : St) : Prop :=
  @sOp (some 5) (xMov (.int .i64 0) s.H) s <| .mk fun s =>
  @sLoop s ⟨fun L0 s => W45_l6 P Φ L0 s⟩
def W45_c8 (P : Program) (Φ : EP) (L0 : SP) (u0 : St) (u1 : St) (s : St) : Prop :=
  @sOp (some 25) (xBin .sub false (s.τ 24) (.int .i64 4) s.H) s <| .mk fun u13 =>
  @sOp (some 26) (xBuild [.str ⟨#[]⟩, .int .i64 0] [(0, 1, (u13.τ 18)), (1, 1, (u13.τ 25))] u13.H) u13 <| .mk fun u14 =>
  @sChk (compat (occ (u0.τ 3), []) ([27] ++ occL [(u14.τ 26)], [27] ++ occL [(u14.τ 26)])) <| .mk <|
  @sChk (compat (occ (u1.τ 13), []) ([27] ++ occL [(u14.τ 26)], [27] ++ occL [(u14.τ 26)])) <| .mk <|
  @sOp (some 27) (xLit 2 1 [.str ⟨#[]⟩, .int .i64 0] [(0, (u14.τ 26))] u14.H) u14 <| .mk fun u15 =>
  @sOp (some 28) (xApp P 103 2 24 (some 28) (u15.τ 14) (u15.τ 27) u15.H) u15 <| .mk fun u16 =>
  @sFl 29 0 3 u16 <| .mk fun u17 =>
  @sOp none (xStore 1 (u17.τ 29) (u17.τ 28) u17.H) u17 <| .mk fun s =>
  @sMv 11 4 s <| .mk fun s =>
  @sOp (some 12) (xBin .add false (s.τ 11) (.int .i64 1) s.H) s <| .mk fun s =>
  @sMv 4 12 s <| .mk fun s =>
  L0 s
def W45_c9 (P : Program) (Φ : EP) (L0 : SP) (u0 : St) (u1 : St) (u2 : St) (s : St) : Prop :=
  @sMv 16 4 s <| .mk fun u4 =>
  @sOp (some 17) (xIx 1 (u4.τ 15) (u4.τ 16) u4.H) u4 <| .mk fun u5 =>
  @sLd 18 1 17 false u5 <| .mk fun u6 =>
  @sChk (compat (cfp 15 66 []) (occ (u6.τ 1), [])) <| .mk <|
  @sFl 19 0 1 u6 <| .mk fun u7 =>
  @sChk (compat (cfp 15 66 []) (occ (u7.τ 19), [])) <| .mk <|
  @sLd 20 1 19 false u7 <| .mk fun u8 =>
  @sMv 21 4 u8 <| .mk fun u9 =>
  @sOp (some 22) (xBin .add false (u9.τ 21) (.int .i64 1) u9.H) u9 <| .mk fun u10 =>
  @sOp (some 23) (xBin .quo false (u10.τ 20) (u10.τ 22) u10.H) u10 <| .mk fun u11 =>
  @sChk (compat (occ (u0.τ 3), []) (cfp 24 67 [(u11.τ 23), (.int .i64 9)])) <| .mk <|
  @sChk (compat (occ (u1.τ 13), []) (cfp 24 67 [(u11.τ 23), (.int .i64 9)])) <| .mk <|
  @sChk (compat (occ (u4.τ 15), []) (cfp 24 67 [(u11.τ 23), (.int .i64 9)])) <| .mk <|
  @sChk (compat (occ (u5.τ 17), []) (cfp 24 67 [(u11.τ 23), (.int .i64 9)])) <| .mk <|
  @sCall0 P (.func 67 []) [(u11.τ 23), (.int .i64 9)] (some 24) u11 ⟨W45_c8 P Φ L0 u0 u1⟩
def W45_b10 (P : Program) (Φ : EP) (L0 : SP) (s : St) : Prop :=
  @sFl 13 0 3 s <| .mk fun u1 =>
  @sLd 14 1 13 false u1 <| .mk fun u2 =>
  @sChk (compat (occ (s.τ 3), []) (cfp 15 66 [])) <| .mk <|
  @sChk (compat (occ (u1.τ 13), []) (cfp 15 66 [])) <| .mk <|
  @sCall0 P (.func 66 []) [] (some 15) u2 ⟨W45_c9 P Φ L0 s u1 u2⟩
def W45_l11 (P : Program) (Φ : EP) (L0 : SP) (s : St) : Prop :=
  @sMv 9 4 s <| .mk fun s =>
  @sOp (some 10) (xBin .lss false (s.τ 9) (.int .i64 3) s.H) s <| .mk fun s =>
  @sIf (s.τ 10) ⟨W45_b10 P Φ L0 s⟩ ⟨W45_k7 P Φ s⟩
def W45_c12 (P : Program) (Φ : EP) (s : St) : Prop :=
  @sOp (some 8) (xBuild [.nils, .nils, .nils] [(1, 1, (s.τ 7))] s.H) s <| .mk fun s =>
  @sOp (some 3) (xAlloc 3 69 [.nils, .nils, .nils] s.H) s <| .mk fun s =>
  @sOp none (xStore 3 (s.τ 3) (s.τ 8) s.H) s <| .mk fun s =>
  @sOp (some 4) (xMov (.int .i64 0) s.H) s <| .mk fun s =>
  @sLoop s ⟨fun L0 s => W45_l11 P Φ L0 s⟩
def W45 (P : Program) (Φ : EP) (s : St) : Prop :=
  @sOp (some 1) (xBox 1 28 (s.τ 0) s.H) s <| .mk fun s =>
  @sOp (some 2) (xAlloc 2 69 [.nils, .nils, .nils] s.H) s <| .mk fun s =>
  @sCall P (.func 65 []) [] (some 7) s ⟨W45_c12 P Φ⟩
theorem W45_rs (τ : Nat → AV) (H : Heap) : resV Try.prog τ H [.cell 2 69] = rdV H 3 true (τ 2) := by kernel_rfl
theorem W45_eq (Φ : EP) (s : St) : awp Try.prog (Try.f45.body.getD .skip) Φ s = W45 Try.prog Φ s := by kernel_rfl

-- 46 "penance/penancelaw5.ref4"
def W46_b1 (P : Program) (Φ : EP) (s : St) : Prop :=
  @sOp (some 13) (xBuild [.int .i64 0, .int .i64 0, .int .i64 0, .str ⟨#[]⟩, .int .i64 0, .int .i64 0, .str ⟨#[]⟩, .nils, .nils] [] s.H) s <| .mk fun s =>
  @sOp none (xStore 9 (s.τ 2) (s.τ 13) s.H) s <| .mk fun s =>
  @sOp (some 3) (xMov (.bool false) s.H) s <| .mk fun s =>
  Φ .ret s
def W46_b2 (P : Program) (Φ : EP) (s : St) : Prop :=
  @sFl 14 2 4 s <| .mk fun s =>
  @sLd 15 1 14 false s <| .mk fun s =>
  @sOp (some 16) (xIx 9 (s.τ 15) (.int .i64 0) s.H) s <| .mk fun s =>
  @sLd 17 9 16 true s <| .mk fun s =>
  @sOp none (xStore 9 (s.τ 2) (s.τ 17) s.H) s <| .mk fun s =>
  @sOp (some 3) (xMov (.bool true) s.H) s <| .mk fun s =>
  Φ .ret s
def W46_c3 (P : Program) (Φ : EP) (s : St) : Prop :=
  @sMv 6 8 s <| .mk fun s =>
  @sOp (some 9) (xExt (s.τ 6) 0 s.H) s <| .mk fun s =>
  @sOp (some 10) (xExt (s.τ 6) 1 s.H) s <| .mk fun s =>
  @sOp (some 4) (xAlloc 4 106 [.nils, .int .i64 0, .nils, .int .i64 0] s.H) s <| .mk fun s =>
  @sOp none (xStore 4 (s.τ 4) (s.τ 9) s.H) s <| .mk fun s =>
  @sMv 5 10 s <| .mk fun s =>
  @sMv 11 5 s <| .mk fun s =>
  @sOp (some 12) (xBin .neq false (s.τ 11) (.int .i64 0) s.H) s <| .mk fun s =>
  @sIf (s.τ 12) ⟨W46_b1 P Φ s⟩ ⟨W46_b2 P Φ s⟩
def W46 (P : Program) (Φ : EP) (s : St) : Prop :=
  @sOp (some 1) (xBox 1 69 (s.τ 0) s.H) s <| .mk fun s =>
  @sOp (some 2) (xAlloc 2 34 [.int .i64 0, .int .i64 0, .int .i64 0, .str ⟨#[]⟩, .int .i64 0, .int .i64 0, .str ⟨#[]⟩, .nils, .nils] s.H) s <| .mk fun s =>
  @sOp (some 3) (xMov (.bool false) s.H) s <| .mk fun s =>
  @sLd 7 3 1 true s <| .mk fun s =>
  @sCall P (.func 70 []) [(s.τ 7)] (some 8) s ⟨W46_c3 P Φ⟩
theorem W46_rs (τ : Nat → AV) (H : Heap) : resV Try.prog τ H [.cell 2 34, .tmp 3] = ob (ob (rdV H 9 true (τ 2)) fun v => ob (ob (some (τ 3)) fun v => ob (some []) fun vs => some (v :: vs)) fun vs => some (v :: vs)) fun vs => some (.tup vs) := by kernel_rfl
theorem W46_eq (Φ : EP) (s : St) : awp Try.prog (Try.f46.body.getD .skip) Φ s = W46 Try.prog Φ s := by kernel_rfl

-- 47 "penance/penancelaw5.waiting"
def W47_k1 (P : Program) (Φ : EP) (s : St) : Prop :=
  @sLd 67 9 9 true s <| .mk fun s =>
  @sOp none (xStore 9 (s.τ 8) (s.τ 67) s.H) s <| .mk fun s =>
  Φ .ret s
def W47_c2 (P : Program) (Φ : EP) (L0 : SP) (u0 : St) (u1 : St) (s : St) : Prop :=
  @sChk (compat (occ (u0.τ 9), []) ([64] ++ occL [(s.τ 63)], [64] ++ occL [(s.τ 63)])) <| .mk <|
  @sChk (compat (occ (u1.τ 48), []) ([64] ++ occL [(s.τ 63)], [64] ++ occL [(s.τ 63)])) <| .mk <|
  @sOp (some 64) (xLit 9 1 [.int .i64 0, .int .i64 0, .int .i64 0, .str ⟨#[]⟩, .int .i64 0, .int .i64 0, .str ⟨#[]⟩, .nils, .nils] [(0, (s.τ 63))] s.H) s <| .mk fun u17 =>
  @sOp (some 65) (xApp P 34 9 120 (some 65) (u17.τ 49) (u17.τ 64) u17.H) u17 <| .mk fun u18 =>
  @sFl 66 8 9 u18 <| .mk fun u19 =>
  @sOp none (xStore 1 (u19.τ 66) (u19.τ 65) u19.H) u19 <| .mk fun s =>
  @sMv 46 11 s <| .mk fun s =>
  @sOp (some 47) (xBin .add false (s.τ 46) (.int .i64 1) s.H) s <| .mk fun s =>
  @sMv 11 47 s <| .mk fun s =>
  L0 s
def W47_c3 (P : Program) (Φ : EP) (L0 : SP) (u0 : St) (u1 : St) (s : St) : Prop :=
  @sOp (some 62) (xPick (s.τ 58) (.bool true) (s.τ 61) s.H) s <| .mk fun u15 =>
  @sChk (compat (occ (u0.τ 9), []) (cfp 63 47 [(u15.τ 54), (u15.τ 55), (u15.τ 56), (u15.τ 62)])) <| .mk <|
  @sChk (compat (occ (u1.τ 48), []) (cfp 63 47 [(u15.τ 54), (u15.τ 55), (u15.τ 56), (u15.τ 62)])) <| .mk <|
  @sCall0 P (.func 47 []) [(u15.τ 54), (u15.τ 55), (u15.τ 56), (u15.τ 62)] (some 63) u15 ⟨W47_c2 P Φ L0 u0 u1⟩
def W47_c4 (P : Program) (Φ : EP) (L0 : SP) (u0 : St) (u1 : St) (s : St) : Prop :=
  @sGrd (guardOf (s.τ 58) false) (some 61) s ⟨fun s K => @sOp (some 61) (xBin .eql false (s.τ 60) (.int .i64 3) s.H) s ⟨K⟩⟩ ⟨W47_c3 P Φ L0 u0 u1⟩
def W47_c5 (P : Program) (Φ : EP) (L0 : SP) (u0 : St) (u1 : St) (s : St) : Prop :=
  @sGl 60 1 59 58 false false s ⟨W47_c4 P Φ L0 u0 u1⟩
def W47_b6 (P : Program) (Φ : EP) (L0 : SP) (s : St) : Prop :=
  @sFl 48 8 9 s <| .mk fun u1 =>
  @sLd 49 1 48 false u1 <| .mk fun u2 =>
  @sFl 50 8 4 u2 <| .mk fun u3 =>
  @sLd 51 1 50 false u3 <| .mk fun u4 =>
  @sMv 52 11 u4 <| .mk fun u5 =>
  @sOp (some 53) (xIx 9 (u5.τ 51) (u5.τ 52) u5.H) u5 <| .mk fun u6 =>
  @sLd 54 9 53 true u6 <| .mk fun u7 =>
  @sMv 55 1 u7 <| .mk fun u8 =>
  @sMv 56 2 u8 <| .mk fun u9 =>
  @sMv 57 3 u9 <| .mk fun u10 =>
  @sMv 58 57 u10 <| .mk fun u11 =>
  @sGf 59 0 4 58 false u11 ⟨W47_c5 P Φ L0 s u1⟩
def W47_l7 (P : Program) (Φ : EP) (L0 : SP) (s : St) : Prop :=
  @sMv 41 11 s <| .mk fun s =>
  @sFl 42 8 4 s <| .mk fun s =>
  @sLd 43 1 42 false s <| .mk fun s =>
  @sOp (some 44) (xLen (s.τ 43) s.H) s <| .mk fun s =>
  @sOp (some 45) (xBin .lss false (s.τ 41) (s.τ 44) s.H) s <| .mk fun s =>
  @sIf (s.τ 45) ⟨W47_b6 P Φ L0 s⟩ ⟨W47_k1 P Φ s⟩
def W47_k8 (P : Program) (Φ : EP) (s : St) : Prop :=
  @sOp (some 11) (xMov (.int .i64 0) s.H) s <| .mk fun s =>
  @sLoop s ⟨fun L0 s => W47_l7 P Φ L0 s⟩
def W47_b9 (P : Program) (Φ : EP) (s : St) : Prop :=
  @sMv 35 10 s <| .mk fun s =>
  @sFl 36 1 4 s <| .mk fun s =>
  @sLd 37 1 36 false s <| .mk fun s =>
  @sFl 38 3 4 s <| .mk fun s =>
  @sLd 39 1 38 false s <| .mk fun s =>
  @sOp (some 40) (xBuild [.int .i64 0, .int .i64 0, .int .i64 0, .str ⟨#[]⟩, .int .i64 0, .int .i64 0, .str ⟨#[]⟩, .nils, .nils] [(0, 1, (.int .i64 14)), (1, 1, (s.τ 35)), (2, 1, (s.τ 37)), (3, 1, (s.τ 39))] s.H) s <| .mk fun s =>
  @sOp none (xStore 9 (s.τ 8) (s.τ 40) s.H) s <| .mk fun s =>
  Φ .ret s
def W47_c10 (P : Program) (Φ : EP) (s : St) : Prop :=
  @sOp (some 34) (xPick (s.τ 26) (s.τ 33) (.bool false) s.H) s <| .mk fun s =>
  @sIf (s.τ 34) ⟨W47_b9 P Φ s⟩ ⟨W47_k8 P Φ s⟩
def W47_c11 (P : Program) (Φ : EP) (s : St) : Prop :=
  @sGrd (guardOf (s.τ 26) true) (some 33) s ⟨fun s K => @sOp (some 33) (xBin .eql false (s.τ 32) (.int .i64 1) s.H) s ⟨K⟩⟩ ⟨W47_c10 P Φ⟩
def W47_c12 (P : Program) (Φ : EP) (s : St) : Prop :=
  @sGrd (guardOf (s.τ 26) true) (some 32) s ⟨fun s K => @sCall P (.func 43 []) [(s.τ 31), (.int .i64 2)] (some 32) s ⟨K⟩⟩ ⟨W47_c11 P Φ⟩
def W47_c13 (P : Program) (Φ : EP) (s : St) : Prop :=
  @sGrd (guardOf (s.τ 26) true) (some 31) s ⟨fun s K => @sOp (some 31) (xBin .shr false (s.τ 27) (s.τ 30) s.H) s ⟨K⟩⟩ ⟨W47_c12 P Φ⟩
def W47_c14 (P : Program) (Φ : EP) (s : St) : Prop :=
  @sGrd (guardOf (s.τ 26) true) (some 30) s ⟨fun s K => @sOp (some 30) (xConv .u64 (s.τ 29) s.H) s ⟨K⟩⟩ ⟨W47_c13 P Φ⟩
def W47_c15 (P : Program) (Φ : EP) (s : St) : Prop :=
  @sGrd (guardOf (s.τ 26) true) (some 29) s ⟨fun s K => @sOp (some 29) (xBin .rem false (s.τ 28) (.int .i64 20) s.H) s ⟨K⟩⟩ ⟨W47_c14 P Φ⟩
def W47_c16 (P : Program) (Φ : EP) (s : St) : Prop :=
  @sGm 28 10 26 true s ⟨W47_c15 P Φ⟩
def W47_b17 (P : Program) (Φ : EP) (s : St) : Prop :=
  @sMv 17 2 s <| .mk fun s =>
  @sOp (some 18) (xNil (s.τ 17) s.H) s <| .mk fun s =>
  @sLd 19 1 18 false s <| .mk fun s =>
  @sMv 10 19 s <| .mk fun s =>
  @sMv 20 2 s <| .mk fun s =>
  @sMv 21 10 s <| .mk fun s =>
  @sOp (some 22) (xBin .add false (s.τ 21) (.int .i64 1) s.H) s <| .mk fun s =>
  @sOp (some 23) (xNil (s.τ 20) s.H) s <| .mk fun s =>
  @sOp none (xStore 1 (s.τ 23) (s.τ 22) s.H) s <| .mk fun s =>
  @sMv 24 3 s <| .mk fun s =>
  @sOp (some 25) (xNot (s.τ 24) s.H) s <| .mk fun s =>
  @sMv 26 25 s <| .mk fun s =>
  @sGm 27 1 26 true s ⟨W47_c16 P Φ⟩
def W47 (P : Program) (Φ : EP) (s : St) : Prop :=
  @sOp (some 4) (xBox 4 34 (s.τ 0) s.H) s <| .mk fun s =>
  @sOp (some 8) (xAlloc 8 34 [.int .i64 0, .int .i64 0, .int .i64 0, .str ⟨#[]⟩, .int .i64 0, .int .i64 0, .str ⟨#[]⟩, .nils, .nils] s.H) s <| .mk fun s =>
  @sLd 12 9 4 true s <| .mk fun s =>
  @sOp (some 9) (xAlloc 9 34 [.int .i64 0, .int .i64 0, .int .i64 0, .str ⟨#[]⟩, .int .i64 0, .int .i64 0, .str ⟨#[]⟩, .nils, .nils] s.H) s <| .mk fun s =>
  @sOp none (xStore 9 (s.τ 9) (s.τ 12) s.H) s <| .mk fun s =>
  @sFl 13 8 9 s <| .mk fun s =>
  @sOp none (xStore 1 (s.τ 13) (.nils) s.H) s <| .mk fun s =>
  @sFl 14 0 4 s <| .mk fun s =>
  @sLd 15 1 14 false s <| .mk fun s =>
  @sOp (some 16) (xBin .eql false (s.τ 15) (.int .i64 1) s.H) s <| .mk fun s =>
  @sIf (s.τ 16) ⟨W47_b17 P Φ s⟩ ⟨W47_k8 P Φ s⟩
theorem W47_rs (τ : Nat → AV) (H : Heap) : resV Try.prog τ H [.cell 8 34] = rdV H 9 true (τ 8) := by kernel_rfl
theorem W47_eq (Φ : EP) (s : St) : awp Try.prog (Try.f47.body.getD .skip) Φ s = W47 Try.prog Φ s := by kernel_rfl

-- 49 "slices.Clone[[]int,int]"
def W49_b1 (P : Program) (Φ : EP) (s : St) : Prop :=
  @sOp (some 2) (xMov (.nils) s.H) s <| .mk fun s =>
  Φ .ret s
def W49_b2 (P : Program) (Φ : EP) (s : St) : Prop :=
  @sOp (some 5) (xRow 5 3 1 0 [.int .i64 0] [] s.H) s <| .mk fun s =>
  @sMv 6 0 s <| .mk fun s =>
  @sOp (some 7) (xApp P 3 1 8 (some 7) (s.τ 5) (s.τ 6) s.H) s <| .mk fun s =>
  @sMv 2 7 s <| .mk fun s =>
  Φ .ret s
def W49_c3 (P : Program) (Φ : EP) (s : St) : Prop :=
  @sIf (s.τ 4) ⟨W49_b1 P Φ s⟩ ⟨W49_b2 P Φ s⟩
def W49 (P : Program) (Φ : EP) (s : St) : Prop :=
  @sOp (some 2) (xMov (.nils) s.H) s <| .mk fun s =>
  @sMv 3 0 s <| .mk fun s =>
  @sNil false (s.τ 3) (some 4) s ⟨W49_c3 P Φ⟩
theorem W49_rs (τ : Nat → AV) (H : Heap) : resV Try.prog τ H [.tmp 2] = some (τ 2) := by kernel_rfl
theorem W49_eq (Φ : EP) (s : St) : awp Try.prog (Try.f49.body.getD .skip) Φ s = W49 Try.prog Φ s := by kernel_rfl

-- 51 "(penance/term.bounds).right"
def W51_b1 (P : Program) (Φ : EP) (s : St) : Prop :=
  @sOp (some 6) (xMov (.bool false) s.H) s <| .mk fun s =>
  Φ .ret s
def W51_b2 (P : Program) (Φ : EP) (s : St) : Prop :=
  @sOp (some 6) (xMov (.bool false) s.H) s <| .mk fun s =>
  Φ .ret s
def W51_k3 (P : Program) (Φ : EP) (s : St) : Prop :=
  @sOp (some 6) (xMov (.bool true) s.H) s <| .mk fun s =>
  Φ .ret s
def W51_b4 (P : Program) (Φ : EP) (L0 : SP) (s : St) : Prop :=
  @sOp (some 6) (xMov (.bool false) s.H) s <| .mk fun s =>
  Φ .ret s
def W51_b5 (P : Program) (Φ : EP) (L0 : SP) (s : St) : Prop :=
  @sOp (some 93) (xBin .add false (s.τ 79) (.int .i64 1) s.H) s <| .mk fun s =>
  @sMv 79 93 s <| .mk fun s =>
  L0 s
def W51_c6 (P : Program) (Φ : EP) (L0 : SP) (s : St) : Prop :=
  @sOp (some 92) (xNot (s.τ 91) s.H) s <| .mk fun s =>
  @sIf (s.τ 92) ⟨W51_b4 P Φ L0 s⟩ ⟨W51_b5 P Φ L0 s⟩
def W51_c7 (P : Program) (Φ : EP) (L0 : SP) (s : St) : Prop :=
  @sOp (some 90) (xPick (s.τ 86) (.bool true) (s.τ 89) s.H) s <| .mk fun s =>
  @sCall P (.func 51 []) [(s.τ 83), (s.τ 84), (s.τ 90)] (some 91) s ⟨W51_c6 P Φ L0⟩
def W51_c8 (P : Program) (Φ : EP) (L0 : SP) (s : St) : Prop :=
  @sGrd (guardOf (s.τ 86) false) (some 89) s ⟨fun s K => @sOp (some 89) (xBin .eql false (s.τ 88) (.int .i64 3) s.H) s ⟨K⟩⟩ ⟨W51_c7 P Φ L0⟩
def W51_c9 (P : Program) (Φ : EP) (L0 : SP) (s : St) : Prop :=
  @sGl 88 1 87 86 false false s ⟨W51_c8 P Φ L0⟩
def W51_b10 (P : Program) (Φ : EP) (L0 : SP) (s : St) : Prop :=
  @sOp (some 81) (xIx 9 (s.τ 77) (s.τ 79) s.H) s <| .mk fun s =>
  @sLd 82 9 81 true s <| .mk fun s =>
  @sOp (some 10) (xAlloc 10 34 [.int .i64 0, .int .i64 0, .int .i64 0, .str ⟨#[]⟩, .int .i64 0, .int .i64 0, .str ⟨#[]⟩, .nils, .nils] s.H) s <| .mk fun s =>
  @sOp none (xStore 9 (s.τ 10) (s.τ 82) s.H) s <| .mk fun s =>
  @sLd 83 3 3 true s <| .mk fun s =>
  @sLd 84 9 10 true s <| .mk fun s =>
  @sMv 85 2 s <| .mk fun s =>
  @sMv 86 85 s <| .mk fun s =>
  @sGf 87 0 4 86 false s ⟨W51_c9 P Φ L0⟩
def W51_l11 (P : Program) (Φ : EP) (L0 : SP) (s : St) : Prop :=
  @sOp (some 80) (xBin .lss false (s.τ 79) (s.τ 78) s.H) s <| .mk fun s =>
  @sIf (s.τ 80) ⟨W51_b10 P Φ L0 s⟩ ⟨W51_k3 P Φ s⟩
def W51_b12 (P : Program) (Φ : EP) (s : St) : Prop :=
  @sFl 76 8 4 s <| .mk fun s =>
  @sLd 77 1 76 false s <| .mk fun s =>
  @sOp (some 78) (xLen (s.τ 77) s.H) s <| .mk fun s =>
  @sOp (some 79) (xMov (.int .i64 0) s.H) s <| .mk fun s =>
  @sLoop s ⟨fun L0 s => W51_l11 P Φ L0 s⟩
def W51_k13 (P : Program) (Φ : EP) (s : St) : Prop :=
  @sLd 73 5 8 true s <| .mk fun s =>
  @sOp (some 74) (xBuild [.bool false, .bool false, .bool false, .bool false, .bool false] [(0, 1, (.bool true)), (1, 1, (.bool true)), (2, 1, (.bool true)), (3, 1, (.bool true)), (4, 1, (.bool true))] s.H) s <| .mk fun s =>
  @sOp (some 75) (xEq true [(0, .bool), (1, .bool), (2, .bool), (3, .bool), (4, .bool)] (s.τ 73) (s.τ 74) s.H) s <| .mk fun s =>
  @sIf (s.τ 75) ⟨W51_b2 P Φ s⟩ ⟨W51_b12 P Φ s⟩
def W51_c14 (P : Program) (Φ : EP) (s : St) : Prop :=
  @sOp (some 72) (xIxA 5 1 (s.τ 8) (.int .i64 4) s.H) s <| .mk fun s =>
  @sOp none (xStore 1 (s.τ 72) (s.τ 71) s.H) s <| .mk fun s =>
  W51_k13 P Φ s
def W51_b15 (P : Program) (Φ : EP) (s : St) : Prop :=
  @sFl 67 4 4 s <| .mk fun s =>
  @sLd 68 4 67 true s <| .mk fun s =>
  @sFl 69 0 3 s <| .mk fun s =>
  @sLd 70 1 69 false s <| .mk fun s =>
  @sCall P (.func 77 []) [(s.τ 68), (s.τ 70)] (some 71) s ⟨W51_c14 P Φ⟩
def W51_k16 (P : Program) (Φ : EP) (s : St) : Prop :=
  @sFl 65 3 7 s <| .mk fun s =>
  @sLd 66 1 65 false s <| .mk fun s =>
  @sIf (s.τ 66) ⟨W51_b15 P Φ s⟩ ⟨W51_k13 P Φ s⟩
def W51_c17 (P : Program) (Φ : EP) (s : St) : Prop :=
  @sOp (some 64) (xIxA 5 1 (s.τ 8) (.int .i64 3) s.H) s <| .mk fun s =>
  @sOp none (xStore 1 (s.τ 64) (s.τ 63) s.H) s <| .mk fun s =>
  W51_k16 P Φ s
def W51_b18 (P : Program) (Φ : EP) (s : St) : Prop :=
  @sFl 61 3 4 s <| .mk fun s =>
  @sLd 62 1 61 false s <| .mk fun s =>
  @sCall P (.func 76 []) [(s.τ 62)] (some 63) s ⟨W51_c17 P Φ⟩
def W51_c19 (P : Program) (Φ : EP) (u0 : St) (u1 : St) (u2 : St) (u3 : St) (u4 : St) (u5 : St) (u6 : St) (u7 : St) (u8 : St) (u9 : St) (u10 : St) (u11 : St) (u12 : St) (u13 : St) (u14 : St) (u15 : St) (u16 : St) (u18 : St) (u19 : St) (u21 : St) (u22 : St) (u23 : St) (s : St) : Prop :=
  @sOp (some 58) (xBuild [.bool false, .bool false, .bool false, .bool false, .bool false] [(0, 1, (s.τ 39)), (1, 1, (s.τ 45)), (2, 1, (s.τ 51)), (3, 1, (s.τ 54)), (4, 1, (s.τ 57))] s.H) s <| .mk fun u25 =>
  @sChk (compat (occ (u0.τ 3), []) ([8], [8])) <| .mk <|
  @sChk (compat (occ (u1.τ 7), []) ([8], [8])) <| .mk <|
  @sChk (compat (occ (u2.τ 35), []) ([8], [8])) <| .mk <|
  @sChk (compat (occ (u3.τ 4), []) ([8], [8])) <| .mk <|
  @sChk (compat (occ (u4.τ 37), []) ([8], [8])) <| .mk <|
  @sChk (compat (cfp 39 74 [(u5.τ 34), (u5.τ 36), (u5.τ 38)]) ([8], [8])) <| .mk <|
  @sChk (compat (occ (u6.τ 3), []) ([8], [8])) <| .mk <|
  @sChk (compat (occ (u7.τ 7), []) ([8], [8])) <| .mk <|
  @sChk (compat (occ (u8.τ 41), []) ([8], [8])) <| .mk <|
  @sChk (compat (occ (u9.τ 4), []) ([8], [8])) <| .mk <|
  @sChk (compat (occ (u10.τ 43), []) ([8], [8])) <| .mk <|
  @sChk (compat (cfp 45 74 [(u11.τ 40), (u11.τ 42), (u11.τ 44)]) ([8], [8])) <| .mk <|
  @sChk (compat (occ (u12.τ 4), []) ([8], [8])) <| .mk <|
  @sChk (compat (occ (u13.τ 46), []) ([8], [8])) <| .mk <|
  @sChk (compat (occ (u14.τ 47), []) ([8], [8])) <| .mk <|
  @sChk (compat (occ (u15.τ 7), []) ([8], [8])) <| .mk <|
  @sChk (compat (occ (u16.τ 49), []) ([8], [8])) <| .mk <|
  @sChk (compat (occ (u18.τ 4), []) ([8], [8])) <| .mk <|
  @sChk (compat (occ (u19.τ 52), []) ([8], [8])) <| .mk <|
  @sChk (compat (occ (u21.τ 4), []) ([8], [8])) <| .mk <|
  @sChk (compat (occ (u22.τ 55), []) ([8], [8])) <| .mk <|
  @sChk (compat (cfp 57 75 [(u23.τ 56)]) ([8], [8])) <| .mk <|
  @sOp (some 8) (xAlloc 8 118 [.bool false, .bool false, .bool false, .bool false, .bool false] u25.H) u25 <| .mk fun u26 =>
  @sOp none (xStore 5 (u26.τ 8) (u26.τ 58) u26.H) u26 <| .mk fun s =>
  @sFl 59 2 7 s <| .mk fun s =>
  @sLd 60 1 59 false s <| .mk fun s =>
  @sIf (s.τ 60) ⟨W51_b18 P Φ s⟩ ⟨W51_k16 P Φ s⟩
def W51_c20 (P : Program) (Φ : EP) (u0 : St) (u1 : St) (u2 : St) (u3 : St) (u4 : St) (u5 : St) (u6 : St) (u7 : St) (u8 : St) (u9 : St) (u10 : St) (u11 : St) (s : St) : Prop :=
  @sChk (compat (cfp 39 74 [(u5.τ 34), (u5.τ 36), (u5.τ 38)]) (occ (s.τ 4), [])) <| .mk <|
  @sChk (compat (cfp 45 74 [(u11.τ 40), (u11.τ 42), (u11.τ 44)]) (occ (s.τ 4), [])) <| .mk <|
  @sFl 46 8 4 s <| .mk fun u13 =>
  @sChk (compat (cfp 39 74 [(u5.τ 34), (u5.τ 36), (u5.τ 38)]) (occ (u13.τ 46), [])) <| .mk <|
  @sChk (compat (cfp 45 74 [(u11.τ 40), (u11.τ 42), (u11.τ 44)]) (occ (u13.τ 46), [])) <| .mk <|
  @sLd 47 1 46 false u13 <| .mk fun u14 =>
  @sChk (compat (cfp 39 74 [(u5.τ 34), (u5.τ 36), (u5.τ 38)]) (occ (u14.τ 47), [])) <| .mk <|
  @sChk (compat (cfp 45 74 [(u11.τ 40), (u11.τ 42), (u11.τ 44)]) (occ (u14.τ 47), [])) <| .mk <|
  @sOp (some 48) (xLen (u14.τ 47) u14.H) u14 <| .mk fun u15 =>
  @sChk (compat (cfp 39 74 [(u5.τ 34), (u5.τ 36), (u5.τ 38)]) (occ (u15.τ 7), [])) <| .mk <|
  @sChk (compat (cfp 45 74 [(u11.τ 40), (u11.τ 42), (u11.τ 44)]) (occ (u15.τ 7), [])) <| .mk <|
  @sFl 49 4 7 u15 <| .mk fun u16 =>
  @sChk (compat (cfp 39 74 [(u5.τ 34), (u5.τ 36), (u5.τ 38)]) (occ (u16.τ 49), [])) <| .mk <|
  @sChk (compat (cfp 45 74 [(u11.τ 40), (u11.τ 42), (u11.τ 44)]) (occ (u16.τ 49), [])) <| .mk <|
  @sLd 50 1 49 false u16 <| .mk fun u17 =>
  @sOp (some 51) (xBin .eql false (u17.τ 48) (u17.τ 50) u17.H) u17 <| .mk fun u18 =>
  @sChk (compat (cfp 39 74 [(u5.τ 34), (u5.τ 36), (u5.τ 38)]) (occ (u18.τ 4), [])) <| .mk <|
  @sChk (compat (cfp 45 74 [(u11.τ 40), (u11.τ 42), (u11.τ 44)]) (occ (u18.τ 4), [])) <| .mk <|
  @sFl 52 3 4 u18 <| .mk fun u19 =>
  @sChk (compat (cfp 39 74 [(u5.τ 34), (u5.τ 36), (u5.τ 38)]) (occ (u19.τ 52), [])) <| .mk <|
  @sChk (compat (cfp 45 74 [(u11.τ 40), (u11.τ 42), (u11.τ 44)]) (occ (u19.τ 52), [])) <| .mk <|
  @sLd 53 1 52 false u19 <| .mk fun u20 =>
  @sOp (some 54) (xBin .eql false (u20.τ 53) (.str ⟨#[]⟩) u20.H) u20 <| .mk fun u21 =>
  @sChk (compat (cfp 39 74 [(u5.τ 34), (u5.τ 36), (u5.τ 38)]) (occ (u21.τ 4), [])) <| .mk <|
  @sChk (compat (cfp 45 74 [(u11.τ 40), (u11.τ 42), (u11.τ 44)]) (occ (u21.τ 4), [])) <| .mk <|
  @sFl 55 4 4 u21 <| .mk fun u22 =>
  @sChk (compat (cfp 39 74 [(u5.τ 34), (u5.τ 36), (u5.τ 38)]) (occ (u22.τ 55), [])) <| .mk <|
  @sChk (compat (cfp 45 74 [(u11.τ 40), (u11.τ 42), (u11.τ 44)]) (occ (u22.τ 55), [])) <| .mk <|
  @sLd 56 4 55 true u22 <| .mk fun u23 =>
  @sChk (compat (occ (s.τ 4), []) (cfp 57 75 [(u23.τ 56)])) <| .mk <|
  @sChk (compat (occ (u13.τ 46), []) (cfp 57 75 [(u23.τ 56)])) <| .mk <|
  @sChk (compat (occ (u14.τ 47), []) (cfp 57 75 [(u23.τ 56)])) <| .mk <|
  @sChk (compat (occ (u15.τ 7), []) (cfp 57 75 [(u23.τ 56)])) <| .mk <|
  @sChk (compat (occ (u16.τ 49), []) (cfp 57 75 [(u23.τ 56)])) <| .mk <|
  @sChk (compat (occ (u18.τ 4), []) (cfp 57 75 [(u23.τ 56)])) <| .mk <|
  @sChk (compat (occ (u19.τ 52), []) (cfp 57 75 [(u23.τ 56)])) <| .mk <|
  @sCall0 P (.func 75 []) [(u23.τ 56)] (some 57) u23 ⟨W51_c19 P Φ u0 u1 u2 u3 u4 u5 u6 u7 u8 u9 u10 u11 s u13 u14 u15 u16 u18 u19 u21 u22 u23⟩
def W51_c21 (P : Program) (Φ : EP) (u0 : St) (u1 : St) (u2 : St) (u3 : St) (u4 : St) (u5 : St) (s : St) : Prop :=
  @sChk (compat (cfp 39 74 [(u5.τ 34), (u5.τ 36), (u5.τ 38)]) (occ (s.τ 3), [])) <| .mk <|
  @sLd 40 3 3 true s <| .mk fun u7 =>
  @sChk (compat (cfp 39 74 [(u5.τ 34), (u5.τ 36), (u5.τ 38)]) (occ (u7.τ 7), [])) <| .mk <|
  @sFl 41 1 7 u7 <| .mk fun u8 =>
  @sChk (compat (cfp 39 74 [(u5.τ 34), (u5.τ 36), (u5.τ 38)]) (occ (u8.τ 41), [])) <| .mk <|
  @sLd 42 1 41 false u8 <| .mk fun u9 =>
  @sChk (compat (cfp 39 74 [(u5.τ 34), (u5.τ 36), (u5.τ 38)]) (occ (u9.τ 4), [])) <| .mk <|
  @sFl 43 2 4 u9 <| .mk fun u10 =>
  @sChk (compat (cfp 39 74 [(u5.τ 34), (u5.τ 36), (u5.τ 38)]) (occ (u10.τ 43), [])) <| .mk <|
  @sLd 44 1 43 false u10 <| .mk fun u11 =>
  @sCall0 P (.func 74 []) [(u11.τ 40), (u11.τ 42), (u11.τ 44)] (some 45) u11 ⟨W51_c20 P Φ u0 u1 u2 u3 u4 u5 s u7 u8 u9 u10 u11⟩
def W51_c22 (P : Program) (Φ : EP) (u0 : St) (s : St) : Prop :=
  @sChk (compat (cfp 29 73 []) (occ (s.τ 4), [])) <| .mk <|
  @sFl 30 0 4 s <| .mk fun u2 =>
  @sChk (compat (cfp 29 73 []) (occ (u2.τ 30), [])) <| .mk <|
  @sLd 31 1 30 false u2 <| .mk fun u3 =>
  @sOp (some 32) (xIx 5 (u3.τ 29) (u3.τ 31) u3.H) u3 <| .mk fun u4 =>
  @sLd 33 5 32 true u4 <| .mk fun u5 =>
  @sChk (compat (cfp 29 73 []) ([7], [7])) <| .mk <|
  @sChk (compat (occ (s.τ 4), []) ([7], [7])) <| .mk <|
  @sChk (compat (occ (u2.τ 30), []) ([7], [7])) <| .mk <|
  @sChk (compat (occ (u3.τ 29), []) ([7], [7])) <| .mk <|
  @sChk (compat (occ (u4.τ 32), []) ([7], [7])) <| .mk <|
  @sOp (some 7) (xAlloc 7 115 [.int .i64 0, .int .i64 0, .bool false, .bool false, .int .i64 0] u5.H) u5 <| .mk fun u6 =>
  @sOp none (xStore 5 (u6.τ 7) (u6.τ 33) u6.H) u6 <| .mk fun s =>
  @sLd 34 3 3 true s <| .mk fun u1 =>
  @sFl 35 0 7 u1 <| .mk fun u2 =>
  @sLd 36 1 35 false u2 <| .mk fun u3 =>
  @sFl 37 1 4 u3 <| .mk fun u4 =>
  @sLd 38 1 37 false u4 <| .mk fun u5 =>
  @sCall0 P (.func 74 []) [(u5.τ 34), (u5.τ 36), (u5.τ 38)] (some 39) u5 ⟨W51_c21 P Φ s u1 u2 u3 u4 u5⟩
def W51_c23 (P : Program) (Φ : EP) (s : St) : Prop :=
  @sOp (some 28) (xPick (s.τ 21) (.bool true) (s.τ 27) s.H) s <| .mk fun s =>
  @sIf (s.τ 28) ⟨W51_b1 P Φ s⟩ ⟨@sCall0 P (.func 73 []) [] (some 29) s ⟨W51_c22 P Φ s⟩⟩
def W51_c24 (P : Program) (Φ : EP) (s : St) : Prop :=
  @sGrd (guardOf (s.τ 21) false) (some 27) s ⟨fun s K => @sOp (some 27) (xPick (s.τ 23) (s.τ 26) (.bool false) s.H) s ⟨K⟩⟩ ⟨W51_c23 P Φ⟩
def W51_c25 (P : Program) (Φ : EP) (s : St) : Prop :=
  @sGrd (guardOf (s.τ 23) true) (some 26) s ⟨fun s K => @sOp (some 26) (xBin .eql false (s.τ 25) (.int .i64 14) s.H) s ⟨K⟩⟩ ⟨W51_c24 P Φ⟩
def W51_c26 (P : Program) (Φ : EP) (s : St) : Prop :=
  @sGl 25 1 24 23 false true s ⟨W51_c25 P Φ⟩
def W51_c27 (P : Program) (Φ : EP) (s : St) : Prop :=
  @sGf 24 0 4 23 true s ⟨W51_c26 P Φ⟩
def W51_c28 (P : Program) (Φ : EP) (s : St) : Prop :=
  @sGm 23 22 21 false s ⟨W51_c27 P Φ⟩
def W51_c29 (P : Program) (Φ : EP) (s : St) : Prop :=
  @sOp (some 20) (xPick (s.τ 14) (.bool true) (s.τ 19) s.H) s <| .mk fun u10 =>
  @sMv 21 20 u10 <| .mk fun u11 =>
  @sGm 22 2 21 false u11 ⟨W51_c28 P Φ⟩
def W51_c30 (P : Program) (Φ : EP) (s : St) : Prop :=
  @sGrd (guardOf (s.τ 14) false) (some 19) s ⟨fun s K => @sOp (some 19) (xBin .geq false (s.τ 16) (s.τ 18) s.H) s ⟨K⟩⟩ ⟨W51_c29 P Φ⟩
def W51_c31 (P : Program) (Φ : EP) (s : St) : Prop :=
  @sGrd (guardOf (s.τ 14) false) (some 18) s ⟨fun s K => @sOp (some 18) (xLen (s.τ 17) s.H) s ⟨K⟩⟩ ⟨W51_c30 P Φ⟩
def W51_c32 (P : Program) (Φ : EP) (u4 : St) (u5 : St) (s : St) : Prop :=
  @sChk (compat (occ (u4.τ 4), []) (cfp 17 73 [])) <| .mk <|
  @sChk (compat (occ (u5.τ 15), []) (cfp 17 73 [])) <| .mk <|
  @sGrd (guardOf (s.τ 14) false) (some 17) s ⟨fun s K => @sCall0 P (.func 73 []) [] (some 17) s ⟨K⟩⟩ ⟨W51_c31 P Φ⟩
def W51_c33 (P : Program) (Φ : EP) (u4 : St) (s : St) : Prop :=
  @sGl 16 1 15 14 false false s ⟨W51_c32 P Φ u4 s⟩
def W51 (P : Program) (Φ : EP) (s : St) : Prop :=
  @sOp (some 3) (xBox 3 87 (s.τ 0) s.H) s <| .mk fun s =>
  @sOp (some 4) (xBox 4 34 (s.τ 1) s.H) s <| .mk fun s =>
  @sOp (some 6) (xMov (.bool false) s.H) s <| .mk fun s =>
  @sFl 11 0 4 s <| .mk fun u1 =>
  @sLd 12 1 11 false u1 <| .mk fun u2 =>
  @sOp (some 13) (xBin .lss false (u2.τ 12) (.int .i64 0) u2.H) u2 <| .mk fun u3 =>
  @sMv 14 13 u3 <| .mk fun u4 =>
  @sGf 15 0 4 14 false u4 ⟨W51_c33 P Φ u4⟩
theorem W51_rs (τ : Nat → AV) (H : Heap) : resV Try.prog τ H [.tmp 6] = some (τ 6) := by kernel_rfl
theorem W51_eq (Φ : EP) (s : St) : awp Try.prog (Try.f51.body.getD .skip) Φ s = W51 Try.prog Φ s := by kernel_rfl

-- 52 "penance/penanceref5.of"
def W52_b1 (P : Program) (Φ : EP) (s : St) : Prop :=
  @sOp (some 6) (xBuild [.bool false, .bool false, .bool false, .bool false, .int .i64 0] [(0, 1, (.bool true)), (2, 1, (.bool true))] s.H) s <| .mk fun s =>
  @sOp none (xStore 5 (s.τ 2) (s.τ 6) s.H) s <| .mk fun s =>
  Φ .ret s
def W52_b2 (P : Program) (Φ : EP) (s : St) : Prop :=
  @sOp (some 9) (xBuild [.bool false, .bool false, .bool false, .bool false, .int .i64 0] [(0, 1, (.bool true)), (3, 1, (.bool true))] s.H) s <| .mk fun s =>
  @sOp none (xStore 5 (s.τ 2) (s.τ 9) s.H) s <| .mk fun s =>
  Φ .ret s
def W52_b3 (P : Program) (Φ : EP) (s : St) : Prop :=
  @sOp (some 12) (xBuild [.bool false, .bool false, .bool false, .bool false, .int .i64 0] [(0, 1, (.bool true)), (4, 1, (.int .i64 1))] s.H) s <| .mk fun s =>
  @sOp none (xStore 5 (s.τ 2) (s.τ 12) s.H) s <| .mk fun s =>
  Φ .ret s
def W52_b4 (P : Program) (Φ : EP) (s : St) : Prop :=
  @sOp (some 17) (xBuild [.bool false, .bool false, .bool false, .bool false, .int .i64 0] [(0, 1, (.bool true))] s.H) s <| .mk fun s =>
  @sOp none (xStore 5 (s.τ 2) (s.τ 17) s.H) s <| .mk fun s =>
  Φ .ret s
def W52_b5 (P : Program) (Φ : EP) (s : St) : Prop :=
  @sOp (some 20) (xBuild [.bool false, .bool false, .bool false, .bool false, .int .i64 0] [(0, 1, (.bool true)), (1, 1, (.bool true))] s.H) s <| .mk fun s =>
  @sOp none (xStore 5 (s.τ 2) (s.τ 20) s.H) s <| .mk fun s =>
  Φ .ret s
def W52_b6 (P : Program) (Φ : EP) (s : St) : Prop :=
  @sOp (some 23) (xBuild [.bool false, .bool false, .bool false, .bool false, .int .i64 0] [(4, 1, (.int .i64 1))] s.H) s <| .mk fun s =>
  @sOp none (xStore 5 (s.τ 2) (s.τ 23) s.H) s <| .mk fun s =>
  Φ .ret s
def W52_b7 (P : Program) (Φ : EP) (s : St) : Prop :=
  @sOp (some 26) (xBuild [.bool false, .bool false, .bool false, .bool false, .int .i64 0] [(3, 1, (.bool true)), (4, 1, (.int .i64 2))] s.H) s <| .mk fun s =>
  @sOp none (xStore 5 (s.τ 2) (s.τ 26) s.H) s <| .mk fun s =>
  Φ .ret s
def W52_b8 (P : Program) (Φ : EP) (s : St) : Prop :=
  @sOp (some 31) (xBuild [.bool false, .bool false, .bool false, .bool false, .int .i64 0] [(4, 1, (.int .i64 2))] s.H) s <| .mk fun s =>
  @sOp none (xStore 5 (s.τ 2) (s.τ 31) s.H) s <| .mk fun s =>
  Φ .ret s
def W52_b9 (P : Program) (Φ : EP) (s : St) : Prop :=
  @sOp (some 34) (xBuild [.bool false, .bool false, .bool false, .bool false, .int .i64 0] [(0, 1, (.bool true)), (1, 1, (.bool true)), (2, 1, (.bool true))] s.H) s <| .mk fun s =>
  @sOp none (xStore 5 (s.τ 2) (s.τ 34) s.H) s <| .mk fun s =>
  Φ .ret s
def W52_b10 (P : Program) (Φ : EP) (s : St) : Prop :=
  @sOp (some 35) (xBuild [.bool false, .bool false, .bool false, .bool false, .int .i64 0] [] s.H) s <| .mk fun s =>
  @sOp none (xStore 5 (s.τ 2) (s.τ 35) s.H) s <| .mk fun s =>
  Φ .ret s
def W52_b11 (P : Program) (Φ : EP) (s : St) : Prop :=
  @sOp (some 33) (xBin .eql false (s.τ 3) (.int .i64 14) s.H) s <| .mk fun s =>
  @sMv 32 33 s <| .mk fun s =>
  @sIf (s.τ 32) ⟨W52_b9 P Φ s⟩ ⟨W52_b10 P Φ s⟩
def W52_k12 (P : Program) (Φ : EP) (s : St) : Prop :=
  @sIf (s.τ 27) ⟨W52_b8 P Φ s⟩ ⟨W52_b11 P Φ s⟩
def W52_b13 (P : Program) (Φ : EP) (s : St) : Prop :=
  @sOp (some 30) (xBin .eql false (s.τ 3) (.int .i64 12) s.H) s <| .mk fun s =>
  @sMv 27 30 s <| .mk fun s =>
  W52_k12 P Φ s
def W52_b14 (P : Program) (Φ : EP) (s : St) : Prop :=
  @sOp (some 29) (xBin .eql false (s.τ 3) (.int .i64 11) s.H) s <| .mk fun s =>
  @sMv 27 29 s <| .mk fun s =>
  @sIf (s.τ 27) ⟨W52_k12 P Φ s⟩ ⟨W52_b13 P Φ s⟩
def W52_b15 (P : Program) (Φ : EP) (s : St) : Prop :=
  @sOp (some 28) (xBin .eql false (s.τ 3) (.int .i64 10) s.H) s <| .mk fun s =>
  @sMv 27 28 s <| .mk fun s =>
  @sIf (s.τ 27) ⟨W52_k12 P Φ s⟩ ⟨W52_b14 P Φ s⟩
def W52_b16 (P : Program) (Φ : EP) (s : St) : Prop :=
  @sOp (some 25) (xBin .eql false (s.τ 3) (.int .i64 9) s.H) s <| .mk fun s =>
  @sMv 24 25 s <| .mk fun s =>
  @sIf (s.τ 24) ⟨W52_b7 P Φ s⟩ ⟨W52_b15 P Φ s⟩
def W52_b17 (P : Program) (Φ : EP) (s : St) : Prop :=
  @sOp (some 22) (xBin .eql false (s.τ 3) (.int .i64 7) s.H) s <| .mk fun s =>
  @sMv 21 22 s <| .mk fun s =>
  @sIf (s.τ 21) ⟨W52_b6 P Φ s⟩ ⟨W52_b16 P Φ s⟩
def W52_b18 (P : Program) (Φ : EP) (s : St) : Prop :=
  @sOp (some 19) (xBin .eql false (s.τ 3) (.int .i64 6) s.H) s <| .mk fun s =>
  @sMv 18 19 s <| .mk fun s =>
  @sIf (s.τ 18) ⟨W52_b5 P Φ s⟩ ⟨W52_b17 P Φ s⟩
def W52_k19 (P : Program) (Φ : EP) (s : St) : Prop :=
  @sIf (s.τ 13) ⟨W52_b4 P Φ s⟩ ⟨W52_b18 P Φ s⟩
def W52_b20 (P : Program) (Φ : EP) (s : St) : Prop :=
  @sOp (some 16) (xBin .eql false (s.τ 3) (.int .i64 13) s.H) s <| .mk fun s =>
  @sMv 13 16 s <| .mk fun s =>
  W52_k19 P Φ s
def W52_b21 (P : Program) (Φ : EP) (s : St) : Prop :=
  @sOp (some 15) (xBin .eql false (s.τ 3) (.int .i64 5) s.H) s <| .mk fun s =>
  @sMv 13 15 s <| .mk fun s =>
  @sIf (s.τ 13) ⟨W52_k19 P Φ s⟩ ⟨W52_b20 P Φ s⟩
def W52_b22 (P : Program) (Φ : EP) (s : St) : Prop :=
  @sOp (some 14) (xBin .eql false (s.τ 3) (.int .i64 4) s.H) s <| .mk fun s =>
  @sMv 13 14 s <| .mk fun s =>
  @sIf (s.τ 13) ⟨W52_k19 P Φ s⟩ ⟨W52_b21 P Φ s⟩
def W52_b23 (P : Program) (Φ : EP) (s : St) : Prop :=
  @sOp (some 11) (xBin .eql false (s.τ 3) (.int .i64 3) s.H) s <| .mk fun s =>
  @sMv 10 11 s <| .mk fun s =>
  @sIf (s.τ 10) ⟨W52_b3 P Φ s⟩ ⟨W52_b22 P Φ s⟩
def W52_b24 (P : Program) (Φ : EP) (s : St) : Prop :=
  @sOp (some 8) (xBin .eql false (s.τ 3) (.int .i64 2) s.H) s <| .mk fun s =>
  @sMv 7 8 s <| .mk fun s =>
  @sIf (s.τ 7) ⟨W52_b2 P Φ s⟩ ⟨W52_b23 P Φ s⟩
def W52 (P : Program) (Φ : EP) (s : St) : Prop :=
  @sOp (some 2) (xAlloc 2 90 [.bool false, .bool false, .bool false, .bool false, .int .i64 0] s.H) s <| .mk fun s =>
  @sMv 3 0 s <| .mk fun s =>
  @sOp (some 5) (xBin .eql false (s.τ 3) (.int .i64 1) s.H) s <| .mk fun s =>
  @sMv 4 5 s <| .mk fun s =>
  @sIf (s.τ 4) ⟨W52_b1 P Φ s⟩ ⟨W52_b24 P Φ s⟩
theorem W52_rs (τ : Nat → AV) (H : Heap) : resV Try.prog τ H [.cell 2 90] = rdV H 5 true (τ 2) := by kernel_rfl
theorem W52_eq (Φ : EP) (s : St) : awp Try.prog (Try.f52.body.getD .skip) Φ s = W52 Try.prog Φ s := by kernel_rfl

end Go.Proofs.Ytkagfenchknjjaa
set_option linter.unusedVariables false
namespace Go.Proofs.Ytkagfenchknjjaa
open Go Go.Am
-- 53 "penance/penanceref5.numbers"
def W53_c1 (P : Program) (Φ : EP) (s : St) : Prop :=
  @sMv 8 16 s <| .mk fun s =>
  Φ .ret s
def W53_b2 (P : Program) (Φ : EP) (s : St) : Prop :=
  @sFl 13 1 4 s <| .mk fun s =>
  @sLd 14 1 13 false s <| .mk fun s =>
  @sMv 15 1 s <| .mk fun s =>
  @sCall P (.func 78 []) [(s.τ 14), (.int .i64 (-1)), (s.τ 15)] (some 16) s ⟨W53_c1 P Φ⟩
def W53_c3 (P : Program) (Φ : EP) (s : St) : Prop :=
  @sMv 8 22 s <| .mk fun s =>
  Φ .ret s
def W53_b4 (P : Program) (Φ : EP) (s : St) : Prop :=
  @sFl 19 1 4 s <| .mk fun s =>
  @sLd 20 1 19 false s <| .mk fun s =>
  @sMv 21 1 s <| .mk fun s =>
  @sCall P (.func 78 []) [(s.τ 20), (.int .i64 0), (s.τ 21)] (some 22) s ⟨W53_c3 P Φ⟩
def W53_c5 (P : Program) (Φ : EP) (s : St) : Prop :=
  @sMv 8 30 s <| .mk fun s =>
  Φ .ret s
def W53_b6 (P : Program) (Φ : EP) (s : St) : Prop :=
  @sFl 27 1 4 s <| .mk fun s =>
  @sLd 28 1 27 false s <| .mk fun s =>
  @sMv 29 2 s <| .mk fun s =>
  @sCall P (.func 78 []) [(s.τ 28), (.int .i64 0), (s.τ 29)] (some 30) s ⟨W53_c5 P Φ⟩
def W53_c7 (P : Program) (Φ : EP) (s : St) : Prop :=
  @sOp (some 42) (xPick (s.τ 37) (s.τ 41) (.bool false) s.H) s <| .mk fun s =>
  @sMv 8 42 s <| .mk fun s =>
  Φ .ret s
def W53_c8 (P : Program) (Φ : EP) (s : St) : Prop :=
  @sGrd (guardOf (s.τ 37) true) (some 41) s ⟨fun s K => @sCall P (.func 78 []) [(s.τ 39), (.int .i64 0), (s.τ 40)] (some 41) s ⟨K⟩⟩ ⟨W53_c7 P Φ⟩
def W53_c9 (P : Program) (Φ : EP) (s : St) : Prop :=
  @sGm 40 2 37 true s ⟨W53_c8 P Φ⟩
def W53_c10 (P : Program) (Φ : EP) (s : St) : Prop :=
  @sGl 39 1 38 37 false true s ⟨W53_c9 P Φ⟩
def W53_c11 (P : Program) (Φ : EP) (s : St) : Prop :=
  @sMv 37 36 s <| .mk fun s =>
  @sGf 38 2 4 37 true s ⟨W53_c10 P Φ⟩
def W53_b12 (P : Program) (Φ : EP) (s : St) : Prop :=
  @sFl 33 1 4 s <| .mk fun s =>
  @sLd 34 1 33 false s <| .mk fun s =>
  @sMv 35 2 s <| .mk fun s =>
  @sCall P (.func 78 []) [(s.τ 34), (.int .i64 0), (s.τ 35)] (some 36) s ⟨W53_c11 P Φ⟩
def W53_c13 (P : Program) (Φ : EP) (s : St) : Prop :=
  @sMv 8 48 s <| .mk fun s =>
  Φ .ret s
def W53_b14 (P : Program) (Φ : EP) (s : St) : Prop :=
  @sFl 45 1 4 s <| .mk fun s =>
  @sLd 46 1 45 false s <| .mk fun s =>
  @sMv 47 3 s <| .mk fun s =>
  @sCall P (.func 78 []) [(s.τ 46), (.int .i64 0), (s.τ 47)] (some 48) s ⟨W53_c13 P Φ⟩
def W53_c15 (P : Program) (Φ : EP) (s : St) : Prop :=
  @sOp (some 59) (xPick (s.τ 54) (s.τ 58) (.bool false) s.H) s <| .mk fun s =>
  @sMv 8 59 s <| .mk fun s =>
  Φ .ret s
def W53_c16 (P : Program) (Φ : EP) (s : St) : Prop :=
  @sGrd (guardOf (s.τ 54) true) (some 58) s ⟨fun s K => @sCall P (.func 78 []) [(s.τ 56), (.int .i64 (-1)), (s.τ 57)] (some 58) s ⟨K⟩⟩ ⟨W53_c15 P Φ⟩
def W53_c17 (P : Program) (Φ : EP) (s : St) : Prop :=
  @sGm 57 1 54 true s ⟨W53_c16 P Φ⟩
def W53_c18 (P : Program) (Φ : EP) (s : St) : Prop :=
  @sGl 56 1 55 54 false true s ⟨W53_c17 P Φ⟩
def W53_b19 (P : Program) (Φ : EP) (s : St) : Prop :=
  @sFl 51 1 4 s <| .mk fun s =>
  @sLd 52 1 51 false s <| .mk fun s =>
  @sOp (some 53) (xBin .geq false (s.τ 52) (.int .i64 0) s.H) s <| .mk fun s =>
  @sMv 54 53 s <| .mk fun s =>
  @sGf 55 2 4 54 true s ⟨W53_c18 P Φ⟩
def W53_b20 (P : Program) (Φ : EP) (s : St) : Prop :=
  @sOp (some 8) (xMov (.bool true) s.H) s <| .mk fun s =>
  Φ .ret s
def W53_b21 (P : Program) (Φ : EP) (s : St) : Prop :=
  @sOp (some 50) (xBin .eql false (s.τ 10) (.int .i64 14) s.H) s <| .mk fun s =>
  @sMv 49 50 s <| .mk fun s =>
  @sIf (s.τ 49) ⟨W53_b19 P Φ s⟩ ⟨W53_b20 P Φ s⟩
def W53_b22 (P : Program) (Φ : EP) (s : St) : Prop :=
  @sOp (some 44) (xBin .eql false (s.τ 10) (.int .i64 13) s.H) s <| .mk fun s =>
  @sMv 43 44 s <| .mk fun s =>
  @sIf (s.τ 43) ⟨W53_b14 P Φ s⟩ ⟨W53_b21 P Φ s⟩
def W53_b23 (P : Program) (Φ : EP) (s : St) : Prop :=
  @sOp (some 32) (xBin .eql false (s.τ 10) (.int .i64 6) s.H) s <| .mk fun s =>
  @sMv 31 32 s <| .mk fun s =>
  @sIf (s.τ 31) ⟨W53_b12 P Φ s⟩ ⟨W53_b22 P Φ s⟩
def W53_k24 (P : Program) (Φ : EP) (s : St) : Prop :=
  @sIf (s.τ 23) ⟨W53_b6 P Φ s⟩ ⟨W53_b23 P Φ s⟩
def W53_b25 (P : Program) (Φ : EP) (s : St) : Prop :=
  @sOp (some 26) (xBin .eql false (s.τ 10) (.int .i64 5) s.H) s <| .mk fun s =>
  @sMv 23 26 s <| .mk fun s =>
  W53_k24 P Φ s
def W53_b26 (P : Program) (Φ : EP) (s : St) : Prop :=
  @sOp (some 25) (xBin .eql false (s.τ 10) (.int .i64 4) s.H) s <| .mk fun s =>
  @sMv 23 25 s <| .mk fun s =>
  @sIf (s.τ 23) ⟨W53_k24 P Φ s⟩ ⟨W53_b25 P Φ s⟩
def W53_b27 (P : Program) (Φ : EP) (s : St) : Prop :=
  @sOp (some 24) (xBin .eql false (s.τ 10) (.int .i64 3) s.H) s <| .mk fun s =>
  @sMv 23 24 s <| .mk fun s =>
  @sIf (s.τ 23) ⟨W53_k24 P Φ s⟩ ⟨W53_b26 P Φ s⟩
def W53_b28 (P : Program) (Φ : EP) (s : St) : Prop :=
  @sOp (some 18) (xBin .eql false (s.τ 10) (.int .i64 2) s.H) s <| .mk fun s =>
  @sMv 17 18 s <| .mk fun s =>
  @sIf (s.τ 17) ⟨W53_b4 P Φ s⟩ ⟨W53_b27 P Φ s⟩
def W53 (P : Program) (Φ : EP) (s : St) : Prop :=
  @sOp (some 4) (xBox 4 34 (s.τ 0) s.H) s <| .mk fun s =>
  @sOp (some 8) (xMov (.bool false) s.H) s <| .mk fun s =>
  @sFl 9 0 4 s <| .mk fun s =>
  @sLd 10 1 9 false s <| .mk fun s =>
  @sOp (some 12) (xBin .eql false (s.τ 10) (.int .i64 1) s.H) s <| .mk fun s =>
  @sMv 11 12 s <| .mk fun s =>
  @sIf (s.τ 11) ⟨W53_b2 P Φ s⟩ ⟨W53_b28 P Φ s⟩
theorem W53_rs (τ : Nat → AV) (H : Heap) : resV Try.prog τ H [.tmp 8] = some (τ 8) := by kernel_rfl
theorem W53_eq (Φ : EP) (s : St) : awp Try.prog (Try.f53.body.getD .skip) Φ s = W53 Try.prog Φ s := by kernel_rfl

-- 54 "penance/penanceref1.Name"
def W54_b1 (P : Program) (Φ : EP) (s : St) : Prop :=
  @sOp (some 2) (xMov (.bool false) s.H) s <| .mk fun s =>
  Φ .ret s
def W54_k2 (P : Program) (Φ : EP) (s : St) : Prop :=
  @sOp (some 2) (xMov (.bool true) s.H) s <| .mk fun s =>
  Φ .ret s
def W54_b3 (P : Program) (Φ : EP) (L0 : SP) (s : St) : Prop :=
  @sOp (some 2) (xMov (.bool false) s.H) s <| .mk fun s =>
  Φ .ret s
def W54_b4 (P : Program) (Φ : EP) (L0 : SP) (s : St) : Prop :=
  @sMv 20 3 s <| .mk fun s =>
  @sOp (some 21) (xBin .add false (s.τ 20) (.int .i64 1) s.H) s <| .mk fun s =>
  @sMv 3 21 s <| .mk fun s =>
  L0 s
def W54_c5 (P : Program) (Φ : EP) (L0 : SP) (s : St) : Prop :=
  @sOp (some 28) (xNot (s.τ 27) s.H) s <| .mk fun s =>
  @sIf (s.τ 28) ⟨W54_b3 P Φ L0 s⟩ ⟨W54_b4 P Φ L0 s⟩
def W54_b6 (P : Program) (Φ : EP) (L0 : SP) (s : St) : Prop :=
  @sMv 22 0 s <| .mk fun s =>
  @sMv 23 3 s <| .mk fun s =>
  @sOp (some 24) (xSix (s.τ 22) (s.τ 23) s.H) s <| .mk fun s =>
  @sMv 25 3 s <| .mk fun s =>
  @sOp (some 26) (xBin .eql false (s.τ 25) (.int .i64 0) s.H) s <| .mk fun s =>
  @sCall P (.func 80 []) [(s.τ 24), (s.τ 26)] (some 27) s ⟨W54_c5 P Φ L0⟩
def W54_l7 (P : Program) (Φ : EP) (L0 : SP) (s : St) : Prop :=
  @sMv 16 3 s <| .mk fun s =>
  @sMv 17 0 s <| .mk fun s =>
  @sOp (some 18) (xSlen (s.τ 17) s.H) s <| .mk fun s =>
  @sOp (some 19) (xBin .lss false (s.τ 16) (s.τ 18) s.H) s <| .mk fun s =>
  @sIf (s.τ 19) ⟨W54_b6 P Φ L0 s⟩ ⟨W54_k2 P Φ s⟩
def W54_b8 (P : Program) (Φ : EP) (s : St) : Prop :=
  @sOp (some 3) (xMov (.int .i64 0) s.H) s <| .mk fun s =>
  @sLoop s ⟨fun L0 s => W54_l7 P Φ L0 s⟩
def W54_c9 (P : Program) (Φ : EP) (s : St) : Prop :=
  @sOp (some 15) (xPick (s.τ 12) (.bool true) (s.τ 14) s.H) s <| .mk fun s =>
  @sIf (s.τ 15) ⟨W54_b1 P Φ s⟩ ⟨W54_b8 P Φ s⟩
def W54_c10 (P : Program) (Φ : EP) (s : St) : Prop :=
  @sGrd (guardOf (s.τ 12) false) (some 14) s ⟨fun s K => @sCall P (.func 79 []) [(s.τ 13)] (some 14) s ⟨K⟩⟩ ⟨W54_c9 P Φ⟩
def W54_c11 (P : Program) (Φ : EP) (s : St) : Prop :=
  @sOp (some 11) (xPick (s.τ 7) (.bool true) (s.τ 10) s.H) s <| .mk fun s =>
  @sMv 12 11 s <| .mk fun s =>
  @sGm 13 0 12 false s ⟨W54_c10 P Φ⟩
def W54_c12 (P : Program) (Φ : EP) (s : St) : Prop :=
  @sGrd (guardOf (s.τ 7) false) (some 10) s ⟨fun s K => @sOp (some 10) (xBin .gtr false (s.τ 9) (.int .i64 20) s.H) s ⟨K⟩⟩ ⟨W54_c11 P Φ⟩
def W54_c13 (P : Program) (Φ : EP) (s : St) : Prop :=
  @sGrd (guardOf (s.τ 7) false) (some 9) s ⟨fun s K => @sOp (some 9) (xSlen (s.τ 8) s.H) s ⟨K⟩⟩ ⟨W54_c12 P Φ⟩
def W54 (P : Program) (Φ : EP) (s : St) : Prop :=
  @sOp (some 2) (xMov (.bool false) s.H) s <| .mk fun s =>
  @sMv 4 0 s <| .mk fun s =>
  @sOp (some 5) (xSlen (s.τ 4) s.H) s <| .mk fun s =>
  @sOp (some 6) (xBin .lss false (s.τ 5) (.int .i64 1) s.H) s <| .mk fun s =>
  @sMv 7 6 s <| .mk fun s =>
  @sGm 8 0 7 false s ⟨W54_c13 P Φ⟩
theorem W54_rs (τ : Nat → AV) (H : Heap) : resV Try.prog τ H [.tmp 2] = some (τ 2) := by kernel_rfl
theorem W54_eq (Φ : EP) (s : St) : awp Try.prog (Try.f54.body.getD .skip) Φ s = W54 Try.prog Φ s := by kernel_rfl

-- 55 "penance/penanceref2.Right"
def W55_b1 (P : Program) (Φ : EP) (s : St) : Prop :=
  @sOp (some 4) (xMov (.bool false) s.H) s <| .mk fun s =>
  Φ .ret s
def W55_k2 (P : Program) (Φ : EP) (s : St) : Prop :=
  @sOp (some 4) (xMov (.bool true) s.H) s <| .mk fun s =>
  Φ .ret s
def W55_b3 (P : Program) (Φ : EP) (L0 : SP) (s : St) : Prop :=
  @sOp (some 4) (xMov (.bool false) s.H) s <| .mk fun s =>
  Φ .ret s
def W55_b4 (P : Program) (Φ : EP) (L0 : SP) (s : St) : Prop :=
  @sMv 74 6 s <| .mk fun s =>
  @sOp (some 75) (xBin .add false (s.τ 74) (.int .i64 1) s.H) s <| .mk fun s =>
  @sMv 6 75 s <| .mk fun s =>
  L0 s
def W55_c5 (P : Program) (Φ : EP) (L0 : SP) (s : St) : Prop :=
  @sOp (some 83) (xNot (s.τ 82) s.H) s <| .mk fun s =>
  @sIf (s.τ 83) ⟨W55_b3 P Φ L0 s⟩ ⟨W55_b4 P Φ L0 s⟩
def W55_b6 (P : Program) (Φ : EP) (L0 : SP) (s : St) : Prop :=
  @sFl 76 3 2 s <| .mk fun s =>
  @sLd 77 1 76 false s <| .mk fun s =>
  @sMv 78 6 s <| .mk fun s =>
  @sOp (some 79) (xIx 4 (s.τ 77) (s.τ 78) s.H) s <| .mk fun s =>
  @sLd 80 4 79 true s <| .mk fun s =>
  @sMv 81 1 s <| .mk fun s =>
  @sCall P (.func 55 []) [(s.τ 80), (s.τ 81)] (some 82) s ⟨W55_c5 P Φ L0⟩
def W55_l7 (P : Program) (Φ : EP) (L0 : SP) (s : St) : Prop :=
  @sMv 71 6 s <| .mk fun s =>
  @sMv 72 5 s <| .mk fun s =>
  @sOp (some 73) (xBin .lss false (s.τ 71) (s.τ 72) s.H) s <| .mk fun s =>
  @sIf (s.τ 73) ⟨W55_b6 P Φ L0 s⟩ ⟨W55_k2 P Φ s⟩
def W55_b8 (P : Program) (Φ : EP) (s : St) : Prop :=
  @sOp (some 6) (xMov (.int .i64 0) s.H) s <| .mk fun s =>
  @sLoop s ⟨fun L0 s => W55_l7 P Φ L0 s⟩
def W55_c9 (P : Program) (Φ : EP) (s : St) : Prop :=
  @sOp (some 70) (xPick (s.τ 64) (.bool true) (s.τ 69) s.H) s <| .mk fun s =>
  @sIf (s.τ 70) ⟨W55_b1 P Φ s⟩ ⟨W55_b8 P Φ s⟩
def W55_c10 (P : Program) (Φ : EP) (s : St) : Prop :=
  @sGrd (guardOf (s.τ 64) false) (some 69) s ⟨fun s K => @sOp (some 69) (xBin .neq false (s.τ 67) (s.τ 68) s.H) s ⟨K⟩⟩ ⟨W55_c9 P Φ⟩
def W55_c11 (P : Program) (Φ : EP) (s : St) : Prop :=
  @sGm 68 5 64 false s ⟨W55_c10 P Φ⟩
def W55_c12 (P : Program) (Φ : EP) (s : St) : Prop :=
  @sGrd (guardOf (s.τ 64) false) (some 67) s ⟨fun s K => @sOp (some 67) (xLen (s.τ 66) s.H) s ⟨K⟩⟩ ⟨W55_c11 P Φ⟩
def W55_c13 (P : Program) (Φ : EP) (s : St) : Prop :=
  @sGl 66 1 65 64 false false s ⟨W55_c12 P Φ⟩
def W55_k14 (P : Program) (Φ : EP) (s : St) : Prop :=
  @sFl 61 1 2 s <| .mk fun s =>
  @sLd 62 1 61 false s <| .mk fun s =>
  @sOp (some 63) (xBin .neq false (s.τ 62) (.int .i64 0) s.H) s <| .mk fun s =>
  @sMv 64 63 s <| .mk fun s =>
  @sGf 65 3 2 64 false s ⟨W55_c13 P Φ⟩
def W55_b15 (P : Program) (Φ : EP) (s : St) : Prop :=
  @sOp (some 4) (xMov (.bool false) s.H) s <| .mk fun s =>
  Φ .ret s
def W55_c16 (P : Program) (Φ : EP) (s : St) : Prop :=
  @sOp (some 23) (xPick (s.τ 18) (s.τ 22) (.bool false) s.H) s <| .mk fun s =>
  @sMv 4 23 s <| .mk fun s =>
  Φ .ret s
def W55_c17 (P : Program) (Φ : EP) (s : St) : Prop :=
  @sGrd (guardOf (s.τ 18) true) (some 22) s ⟨fun s K => @sOp (some 22) (xBin .eql false (s.τ 21) (.int .i64 0) s.H) s ⟨K⟩⟩ ⟨W55_c16 P Φ⟩
def W55_c18 (P : Program) (Φ : EP) (s : St) : Prop :=
  @sGrd (guardOf (s.τ 18) true) (some 21) s ⟨fun s K => @sOp (some 21) (xLen (s.τ 20) s.H) s ⟨K⟩⟩ ⟨W55_c17 P Φ⟩
def W55_c19 (P : Program) (Φ : EP) (s : St) : Prop :=
  @sGl 20 1 19 18 false true s ⟨W55_c18 P Φ⟩
def W55_b20 (P : Program) (Φ : EP) (s : St) : Prop :=
  @sFl 15 1 2 s <| .mk fun s =>
  @sLd 16 1 15 false s <| .mk fun s =>
  @sOp (some 17) (xBin .geq false (s.τ 16) (.int .i64 0) s.H) s <| .mk fun s =>
  @sMv 18 17 s <| .mk fun s =>
  @sGf 19 3 2 18 true s ⟨W55_c19 P Φ⟩
def W55_c21 (P : Program) (Φ : EP) (s : St) : Prop :=
  @sOp (some 42) (xPick (s.τ 37) (s.τ 41) (.bool false) s.H) s <| .mk fun s =>
  @sMv 4 42 s <| .mk fun s =>
  Φ .ret s
def W55_c22 (P : Program) (Φ : EP) (s : St) : Prop :=
  @sGrd (guardOf (s.τ 37) true) (some 41) s ⟨fun s K => @sOp (some 41) (xBin .eql false (s.τ 40) (.int .i64 0) s.H) s ⟨K⟩⟩ ⟨W55_c21 P Φ⟩
def W55_c23 (P : Program) (Φ : EP) (s : St) : Prop :=
  @sGrd (guardOf (s.τ 37) true) (some 40) s ⟨fun s K => @sOp (some 40) (xLen (s.τ 39) s.H) s ⟨K⟩⟩ ⟨W55_c22 P Φ⟩
def W55_c24 (P : Program) (Φ : EP) (s : St) : Prop :=
  @sGl 39 1 38 37 false true s ⟨W55_c23 P Φ⟩
def W55_c25 (P : Program) (Φ : EP) (s : St) : Prop :=
  @sOp (some 36) (xPick (s.τ 31) (s.τ 35) (.bool false) s.H) s <| .mk fun s =>
  @sMv 37 36 s <| .mk fun s =>
  @sGf 38 3 2 37 true s ⟨W55_c24 P Φ⟩
def W55_c26 (P : Program) (Φ : EP) (s : St) : Prop :=
  @sGrd (guardOf (s.τ 31) true) (some 35) s ⟨fun s K => @sOp (some 35) (xBin .lss false (s.τ 33) (s.τ 34) s.H) s ⟨K⟩⟩ ⟨W55_c25 P Φ⟩
def W55_c27 (P : Program) (Φ : EP) (s : St) : Prop :=
  @sGm 34 1 31 true s ⟨W55_c26 P Φ⟩
def W55_c28 (P : Program) (Φ : EP) (s : St) : Prop :=
  @sGl 33 1 32 31 false true s ⟨W55_c27 P Φ⟩
def W55_b29 (P : Program) (Φ : EP) (s : St) : Prop :=
  @sFl 28 1 2 s <| .mk fun s =>
  @sLd 29 1 28 false s <| .mk fun s =>
  @sOp (some 30) (xBin .geq false (s.τ 29) (.int .i64 0) s.H) s <| .mk fun s =>
  @sMv 31 30 s <| .mk fun s =>
  @sGf 32 1 2 31 true s ⟨W55_c28 P Φ⟩
def W55_b30 (P : Program) (Φ : EP) (s : St) : Prop :=
  @sOp (some 5) (xMov (.int .i64 1) s.H) s <| .mk fun s =>
  W55_k14 P Φ s
def W55_b31 (P : Program) (Φ : EP) (s : St) : Prop :=
  @sOp (some 4) (xMov (.bool false) s.H) s <| .mk fun s =>
  Φ .ret s
def W55_c32 (P : Program) (Φ : EP) (s : St) : Prop :=
  @sOp (some 60) (xPick (s.τ 56) (.bool true) (s.τ 59) s.H) s <| .mk fun s =>
  @sMv 52 60 s <| .mk fun s =>
  @sIf (s.τ 52) ⟨W55_b31 P Φ s⟩ ⟨W55_k14 P Φ s⟩
def W55_c33 (P : Program) (Φ : EP) (s : St) : Prop :=
  @sGrd (guardOf (s.τ 56) false) (some 59) s ⟨fun s K => @sOp (some 59) (xBin .gtr false (s.τ 58) (.int .i64 17) s.H) s ⟨K⟩⟩ ⟨W55_c32 P Φ⟩
def W55_c34 (P : Program) (Φ : EP) (s : St) : Prop :=
  @sGl 58 1 57 56 false false s ⟨W55_c33 P Φ⟩
def W55_b35 (P : Program) (Φ : EP) (s : St) : Prop :=
  @sFl 53 0 2 s <| .mk fun s =>
  @sLd 54 1 53 false s <| .mk fun s =>
  @sOp (some 55) (xBin .lss false (s.τ 54) (.int .i64 5) s.H) s <| .mk fun s =>
  @sMv 56 55 s <| .mk fun s =>
  @sGf 57 0 2 56 false s ⟨W55_c34 P Φ⟩
def W55_c36 (P : Program) (Φ : EP) (s : St) : Prop :=
  @sOp (some 51) (xPick (s.τ 47) (.bool true) (s.τ 50) s.H) s <| .mk fun s =>
  @sMv 43 51 s <| .mk fun s =>
  @sIf (s.τ 43) ⟨W55_b30 P Φ s⟩ ⟨W55_b35 P Φ s⟩
def W55_c37 (P : Program) (Φ : EP) (s : St) : Prop :=
  @sGrd (guardOf (s.τ 47) false) (some 50) s ⟨fun s K => @sOp (some 50) (xBin .eql false (s.τ 49) (.int .i64 4) s.H) s ⟨K⟩⟩ ⟨W55_c36 P Φ⟩
def W55_c38 (P : Program) (Φ : EP) (s : St) : Prop :=
  @sGl 49 1 48 47 false false s ⟨W55_c37 P Φ⟩
def W55_b39 (P : Program) (Φ : EP) (s : St) : Prop :=
  @sFl 44 0 2 s <| .mk fun s =>
  @sLd 45 1 44 false s <| .mk fun s =>
  @sOp (some 46) (xBin .eql false (s.τ 45) (.int .i64 3) s.H) s <| .mk fun s =>
  @sMv 47 46 s <| .mk fun s =>
  @sGf 48 0 2 47 false s ⟨W55_c38 P Φ⟩
def W55_b40 (P : Program) (Φ : EP) (s : St) : Prop :=
  @sFl 25 0 2 s <| .mk fun s =>
  @sLd 26 1 25 false s <| .mk fun s =>
  @sOp (some 27) (xBin .eql false (s.τ 26) (.int .i64 2) s.H) s <| .mk fun s =>
  @sMv 24 27 s <| .mk fun s =>
  @sIf (s.τ 24) ⟨W55_b29 P Φ s⟩ ⟨W55_b39 P Φ s⟩
def W55_b41 (P : Program) (Φ : EP) (s : St) : Prop :=
  @sFl 12 0 2 s <| .mk fun s =>
  @sLd 13 1 12 false s <| .mk fun s =>
  @sOp (some 14) (xBin .eql false (s.τ 13) (.int .i64 1) s.H) s <| .mk fun s =>
  @sMv 11 14 s <| .mk fun s =>
  @sIf (s.τ 11) ⟨W55_b20 P Φ s⟩ ⟨W55_b40 P Φ s⟩
def W55 (P : Program) (Φ : EP) (s : St) : Prop :=
  @sOp (some 2) (xBox 2 31 (s.τ 0) s.H) s <| .mk fun s =>
  @sOp (some 4) (xMov (.bool false) s.H) s <| .mk fun s =>
  @sOp (some 5) (xMov (.int .i64 2) s.H) s <| .mk fun s =>
  @sFl 8 2 2 s <| .mk fun s =>
  @sLd 9 1 8 false s <| .mk fun s =>
  @sOp (some 10) (xBin .neq false (s.τ 9) (.str ⟨#[]⟩) s.H) s <| .mk fun s =>
  @sMv 7 10 s <| .mk fun s =>
  @sIf (s.τ 7) ⟨W55_b15 P Φ s⟩ ⟨W55_b41 P Φ s⟩
theorem W55_rs (τ : Nat → AV) (H : Heap) : resV Try.prog τ H [.tmp 4] = some (τ 4) := by kernel_rfl
theorem W55_eq (Φ : EP) (s : St) : awp Try.prog (Try.f55.body.getD .skip) Φ s = W55 Try.prog Φ s := by kernel_rfl

-- 56 "penance/penanceref2.Same"
def W56_b1 (P : Program) (Φ : EP) (s : St) : Prop :=
  @sOp (some 4) (xMov (.bool false) s.H) s <| .mk fun s =>
  Φ .ret s
def W56_k2 (P : Program) (Φ : EP) (s : St) : Prop :=
  @sOp (some 4) (xMov (.bool true) s.H) s <| .mk fun s =>
  Φ .ret s
def W56_b3 (P : Program) (Φ : EP) (L0 : SP) (s : St) : Prop :=
  @sOp (some 4) (xMov (.bool false) s.H) s <| .mk fun s =>
  Φ .ret s
def W56_b4 (P : Program) (Φ : EP) (L0 : SP) (s : St) : Prop :=
  @sMv 39 5 s <| .mk fun s =>
  @sOp (some 40) (xBin .add false (s.τ 39) (.int .i64 1) s.H) s <| .mk fun s =>
  @sMv 5 40 s <| .mk fun s =>
  L0 s
def W56_c5 (P : Program) (Φ : EP) (L0 : SP) (s : St) : Prop :=
  @sOp (some 52) (xNot (s.τ 51) s.H) s <| .mk fun s =>
  @sIf (s.τ 52) ⟨W56_b3 P Φ L0 s⟩ ⟨W56_b4 P Φ L0 s⟩
def W56_b6 (P : Program) (Φ : EP) (L0 : SP) (s : St) : Prop :=
  @sFl 41 3 2 s <| .mk fun s =>
  @sLd 42 1 41 false s <| .mk fun s =>
  @sMv 43 5 s <| .mk fun s =>
  @sOp (some 44) (xIx 4 (s.τ 42) (s.τ 43) s.H) s <| .mk fun s =>
  @sLd 45 4 44 true s <| .mk fun s =>
  @sFl 46 3 3 s <| .mk fun s =>
  @sLd 47 1 46 false s <| .mk fun s =>
  @sMv 48 5 s <| .mk fun s =>
  @sOp (some 49) (xIx 4 (s.τ 47) (s.τ 48) s.H) s <| .mk fun s =>
  @sLd 50 4 49 true s <| .mk fun s =>
  @sCall0 P (.func 56 []) [(s.τ 45), (s.τ 50)] (some 51) s ⟨W56_c5 P Φ L0⟩
def W56_l7 (P : Program) (Φ : EP) (L0 : SP) (s : St) : Prop :=
  @sMv 34 5 s <| .mk fun s =>
  @sFl 35 3 2 s <| .mk fun s =>
  @sLd 36 1 35 false s <| .mk fun s =>
  @sOp (some 37) (xLen (s.τ 36) s.H) s <| .mk fun s =>
  @sOp (some 38) (xBin .lss false (s.τ 34) (s.τ 37) s.H) s <| .mk fun s =>
  @sIf (s.τ 38) ⟨W56_b6 P Φ L0 s⟩ ⟨W56_k2 P Φ s⟩
def W56_b8 (P : Program) (Φ : EP) (s : St) : Prop :=
  @sOp (some 5) (xMov (.int .i64 0) s.H) s <| .mk fun s =>
  @sLoop s ⟨fun L0 s => W56_l7 P Φ L0 s⟩
def W56_c9 (P : Program) (Φ : EP) (s : St) : Prop :=
  @sOp (some 33) (xPick (s.τ 25) (.bool true) (s.τ 32) s.H) s <| .mk fun s =>
  @sIf (s.τ 33) ⟨W56_b1 P Φ s⟩ ⟨W56_b8 P Φ s⟩
def W56_c10 (P : Program) (Φ : EP) (s : St) : Prop :=
  @sGrd (guardOf (s.τ 25) false) (some 32) s ⟨fun s K => @sOp (some 32) (xBin .neq false (s.τ 28) (s.τ 31) s.H) s ⟨K⟩⟩ ⟨W56_c9 P Φ⟩
def W56_c11 (P : Program) (Φ : EP) (s : St) : Prop :=
  @sGrd (guardOf (s.τ 25) false) (some 31) s ⟨fun s K => @sOp (some 31) (xLen (s.τ 30) s.H) s ⟨K⟩⟩ ⟨W56_c10 P Φ⟩
def W56_c12 (P : Program) (Φ : EP) (s : St) : Prop :=
  @sGl 30 1 29 25 false false s ⟨W56_c11 P Φ⟩
def W56_c13 (P : Program) (Φ : EP) (s : St) : Prop :=
  @sGf 29 3 3 25 false s ⟨W56_c12 P Φ⟩
def W56_c14 (P : Program) (Φ : EP) (s : St) : Prop :=
  @sGrd (guardOf (s.τ 25) false) (some 28) s ⟨fun s K => @sOp (some 28) (xLen (s.τ 27) s.H) s ⟨K⟩⟩ ⟨W56_c13 P Φ⟩
def W56_c15 (P : Program) (Φ : EP) (s : St) : Prop :=
  @sGl 27 1 26 25 false false s ⟨W56_c14 P Φ⟩
def W56_c16 (P : Program) (Φ : EP) (s : St) : Prop :=
  @sOp (some 24) (xPick (s.τ 18) (.bool true) (s.τ 23) s.H) s <| .mk fun s =>
  @sMv 25 24 s <| .mk fun s =>
  @sGf 26 3 2 25 false s ⟨W56_c15 P Φ⟩
def W56_c17 (P : Program) (Φ : EP) (s : St) : Prop :=
  @sGrd (guardOf (s.τ 18) false) (some 23) s ⟨fun s K => @sOp (some 23) (xBin .neq false (s.τ 20) (s.τ 22) s.H) s ⟨K⟩⟩ ⟨W56_c16 P Φ⟩
def W56_c18 (P : Program) (Φ : EP) (s : St) : Prop :=
  @sGl 22 1 21 18 false false s ⟨W56_c17 P Φ⟩
def W56_c19 (P : Program) (Φ : EP) (s : St) : Prop :=
  @sGf 21 2 3 18 false s ⟨W56_c18 P Φ⟩
def W56_c20 (P : Program) (Φ : EP) (s : St) : Prop :=
  @sGl 20 1 19 18 false false s ⟨W56_c19 P Φ⟩
def W56_c21 (P : Program) (Φ : EP) (s : St) : Prop :=
  @sOp (some 17) (xPick (s.τ 11) (.bool true) (s.τ 16) s.H) s <| .mk fun s =>
  @sMv 18 17 s <| .mk fun s =>
  @sGf 19 2 2 18 false s ⟨W56_c20 P Φ⟩
def W56_c22 (P : Program) (Φ : EP) (s : St) : Prop :=
  @sGrd (guardOf (s.τ 11) false) (some 16) s ⟨fun s K => @sOp (some 16) (xBin .neq false (s.τ 13) (s.τ 15) s.H) s ⟨K⟩⟩ ⟨W56_c21 P Φ⟩
def W56_c23 (P : Program) (Φ : EP) (s : St) : Prop :=
  @sGl 15 1 14 11 false false s ⟨W56_c22 P Φ⟩
def W56_c24 (P : Program) (Φ : EP) (s : St) : Prop :=
  @sGf 14 1 3 11 false s ⟨W56_c23 P Φ⟩
def W56_c25 (P : Program) (Φ : EP) (s : St) : Prop :=
  @sGl 13 1 12 11 false false s ⟨W56_c24 P Φ⟩
def W56 (P : Program) (Φ : EP) (s : St) : Prop :=
  @sOp (some 2) (xBox 2 31 (s.τ 0) s.H) s <| .mk fun s =>
  @sOp (some 3) (xBox 3 31 (s.τ 1) s.H) s <| .mk fun s =>
  @sOp (some 4) (xMov (.bool false) s.H) s <| .mk fun s =>
  @sFl 6 0 2 s <| .mk fun s =>
  @sLd 7 1 6 false s <| .mk fun s =>
  @sFl 8 0 3 s <| .mk fun s =>
  @sLd 9 1 8 false s <| .mk fun s =>
  @sOp (some 10) (xBin .neq false (s.τ 7) (s.τ 9) s.H) s <| .mk fun s =>
  @sMv 11 10 s <| .mk fun s =>
  @sGf 12 1 2 11 false s ⟨W56_c25 P Φ⟩
theorem W56_rs (τ : Nat → AV) (H : Heap) : resV Try.prog τ H [.tmp 4] = some (τ 4) := by kernel_rfl
theorem W56_eq (Φ : EP) (s : St) : awp Try.prog (Try.f56.body.getD .skip) Φ s = W56 Try.prog Φ s := by kernel_rfl

-- 57 "penance/penanceref5.Any"
def W57_b1 (P : Program) (Φ : EP) (s : St) : Prop :=
  @sOp (some 2) (xMov (.bool true) s.H) s <| .mk fun s =>
  Φ .ret s
def W57_k2 (P : Program) (Φ : EP) (s : St) : Prop :=
  @sOp (some 2) (xMov (.bool false) s.H) s <| .mk fun s =>
  Φ .ret s
def W57_b3 (P : Program) (Φ : EP) (L0 : SP) (s : St) : Prop :=
  @sOp (some 2) (xMov (.bool true) s.H) s <| .mk fun s =>
  Φ .ret s
def W57_b4 (P : Program) (Φ : EP) (L0 : SP) (s : St) : Prop :=
  @sMv 12 3 s <| .mk fun s =>
  @sOp (some 13) (xBin .add false (s.τ 12) (.int .i64 1) s.H) s <| .mk fun s =>
  @sMv 3 13 s <| .mk fun s =>
  L0 s
def W57_c5 (P : Program) (Φ : EP) (L0 : SP) (s : St) : Prop :=
  @sIf (s.τ 19) ⟨W57_b3 P Φ L0 s⟩ ⟨W57_b4 P Φ L0 s⟩
def W57_b6 (P : Program) (Φ : EP) (L0 : SP) (s : St) : Prop :=
  @sFl 14 8 1 s <| .mk fun s =>
  @sLd 15 1 14 false s <| .mk fun s =>
  @sMv 16 3 s <| .mk fun s =>
  @sOp (some 17) (xIx 9 (s.τ 15) (s.τ 16) s.H) s <| .mk fun s =>
  @sLd 18 9 17 true s <| .mk fun s =>
  @sCall P (.func 57 []) [(s.τ 18)] (some 19) s ⟨W57_c5 P Φ L0⟩
def W57_l7 (P : Program) (Φ : EP) (L0 : SP) (s : St) : Prop :=
  @sMv 7 3 s <| .mk fun s =>
  @sFl 8 8 1 s <| .mk fun s =>
  @sLd 9 1 8 false s <| .mk fun s =>
  @sOp (some 10) (xLen (s.τ 9) s.H) s <| .mk fun s =>
  @sOp (some 11) (xBin .lss false (s.τ 7) (s.τ 10) s.H) s <| .mk fun s =>
  @sIf (s.τ 11) ⟨W57_b6 P Φ L0 s⟩ ⟨W57_k2 P Φ s⟩
def W57_b8 (P : Program) (Φ : EP) (s : St) : Prop :=
  @sOp (some 3) (xMov (.int .i64 0) s.H) s <| .mk fun s =>
  @sLoop s ⟨fun L0 s => W57_l7 P Φ L0 s⟩
def W57 (P : Program) (Φ : EP) (s : St) : Prop :=
  @sOp (some 1) (xBox 1 34 (s.τ 0) s.H) s <| .mk fun s =>
  @sOp (some 2) (xMov (.bool false) s.H) s <| .mk fun s =>
  @sFl 4 0 1 s <| .mk fun s =>
  @sLd 5 1 4 false s <| .mk fun s =>
  @sOp (some 6) (xBin .eql false (s.τ 5) (.int .i64 14) s.H) s <| .mk fun s =>
  @sIf (s.τ 6) ⟨W57_b1 P Φ s⟩ ⟨W57_b8 P Φ s⟩
theorem W57_rs (τ : Nat → AV) (H : Heap) : resV Try.prog τ H [.tmp 2] = some (τ 2) := by kernel_rfl
theorem W57_eq (Φ : EP) (s : St) : awp Try.prog (Try.f57.body.getD .skip) Φ s = W57 Try.prog Φ s := by kernel_rfl

-- 58 "penance/term.sameExpr"
def W58_c1 (P : Program) (Φ : EP) (s : St) : Prop :=
  @sOp (some 30) (xPick (s.τ 24) (s.τ 29) (.bool false) s.H) s <| .mk fun s =>
  @sMv 4 30 s <| .mk fun s =>
  Φ .ret s
def W58_c2 (P : Program) (Φ : EP) (s : St) : Prop :=
  @sGrd (guardOf (s.τ 24) true) (some 29) s ⟨fun s K => @sCall P (.func 81 []) [(s.τ 26), (s.τ 28), (.func 58 [])] (some 29) s ⟨K⟩⟩ ⟨W58_c1 P Φ⟩
def W58_c3 (P : Program) (Φ : EP) (s : St) : Prop :=
  @sGl 28 1 27 24 false true s ⟨W58_c2 P Φ⟩
def W58_c4 (P : Program) (Φ : EP) (s : St) : Prop :=
  @sGf 27 3 3 24 true s ⟨W58_c3 P Φ⟩
def W58_c5 (P : Program) (Φ : EP) (s : St) : Prop :=
  @sGl 26 1 25 24 false true s ⟨W58_c4 P Φ⟩
def W58_c6 (P : Program) (Φ : EP) (s : St) : Prop :=
  @sOp (some 23) (xPick (s.τ 17) (s.τ 22) (.bool false) s.H) s <| .mk fun s =>
  @sMv 24 23 s <| .mk fun s =>
  @sGf 25 3 2 24 true s ⟨W58_c5 P Φ⟩
def W58_c7 (P : Program) (Φ : EP) (s : St) : Prop :=
  @sGrd (guardOf (s.τ 17) true) (some 22) s ⟨fun s K => @sOp (some 22) (xBin .eql false (s.τ 19) (s.τ 21) s.H) s ⟨K⟩⟩ ⟨W58_c6 P Φ⟩
def W58_c8 (P : Program) (Φ : EP) (s : St) : Prop :=
  @sGl 21 1 20 17 false true s ⟨W58_c7 P Φ⟩
def W58_c9 (P : Program) (Φ : EP) (s : St) : Prop :=
  @sGf 20 2 3 17 true s ⟨W58_c8 P Φ⟩
def W58_c10 (P : Program) (Φ : EP) (s : St) : Prop :=
  @sGl 19 1 18 17 false true s ⟨W58_c9 P Φ⟩
def W58_c11 (P : Program) (Φ : EP) (s : St) : Prop :=
  @sOp (some 16) (xPick (s.τ 10) (s.τ 15) (.bool false) s.H) s <| .mk fun s =>
  @sMv 17 16 s <| .mk fun s =>
  @sGf 18 2 2 17 true s ⟨W58_c10 P Φ⟩
def W58_c12 (P : Program) (Φ : EP) (s : St) : Prop :=
  @sGrd (guardOf (s.τ 10) true) (some 15) s ⟨fun s K => @sOp (some 15) (xBin .eql false (s.τ 12) (s.τ 14) s.H) s ⟨K⟩⟩ ⟨W58_c11 P Φ⟩
def W58_c13 (P : Program) (Φ : EP) (s : St) : Prop :=
  @sGl 14 1 13 10 false true s ⟨W58_c12 P Φ⟩
def W58_c14 (P : Program) (Φ : EP) (s : St) : Prop :=
  @sGf 13 1 3 10 true s ⟨W58_c13 P Φ⟩
def W58_c15 (P : Program) (Φ : EP) (s : St) : Prop :=
  @sGl 12 1 11 10 false true s ⟨W58_c14 P Φ⟩
def W58 (P : Program) (Φ : EP) (s : St) : Prop :=
  @sOp (some 2) (xBox 2 31 (s.τ 0) s.H) s <| .mk fun s =>
  @sOp (some 3) (xBox 3 31 (s.τ 1) s.H) s <| .mk fun s =>
  @sOp (some 4) (xMov (.bool false) s.H) s <| .mk fun s =>
  @sFl 5 0 2 s <| .mk fun s =>
  @sLd 6 1 5 false s <| .mk fun s =>
  @sFl 7 0 3 s <| .mk fun s =>
  @sLd 8 1 7 false s <| .mk fun s =>
  @sOp (some 9) (xBin .eql false (s.τ 6) (s.τ 8) s.H) s <| .mk fun s =>
  @sMv 10 9 s <| .mk fun s =>
  @sGf 11 1 2 10 true s ⟨W58_c15 P Φ⟩
theorem W58_rs (τ : Nat → AV) (H : Heap) : resV Try.prog τ H [.tmp 4] = some (τ 4) := by kernel_rfl
theorem W58_eq (Φ : EP) (s : St) : awp Try.prog (Try.f58.body.getD .skip) Φ s = W58 Try.prog Φ s := by kernel_rfl

-- 59 "slices.EqualFunc[[]penance/api.Term,[]penance/api.Term,penance/api.Term,penance/api.Term]"
def W59_b1 (P : Program) (Φ : EP) (s : St) : Prop :=
  @sOp (some 6) (xMov (.bool false) s.H) s <| .mk fun s =>
  Φ .ret s
def W59_k2 (P : Program) (Φ : EP) (s : St) : Prop :=
  @sOp (some 6) (xMov (.bool true) s.H) s <| .mk fun s =>
  Φ .ret s
def W59_b3 (P : Program) (Φ : EP) (L0 : SP) (s : St) : Prop :=
  @sOp (some 6) (xMov (.bool false) s.H) s <| .mk fun s =>
  Φ .ret s
def W59_b4 (P : Program) (Φ : EP) (L0 : SP) (s : St) : Prop :=
  @sOp (some 31) (xBin .add false (s.τ 17) (.int .i64 1) s.H) s <| .mk fun s =>
  @sMv 17 31 s <| .mk fun s =>
  L0 s
def W59_c5 (P : Program) (Φ : EP) (L0 : SP) (s : St) : Prop :=
  @sOp (some 30) (xNot (s.τ 29) s.H) s <| .mk fun s =>
  @sIf (s.τ 30) ⟨W59_b3 P Φ L0 s⟩ ⟨W59_b4 P Φ L0 s⟩
def W59_b6 (P : Program) (Φ : EP) (L0 : SP) (s : St) : Prop :=
  @sMv 19 17 s <| .mk fun s =>
  @sOp (some 20) (xIx 9 (s.τ 15) (s.τ 17) s.H) s <| .mk fun s =>
  @sLd 21 9 20 true s <| .mk fun s =>
  @sOp (some 8) (xAlloc 8 34 [.int .i64 0, .int .i64 0, .int .i64 0, .str ⟨#[]⟩, .int .i64 0, .int .i64 0, .str ⟨#[]⟩, .nils, .nils] s.H) s <| .mk fun s =>
  @sMv 7 19 s <| .mk fun s =>
  @sOp none (xStore 9 (s.τ 8) (s.τ 21) s.H) s <| .mk fun s =>
  @sMv 22 1 s <| .mk fun s =>
  @sMv 23 7 s <| .mk fun s =>
  @sOp (some 24) (xIx 9 (s.τ 22) (s.τ 23) s.H) s <| .mk fun s =>
  @sLd 25 9 24 true s <| .mk fun s =>
  @sOp (some 9) (xAlloc 9 34 [.int .i64 0, .int .i64 0, .int .i64 0, .str ⟨#[]⟩, .int .i64 0, .int .i64 0, .str ⟨#[]⟩, .nils, .nils] s.H) s <| .mk fun s =>
  @sOp none (xStore 9 (s.τ 9) (s.τ 25) s.H) s <| .mk fun s =>
  @sMv 26 2 s <| .mk fun s =>
  @sLd 27 9 8 true s <| .mk fun s =>
  @sLd 28 9 9 true s <| .mk fun s =>
  @sCall P (s.τ 26) [(s.τ 27), (s.τ 28)] (some 29) s ⟨W59_c5 P Φ L0⟩
def W59_l7 (P : Program) (Φ : EP) (L0 : SP) (s : St) : Prop :=
  @sOp (some 18) (xBin .lss false (s.τ 17) (s.τ 16) s.H) s <| .mk fun s =>
  @sIf (s.τ 18) ⟨W59_b6 P Φ L0 s⟩ ⟨W59_k2 P Φ s⟩
def W59_b8 (P : Program) (Φ : EP) (s : St) : Prop :=
  @sMv 15 0 s <| .mk fun s =>
  @sOp (some 16) (xLen (s.τ 15) s.H) s <| .mk fun s =>
  @sOp (some 17) (xMov (.int .i64 0) s.H) s <| .mk fun s =>
  @sLoop s ⟨fun L0 s => W59_l7 P Φ L0 s⟩
def W59 (P : Program) (Φ : EP) (s : St) : Prop :=
  @sOp (some 6) (xMov (.bool false) s.H) s <| .mk fun s =>
  @sMv 10 0 s <| .mk fun s =>
  @sOp (some 11) (xLen (s.τ 10) s.H) s <| .mk fun s =>
  @sMv 12 1 s <| .mk fun s =>
  @sOp (some 13) (xLen (s.τ 12) s.H) s <| .mk fun s =>
  @sOp (some 14) (xBin .neq false (s.τ 11) (s.τ 13) s.H) s <| .mk fun s =>
  @sIf (s.τ 14) ⟨W59_b1 P Φ s⟩ ⟨W59_b8 P Φ s⟩
theorem W59_rs (τ : Nat → AV) (H : Heap) : resV Try.prog τ H [.tmp 6] = some (τ 6) := by kernel_rfl
theorem W59_eq (Φ : EP) (s : St) : awp Try.prog (Try.f59.body.getD .skip) Φ s = W59 Try.prog Φ s := by kernel_rfl

-- 60 "penance/term.Norm$1"

def W60 (P : Program) (Φ : EP) (s : St) : Prop :=
  @sOp (some 1) (xBox 1 34 (s.τ 0) s.H) s <| .mk fun s =>
  @sOp (some 2) (xMov (.bool false) s.H) s <| .mk fun s =>
  @sFl 3 0 1 s <| .mk fun s =>
  @sLd 4 1 3 false s <| .mk fun s =>
  @sOp (some 5) (xBin .eql false (s.τ 4) (.int .i64 0) s.H) s <| .mk fun s =>
  @sMv 2 5 s <| .mk fun s =>
  Φ .ret s
theorem W60_rs (τ : Nat → AV) (H : Heap) : resV Try.prog τ H [.tmp 2] = some (τ 2) := by kernel_rfl
theorem W60_eq (Φ : EP) (s : St) : awp Try.prog (Try.f60.body.getD .skip) Φ s = W60 Try.prog Φ s := by kernel_rfl

-- 61 "penance/term.own"
def W61_c1 (P : Program) (Φ : EP) (u4 : St) (s : St) : Prop :=
  @sChk (compat (cfp 27 83 [(u4.τ 26)]) (occ (s.τ 1), [])) <| .mk <|
  @sFl 28 8 1 s <| .mk fun u6 =>
  @sOp none (xStore 1 (u6.τ 28) (u6.τ 24) u6.H) u6 <| .mk fun u7 =>
  @sFl 29 4 1 u7 <| .mk fun u8 =>
  @sOp none (xStore 4 (u8.τ 29) (u8.τ 27) u8.H) u8 <| .mk fun s =>
  @sLd 30 9 1 true s <| .mk fun s =>
  @sOp none (xStore 9 (s.τ 2) (s.τ 30) s.H) s <| .mk fun s =>
  Φ .ret s
def W61_c2 (P : Program) (Φ : EP) (u1 : St) (s : St) : Prop :=
  @sChk (compat (cfp 24 82 [(u1.τ 23)]) (occ (s.τ 1), [])) <| .mk <|
  @sFl 25 4 1 s <| .mk fun u3 =>
  @sChk (compat (cfp 24 82 [(u1.τ 23)]) (occ (u3.τ 25), [])) <| .mk <|
  @sLd 26 4 25 true u3 <| .mk fun u4 =>
  @sCall0 P (.func 83 []) [(u4.τ 26)] (some 27) u4 ⟨W61_c1 P Φ u4⟩
def W61_k3 (P : Program) (Φ : EP) (s : St) : Prop :=
  @sMv 23 3 s <| .mk fun u1 =>
  @sCall0 P (.func 82 []) [(u1.τ 23)] (some 24) u1 ⟨W61_c2 P Φ u1⟩
def W61_c4 (P : Program) (Φ : EP) (L0 : SP) (s : St) : Prop :=
  @sOp (some 20) (xLit 9 1 [.int .i64 0, .int .i64 0, .int .i64 0, .str ⟨#[]⟩, .int .i64 0, .int .i64 0, .str ⟨#[]⟩, .nils, .nils] [(0, (s.τ 19))] s.H) s <| .mk fun s =>
  @sOp (some 21) (xApp P 34 9 120 (some 21) (s.τ 17) (s.τ 20) s.H) s <| .mk fun s =>
  @sMv 3 21 s <| .mk fun s =>
  @sOp (some 22) (xBin .add false (s.τ 13) (.int .i64 1) s.H) s <| .mk fun s =>
  @sMv 13 22 s <| .mk fun s =>
  L0 s
def W61_b5 (P : Program) (Φ : EP) (L0 : SP) (s : St) : Prop :=
  @sOp (some 15) (xIx 9 (s.τ 11) (s.τ 13) s.H) s <| .mk fun s =>
  @sLd 16 9 15 true s <| .mk fun s =>
  @sOp (some 5) (xAlloc 5 34 [.int .i64 0, .int .i64 0, .int .i64 0, .str ⟨#[]⟩, .int .i64 0, .int .i64 0, .str ⟨#[]⟩, .nils, .nils] s.H) s <| .mk fun s =>
  @sOp none (xStore 9 (s.τ 5) (s.τ 16) s.H) s <| .mk fun s =>
  @sMv 17 3 s <| .mk fun s =>
  @sLd 18 9 5 true s <| .mk fun s =>
  @sCall P (.func 61 []) [(s.τ 18)] (some 19) s ⟨W61_c4 P Φ L0⟩
def W61_l6 (P : Program) (Φ : EP) (L0 : SP) (s : St) : Prop :=
  @sOp (some 14) (xBin .lss false (s.τ 13) (s.τ 12) s.H) s <| .mk fun s =>
  @sIf (s.τ 14) ⟨W61_b5 P Φ L0 s⟩ ⟨W61_k3 P Φ s⟩
def W61 (P : Program) (Φ : EP) (s : St) : Prop :=
  @sOp (some 1) (xBox 1 34 (s.τ 0) s.H) s <| .mk fun s =>
  @sOp (some 2) (xAlloc 2 34 [.int .i64 0, .int .i64 0, .int .i64 0, .str ⟨#[]⟩, .int .i64 0, .int .i64 0, .str ⟨#[]⟩, .nils, .nils] s.H) s <| .mk fun s =>
  @sFl 6 8 1 s <| .mk fun s =>
  @sLd 7 1 6 false s <| .mk fun s =>
  @sOp (some 8) (xLen (s.τ 7) s.H) s <| .mk fun s =>
  @sOp (some 9) (xMks 9 34 9 120 [.int .i64 0, .int .i64 0, .int .i64 0, .str ⟨#[]⟩, .int .i64 0, .int .i64 0, .str ⟨#[]⟩, .nils, .nils] (.int .i64 0) (s.τ 8) s.H) s <| .mk fun s =>
  @sMv 3 9 s <| .mk fun s =>
  @sFl 10 8 1 s <| .mk fun s =>
  @sLd 11 1 10 false s <| .mk fun s =>
  @sOp (some 12) (xLen (s.τ 11) s.H) s <| .mk fun s =>
  @sOp (some 13) (xMov (.int .i64 0) s.H) s <| .mk fun s =>
  @sLoop s ⟨fun L0 s => W61_l6 P Φ L0 s⟩
theorem W61_rs (τ : Nat → AV) (H : Heap) : resV Try.prog τ H [.cell 2 34] = rdV H 9 true (τ 2) := by kernel_rfl
theorem W61_eq (Φ : EP) (s : St) : awp Try.prog (Try.f61.body.getD .skip) Φ s = W61 Try.prog Φ s := by kernel_rfl

-- 62 "penance/term.active"

def W62 (P : Program) (Φ : EP) (s : St) : Prop :=
  @sOp (some 1) (xBox 1 34 (s.τ 0) s.H) s <| .mk fun s =>
  @sOp (some 2) (xMov (.nilf) s.H) s <| .mk fun s =>
  @sOp (some 3) (xMkf 84 [(s.τ 1)] s.H) s <| .mk fun s =>
  @sMv 2 3 s <| .mk fun s =>
  Φ .ret s
theorem W62_rs (τ : Nat → AV) (H : Heap) : resV Try.prog τ H [.tmp 2] = some (τ 2) := by kernel_rfl
theorem W62_eq (Φ : EP) (s : St) : awp Try.prog (Try.f62.body.getD .skip) Φ s = W62 Try.prog Φ s := by kernel_rfl

-- 64 "penance/penancelaw2.Few"
def W64_c1 (P : Program) (Φ : EP) (s : St) : Prop :=
  @sOp (some 5) (xBin .leq false (s.τ 4) (.int .i64 20) s.H) s <| .mk fun s =>
  @sMv 2 5 s <| .mk fun s =>
  Φ .ret s
def W64 (P : Program) (Φ : EP) (s : St) : Prop :=
  @sOp (some 2) (xMov (.bool false) s.H) s <| .mk fun s =>
  @sMv 3 0 s <| .mk fun s =>
  @sCall P (.func 86 []) [(s.τ 3), (.int .i64 0)] (some 4) s ⟨W64_c1 P Φ⟩
theorem W64_rs (τ : Nat → AV) (H : Heap) : resV Try.prog τ H [.tmp 2] = some (τ 2) := by kernel_rfl
theorem W64_eq (Φ : EP) (s : St) : awp Try.prog (Try.f64.body.getD .skip) Φ s = W64 Try.prog Φ s := by kernel_rfl

-- 65 "penance/penancelaw3.Stacks"

def W65 (P : Program) (Φ : EP) (s : St) : Prop :=
  @sOp (some 0) (xMov (.nils) s.H) s <| .mk fun s =>
  @sOp (some 1) (xLit 1 2 [.str ⟨#[]⟩] [(0, (.str ⟨#[115]⟩)), (1, (.str ⟨#[117, 110, 100, 111]⟩))] s.H) s <| .mk fun s =>
  @sMv 0 1 s <| .mk fun s =>
  Φ .ret s
theorem W65_rs (τ : Nat → AV) (H : Heap) : resV Try.prog τ H [.tmp 0] = some (τ 0) := by kernel_rfl
theorem W65_eq (Φ : EP) (s : St) : awp Try.prog (Try.f65.body.getD .skip) Φ s = W65 Try.prog Φ s := by kernel_rfl

-- 66 "penance/penancelaw3.Vars"

def W66 (P : Program) (Φ : EP) (s : St) : Prop :=
  @sOp (some 0) (xMov (.nils) s.H) s <| .mk fun s =>
  @sOp (some 1) (xLit 1 3 [.str ⟨#[]⟩] [(0, (.str ⟨#[120]⟩)), (1, (.str ⟨#[121]⟩)), (2, (.str ⟨#[116, 111, 116, 97, 108]⟩))] s.H) s <| .mk fun s =>
  @sMv 0 1 s <| .mk fun s =>
  Φ .ret s
theorem W66_rs (τ : Nat → AV) (H : Heap) : resV Try.prog τ H [.tmp 0] = some (τ 0) := by kernel_rfl
theorem W66_eq (Φ : EP) (s : St) : awp Try.prog (Try.f66.body.getD .skip) Φ s = W66 Try.prog Φ s := by kernel_rfl

-- 67 "penance/penancelaw3.within"
def W67_k1 (P : Program) (Φ : EP) (s : St) : Prop :=
  @sMv 14 5 s <| .mk fun s =>
  @sMv 4 14 s <| .mk fun s =>
  Φ .ret s
def W67_b2 (P : Program) (Φ : EP) (s : St) : Prop :=
  @sMv 11 5 s <| .mk fun s =>
  @sMv 12 1 s <| .mk fun s =>
  @sOp (some 13) (xBin .add false (s.τ 11) (s.τ 12) s.H) s <| .mk fun s =>
  @sMv 5 13 s <| .mk fun s =>
  W67_k1 P Φ s
def W67 (P : Program) (Φ : EP) (s : St) : Prop :=
  @sOp (some 4) (xMov (.int .i64 0) s.H) s <| .mk fun s =>
  @sMv 6 0 s <| .mk fun s =>
  @sMv 7 1 s <| .mk fun s =>
  @sOp (some 8) (xBin .rem false (s.τ 6) (s.τ 7) s.H) s <| .mk fun s =>
  @sMv 5 8 s <| .mk fun s =>
  @sMv 9 5 s <| .mk fun s =>
  @sOp (some 10) (xBin .lss false (s.τ 9) (.int .i64 0) s.H) s <| .mk fun s =>
  @sIf (s.τ 10) ⟨W67_b2 P Φ s⟩ ⟨W67_k1 P Φ s⟩
theorem W67_rs (τ : Nat → AV) (H : Heap) : resV Try.prog τ H [.tmp 4] = some (τ 4) := by kernel_rfl
theorem W67_eq (Φ : EP) (s : St) : awp Try.prog (Try.f67.body.getD .skip) Φ s = W67 Try.prog Φ s := by kernel_rfl

-- 68 "penance/penancelaw3.Defs"

def W68 (P : Program) (Φ : EP) (s : St) : Prop :=
  @sOp (some 0) (xMov (.nils) s.H) s <| .mk fun s =>
  @sOp (some 1) (xLit 1 5 [.str ⟨#[]⟩] [(0, (.str ⟨#[109, 97, 105, 110]⟩)), (1, (.str ⟨#[112]⟩)), (2, (.str ⟨#[113]⟩)), (3, (.str ⟨#[114, 101, 116, 114, 121]⟩)), (4, (.str ⟨#[108, 97, 115, 116]⟩))] s.H) s <| .mk fun s =>
  @sMv 0 1 s <| .mk fun s =>
  Φ .ret s
theorem W68_rs (τ : Nat → AV) (H : Heap) : resV Try.prog τ H [.tmp 0] = some (τ 0) := by kernel_rfl
theorem W68_eq (Φ : EP) (s : St) : awp Try.prog (Try.f68.body.getD .skip) Φ s = W68 Try.prog Φ s := by kernel_rfl

-- 69 "(penance/penancelaw3.Raw).Make"
def W69_c1 (P : Program) (Φ : EP) (s : St) : Prop :=
  @sOp (some 44) (xIx 1 (s.τ 40) (s.τ 43) s.H) s <| .mk fun s =>
  @sLd 45 1 44 false s <| .mk fun s =>
  @sOp (some 46) (xBuild [.int .i64 0, .str ⟨#[]⟩, .str ⟨#[]⟩, .int .i64 0, .int .i64 0, .str ⟨#[]⟩, .nils, .nils] [(0, 1, (.int .i64 1)), (1, 1, (s.τ 45))] s.H) s <| .mk fun s =>
  @sOp none (xStore 8 (s.τ 4) (s.τ 46) s.H) s <| .mk fun s =>
  Φ .ret s
def W69_b2 (P : Program) (Φ : EP) (s : St) : Prop :=
  @sOp (some 40) (xLit 1 3 [.str ⟨#[]⟩] [(0, (.str ⟨#[112, 97, 121]⟩)), (1, (.str ⟨#[115, 104, 105, 112]⟩)), (2, (.str ⟨#[97, 115, 107]⟩))] s.H) s <| .mk fun s =>
  @sFl 41 2 2 s <| .mk fun s =>
  @sLd 42 1 41 false s <| .mk fun s =>
  @sCall P (.func 67 []) [(s.τ 42), (.int .i64 3)] (some 43) s ⟨W69_c1 P Φ⟩
def W69_c3 (P : Program) (Φ : EP) (s : St) : Prop :=
  @sOp (some 54) (xIx 1 (s.τ 50) (s.τ 53) s.H) s <| .mk fun s =>
  @sLd 55 1 54 false s <| .mk fun s =>
  @sMv 56 5 s <| .mk fun s =>
  @sOp (some 57) (xBuild [.int .i64 0, .str ⟨#[]⟩, .str ⟨#[]⟩, .int .i64 0, .int .i64 0, .str ⟨#[]⟩, .nils, .nils] [(0, 1, (.int .i64 1)), (1, 1, (s.τ 55)), (2, 1, (s.τ 56))] s.H) s <| .mk fun s =>
  @sOp none (xStore 8 (s.τ 4) (s.τ 57) s.H) s <| .mk fun s =>
  Φ .ret s
def W69_b4 (P : Program) (Φ : EP) (s : St) : Prop :=
  @sOp (some 50) (xLit 1 3 [.str ⟨#[]⟩] [(0, (.str ⟨#[112, 97, 121]⟩)), (1, (.str ⟨#[115, 104, 105, 112]⟩)), (2, (.str ⟨#[97, 115, 107]⟩))] s.H) s <| .mk fun s =>
  @sFl 51 2 2 s <| .mk fun s =>
  @sLd 52 1 51 false s <| .mk fun s =>
  @sCall P (.func 67 []) [(s.τ 52), (.int .i64 3)] (some 53) s ⟨W69_c3 P Φ⟩
def W69_c5 (P : Program) (Φ : EP) (s : St) : Prop :=
  @sOp (some 65) (xBuild [.int .i64 0, .str ⟨#[]⟩, .str ⟨#[]⟩, .int .i64 0, .int .i64 0, .str ⟨#[]⟩, .nils, .nils] [(0, 1, (.int .i64 2)), (2, 1, (s.τ 60)), (3, 4, (s.τ 64))] s.H) s <| .mk fun u6 =>
  @sOp none (xStore 8 (u6.τ 4) (u6.τ 65) u6.H) u6 <| .mk fun s =>
  Φ .ret s
def W69_c6 (P : Program) (Φ : EP) (s : St) : Prop :=
  @sCall0 P (.func 88 []) [(s.τ 62), (s.τ 63)] (some 64) s ⟨W69_c5 P Φ⟩
def W69_b7 (P : Program) (Φ : EP) (s : St) : Prop :=
  @sMv 60 5 s <| .mk fun u1 =>
  @sFl 61 3 2 u1 <| .mk fun u2 =>
  @sLd 62 1 61 false u2 <| .mk fun u3 =>
  @sChk (compat (occ (u1.τ 2), []) (cfp 63 66 [])) <| .mk <|
  @sChk (compat (occ (u2.τ 61), []) (cfp 63 66 [])) <| .mk <|
  @sCall0 P (.func 66 []) [] (some 63) u3 ⟨W69_c6 P Φ⟩
def W69_b8 (P : Program) (Φ : EP) (s : St) : Prop :=
  @sMv 69 6 s <| .mk fun s =>
  @sLd 70 8 8 true s <| .mk fun s =>
  @sOp (some 71) (xLit 8 1 [.int .i64 0, .str ⟨#[]⟩, .str ⟨#[]⟩, .int .i64 0, .int .i64 0, .str ⟨#[]⟩, .nils, .nils] [(0, (s.τ 70))] s.H) s <| .mk fun s =>
  @sOp (some 72) (xBuild [.int .i64 0, .str ⟨#[]⟩, .str ⟨#[]⟩, .int .i64 0, .int .i64 0, .str ⟨#[]⟩, .nils, .nils] [(0, 1, (.int .i64 3)), (1, 1, (s.τ 69)), (7, 1, (s.τ 71))] s.H) s <| .mk fun s =>
  @sOp none (xStore 8 (s.τ 4) (s.τ 72) s.H) s <| .mk fun s =>
  Φ .ret s
def W69_b9 (P : Program) (Φ : EP) (s : St) : Prop :=
  @sMv 75 6 s <| .mk fun s =>
  @sOp (some 76) (xBuild [.int .i64 0, .str ⟨#[]⟩, .str ⟨#[]⟩, .int .i64 0, .int .i64 0, .str ⟨#[]⟩, .nils, .nils] [(0, 1, (.int .i64 4)), (1, 1, (s.τ 75))] s.H) s <| .mk fun s =>
  @sOp none (xStore 8 (s.τ 4) (s.τ 76) s.H) s <| .mk fun s =>
  Φ .ret s
def W69_b10 (P : Program) (Φ : EP) (s : St) : Prop :=
  @sMv 79 6 s <| .mk fun s =>
  @sOp (some 80) (xBuild [.int .i64 0, .str ⟨#[]⟩, .str ⟨#[]⟩, .int .i64 0, .int .i64 0, .str ⟨#[]⟩, .nils, .nils] [(0, 1, (.int .i64 5)), (1, 1, (s.τ 79))] s.H) s <| .mk fun s =>
  @sOp none (xStore 8 (s.τ 4) (s.τ 80) s.H) s <| .mk fun s =>
  Φ .ret s
def W69_c11 (P : Program) (Φ : EP) (s : St) : Prop :=
  @sOp (some 88) (xIx 1 (s.τ 84) (s.τ 87) s.H) s <| .mk fun u6 =>
  @sLd 89 1 88 false u6 <| .mk fun u7 =>
  @sOp (some 90) (xBuild [.int .i64 0, .str ⟨#[]⟩, .str ⟨#[]⟩, .int .i64 0, .int .i64 0, .str ⟨#[]⟩, .nils, .nils] [(0, 1, (.int .i64 6)), (1, 1, (u7.τ 83)), (2, 1, (u7.τ 89))] u7.H) u7 <| .mk fun u8 =>
  @sOp none (xStore 8 (u8.τ 4) (u8.τ 90) u8.H) u8 <| .mk fun s =>
  Φ .ret s
def W69_c12 (P : Program) (Φ : EP) (u1 : St) (s : St) : Prop :=
  @sChk (compat (cfp 84 65 []) (occ (s.τ 2), [])) <| .mk <|
  @sFl 85 2 2 s <| .mk fun u3 =>
  @sChk (compat (cfp 84 65 []) (occ (u3.τ 85), [])) <| .mk <|
  @sLd 86 1 85 false u3 <| .mk fun u4 =>
  @sCall0 P (.func 67 []) [(u4.τ 86), (.int .i64 2)] (some 87) u4 ⟨W69_c11 P Φ⟩
def W69_b13 (P : Program) (Φ : EP) (s : St) : Prop :=
  @sMv 83 6 s <| .mk fun u1 =>
  @sCall0 P (.func 65 []) [] (some 84) u1 ⟨W69_c12 P Φ u1⟩
def W69_b14 (P : Program) (Φ : EP) (s : St) : Prop :=
  @sLd 93 8 8 true s <| .mk fun s =>
  @sOp (some 94) (xLit 8 1 [.int .i64 0, .str ⟨#[]⟩, .str ⟨#[]⟩, .int .i64 0, .int .i64 0, .str ⟨#[]⟩, .nils, .nils] [(0, (s.τ 93))] s.H) s <| .mk fun s =>
  @sOp (some 95) (xBuild [.int .i64 0, .str ⟨#[]⟩, .str ⟨#[]⟩, .int .i64 0, .int .i64 0, .str ⟨#[]⟩, .nils, .nils] [(0, 1, (.int .i64 7)), (7, 1, (s.τ 94))] s.H) s <| .mk fun s =>
  @sOp none (xStore 8 (s.τ 4) (s.τ 95) s.H) s <| .mk fun s =>
  Φ .ret s
def W69_b15 (P : Program) (Φ : EP) (s : St) : Prop :=
  @sOp (some 98) (xBuild [.int .i64 0, .str ⟨#[]⟩, .str ⟨#[]⟩, .int .i64 0, .int .i64 0, .str ⟨#[]⟩, .nils, .nils] [(0, 1, (.int .i64 8))] s.H) s <| .mk fun s =>
  @sOp none (xStore 8 (s.τ 4) (s.τ 98) s.H) s <| .mk fun s =>
  Φ .ret s
def W69_c16 (P : Program) (Φ : EP) (u0 : St) (u1 : St) (u2 : St) (u3 : St) (s : St) : Prop :=
  @sChk (compat (cfp 103 66 []) (occ (s.τ 8), [])) <| .mk <|
  @sChk (compat (cfp 104 88 [(u3.τ 102), (u3.τ 103)]) (occ (s.τ 8), [])) <| .mk <|
  @sLd 105 8 8 true s <| .mk fun u5 =>
  @sChk (compat (cfp 103 66 []) (occ (u5.τ 9), [])) <| .mk <|
  @sChk (compat (cfp 104 88 [(u3.τ 102), (u3.τ 103)]) (occ (u5.τ 9), [])) <| .mk <|
  @sLd 106 8 9 true u5 <| .mk fun u6 =>
  @sChk (compat (occ (u0.τ 2), []) ([107] ++ occL [(u6.τ 105), (u6.τ 106)], [107] ++ occL [(u6.τ 105), (u6.τ 106)])) <| .mk <|
  @sChk (compat (occ (u1.τ 101), []) ([107] ++ occL [(u6.τ 105), (u6.τ 106)], [107] ++ occL [(u6.τ 105), (u6.τ 106)])) <| .mk <|
  @sChk (compat (cfp 103 66 []) ([107] ++ occL [(u6.τ 105), (u6.τ 106)], [107] ++ occL [(u6.τ 105), (u6.τ 106)])) <| .mk <|
  @sChk (compat (cfp 104 88 [(u3.τ 102), (u3.τ 103)]) ([107] ++ occL [(u6.τ 105), (u6.τ 106)], [107] ++ occL [(u6.τ 105), (u6.τ 106)])) <| .mk <|
  @sOp (some 107) (xLit 8 2 [.int .i64 0, .str ⟨#[]⟩, .str ⟨#[]⟩, .int .i64 0, .int .i64 0, .str ⟨#[]⟩, .nils, .nils] [(0, (u6.τ 105)), (1, (u6.τ 106))] u6.H) u6 <| .mk fun u7 =>
  @sOp (some 108) (xBuild [.int .i64 0, .str ⟨#[]⟩, .str ⟨#[]⟩, .int .i64 0, .int .i64 0, .str ⟨#[]⟩, .nils, .nils] [(0, 1, (.int .i64 9)), (3, 4, (u7.τ 104)), (7, 1, (u7.τ 107))] u7.H) u7 <| .mk fun u8 =>
  @sOp none (xStore 8 (u8.τ 4) (u8.τ 108) u8.H) u8 <| .mk fun s =>
  Φ .ret s
def W69_c17 (P : Program) (Φ : EP) (u0 : St) (u1 : St) (u2 : St) (s : St) : Prop :=
  @sCall0 P (.func 88 []) [(s.τ 102), (s.τ 103)] (some 104) s ⟨W69_c16 P Φ u0 u1 u2 s⟩
def W69_b18 (P : Program) (Φ : EP) (s : St) : Prop :=
  @sFl 101 3 2 s <| .mk fun u1 =>
  @sLd 102 1 101 false u1 <| .mk fun u2 =>
  @sChk (compat (occ (s.τ 2), []) (cfp 103 66 [])) <| .mk <|
  @sChk (compat (occ (u1.τ 101), []) (cfp 103 66 [])) <| .mk <|
  @sCall0 P (.func 66 []) [] (some 103) u2 ⟨W69_c17 P Φ s u1 u2⟩
def W69_b19 (P : Program) (Φ : EP) (s : St) : Prop :=
  @sLd 111 8 8 true s <| .mk fun s =>
  @sLd 112 8 9 true s <| .mk fun s =>
  @sOp (some 113) (xLit 8 2 [.int .i64 0, .str ⟨#[]⟩, .str ⟨#[]⟩, .int .i64 0, .int .i64 0, .str ⟨#[]⟩, .nils, .nils] [(0, (s.τ 111)), (1, (s.τ 112))] s.H) s <| .mk fun s =>
  @sOp (some 114) (xBuild [.int .i64 0, .str ⟨#[]⟩, .str ⟨#[]⟩, .int .i64 0, .int .i64 0, .str ⟨#[]⟩, .nils, .nils] [(0, 1, (.int .i64 10)), (7, 1, (s.τ 113))] s.H) s <| .mk fun s =>
  @sOp none (xStore 8 (s.τ 4) (s.τ 114) s.H) s <| .mk fun s =>
  Φ .ret s
def W69_b20 (P : Program) (Φ : EP) (s : St) : Prop :=
  @sLd 118 8 8 true s <| .mk fun s =>
  @sLd 119 8 9 true s <| .mk fun s =>
  @sOp (some 120) (xLit 8 2 [.int .i64 0, .str ⟨#[]⟩, .str ⟨#[]⟩, .int .i64 0, .int .i64 0, .str ⟨#[]⟩, .nils, .nils] [(0, (s.τ 118)), (1, (s.τ 119))] s.H) s <| .mk fun s =>
  @sOp (some 121) (xBuild [.int .i64 0, .str ⟨#[]⟩, .str ⟨#[]⟩, .int .i64 0, .int .i64 0, .str ⟨#[]⟩, .nils, .nils] [(0, 1, (.int .i64 11)), (7, 1, (s.τ 120))] s.H) s <| .mk fun s =>
  @sOp none (xStore 8 (s.τ 4) (s.τ 121) s.H) s <| .mk fun s =>
  Φ .ret s
def W69_b21 (P : Program) (Φ : EP) (s : St) : Prop :=
  @sMv 124 7 s <| .mk fun s =>
  @sOp (some 125) (xBuild [.int .i64 0, .str ⟨#[]⟩, .str ⟨#[]⟩, .int .i64 0, .int .i64 0, .str ⟨#[]⟩, .nils, .nils] [(0, 1, (.int .i64 13)), (1, 1, (s.τ 124))] s.H) s <| .mk fun s =>
  @sOp none (xStore 8 (s.τ 4) (s.τ 125) s.H) s <| .mk fun s =>
  Φ .ret s
def W69_b22 (P : Program) (Φ : EP) (s : St) : Prop :=
  @sOp (some 128) (xBuild [.int .i64 0, .str ⟨#[]⟩, .str ⟨#[]⟩, .int .i64 0, .int .i64 0, .str ⟨#[]⟩, .nils, .nils] [(0, 1, (.int .i64 0))] s.H) s <| .mk fun s =>
  @sOp none (xStore 8 (s.τ 4) (s.τ 128) s.H) s <| .mk fun s =>
  Φ .ret s
def W69_b23 (P : Program) (Φ : EP) (s : St) : Prop :=
  @sLd 129 8 8 true s <| .mk fun s =>
  @sLd 130 8 9 true s <| .mk fun s =>
  @sOp (some 131) (xLit 8 2 [.int .i64 0, .str ⟨#[]⟩, .str ⟨#[]⟩, .int .i64 0, .int .i64 0, .str ⟨#[]⟩, .nils, .nils] [(0, (s.τ 129)), (1, (s.τ 130))] s.H) s <| .mk fun s =>
  @sOp (some 132) (xBuild [.int .i64 0, .str ⟨#[]⟩, .str ⟨#[]⟩, .int .i64 0, .int .i64 0, .str ⟨#[]⟩, .nils, .nils] [(0, 1, (.int .i64 12)), (7, 1, (s.τ 131))] s.H) s <| .mk fun s =>
  @sOp none (xStore 8 (s.τ 4) (s.τ 132) s.H) s <| .mk fun s =>
  Φ .ret s
def W69_b24 (P : Program) (Φ : EP) (s : St) : Prop :=
  @sOp (some 127) (xBin .eql false (s.τ 36) (.int .i64 17) s.H) s <| .mk fun s =>
  @sMv 126 127 s <| .mk fun s =>
  @sIf (s.τ 126) ⟨W69_b22 P Φ s⟩ ⟨W69_b23 P Φ s⟩
def W69_b25 (P : Program) (Φ : EP) (s : St) : Prop :=
  @sOp (some 123) (xBin .eql false (s.τ 36) (.int .i64 16) s.H) s <| .mk fun s =>
  @sMv 122 123 s <| .mk fun s =>
  @sIf (s.τ 122) ⟨W69_b21 P Φ s⟩ ⟨W69_b24 P Φ s⟩
def W69_k26 (P : Program) (Φ : EP) (s : St) : Prop :=
  @sIf (s.τ 115) ⟨W69_b20 P Φ s⟩ ⟨W69_b25 P Φ s⟩
def W69_b27 (P : Program) (Φ : EP) (s : St) : Prop :=
  @sOp (some 117) (xBin .eql false (s.τ 36) (.int .i64 15) s.H) s <| .mk fun s =>
  @sMv 115 117 s <| .mk fun s =>
  W69_k26 P Φ s
def W69_b28 (P : Program) (Φ : EP) (s : St) : Prop :=
  @sOp (some 116) (xBin .eql false (s.τ 36) (.int .i64 14) s.H) s <| .mk fun s =>
  @sMv 115 116 s <| .mk fun s =>
  @sIf (s.τ 115) ⟨W69_k26 P Φ s⟩ ⟨W69_b27 P Φ s⟩
def W69_b29 (P : Program) (Φ : EP) (s : St) : Prop :=
  @sOp (some 110) (xBin .eql false (s.τ 36) (.int .i64 13) s.H) s <| .mk fun s =>
  @sMv 109 110 s <| .mk fun s =>
  @sIf (s.τ 109) ⟨W69_b19 P Φ s⟩ ⟨W69_b28 P Φ s⟩
def W69_b30 (P : Program) (Φ : EP) (s : St) : Prop :=
  @sOp (some 100) (xBin .eql false (s.τ 36) (.int .i64 12) s.H) s <| .mk fun s =>
  @sMv 99 100 s <| .mk fun s =>
  @sIf (s.τ 99) ⟨W69_b18 P Φ s⟩ ⟨W69_b29 P Φ s⟩
def W69_b31 (P : Program) (Φ : EP) (s : St) : Prop :=
  @sOp (some 97) (xBin .eql false (s.τ 36) (.int .i64 11) s.H) s <| .mk fun s =>
  @sMv 96 97 s <| .mk fun s =>
  @sIf (s.τ 96) ⟨W69_b15 P Φ s⟩ ⟨W69_b30 P Φ s⟩
def W69_b32 (P : Program) (Φ : EP) (s : St) : Prop :=
  @sOp (some 92) (xBin .eql false (s.τ 36) (.int .i64 10) s.H) s <| .mk fun s =>
  @sMv 91 92 s <| .mk fun s =>
  @sIf (s.τ 91) ⟨W69_b14 P Φ s⟩ ⟨W69_b31 P Φ s⟩
def W69_b33 (P : Program) (Φ : EP) (s : St) : Prop :=
  @sOp (some 82) (xBin .eql false (s.τ 36) (.int .i64 9) s.H) s <| .mk fun s =>
  @sMv 81 82 s <| .mk fun s =>
  @sIf (s.τ 81) ⟨W69_b13 P Φ s⟩ ⟨W69_b32 P Φ s⟩
def W69_b34 (P : Program) (Φ : EP) (s : St) : Prop :=
  @sOp (some 78) (xBin .eql false (s.τ 36) (.int .i64 8) s.H) s <| .mk fun s =>
  @sMv 77 78 s <| .mk fun s =>
  @sIf (s.τ 77) ⟨W69_b10 P Φ s⟩ ⟨W69_b33 P Φ s⟩
def W69_b35 (P : Program) (Φ : EP) (s : St) : Prop :=
  @sOp (some 74) (xBin .eql false (s.τ 36) (.int .i64 7) s.H) s <| .mk fun s =>
  @sMv 73 74 s <| .mk fun s =>
  @sIf (s.τ 73) ⟨W69_b9 P Φ s⟩ ⟨W69_b34 P Φ s⟩
def W69_k36 (P : Program) (Φ : EP) (s : St) : Prop :=
  @sIf (s.τ 66) ⟨W69_b8 P Φ s⟩ ⟨W69_b35 P Φ s⟩
def W69_b37 (P : Program) (Φ : EP) (s : St) : Prop :=
  @sOp (some 68) (xBin .eql false (s.τ 36) (.int .i64 6) s.H) s <| .mk fun s =>
  @sMv 66 68 s <| .mk fun s =>
  W69_k36 P Φ s
def W69_b38 (P : Program) (Φ : EP) (s : St) : Prop :=
  @sOp (some 67) (xBin .eql false (s.τ 36) (.int .i64 5) s.H) s <| .mk fun s =>
  @sMv 66 67 s <| .mk fun s =>
  @sIf (s.τ 66) ⟨W69_k36 P Φ s⟩ ⟨W69_b37 P Φ s⟩
def W69_b39 (P : Program) (Φ : EP) (s : St) : Prop :=
  @sOp (some 59) (xBin .eql false (s.τ 36) (.int .i64 4) s.H) s <| .mk fun s =>
  @sMv 58 59 s <| .mk fun s =>
  @sIf (s.τ 58) ⟨W69_b7 P Φ s⟩ ⟨W69_b38 P Φ s⟩
def W69_k40 (P : Program) (Φ : EP) (s : St) : Prop :=
  @sIf (s.τ 47) ⟨W69_b4 P Φ s⟩ ⟨W69_b39 P Φ s⟩
def W69_b41 (P : Program) (Φ : EP) (s : St) : Prop :=
  @sOp (some 49) (xBin .eql false (s.τ 36) (.int .i64 3) s.H) s <| .mk fun s =>
  @sMv 47 49 s <| .mk fun s =>
  W69_k40 P Φ s
def W69_b42 (P : Program) (Φ : EP) (s : St) : Prop :=
  @sOp (some 48) (xBin .eql false (s.τ 36) (.int .i64 2) s.H) s <| .mk fun s =>
  @sMv 47 48 s <| .mk fun s =>
  @sIf (s.τ 47) ⟨W69_k40 P Φ s⟩ ⟨W69_b41 P Φ s⟩
def W69_k43 (P : Program) (Φ : EP) (s : St) : Prop :=
  @sIf (s.τ 37) ⟨W69_b2 P Φ s⟩ ⟨W69_b42 P Φ s⟩
def W69_b44 (P : Program) (Φ : EP) (s : St) : Prop :=
  @sOp (some 39) (xBin .eql false (s.τ 36) (.int .i64 1) s.H) s <| .mk fun s =>
  @sMv 37 39 s <| .mk fun s =>
  W69_k43 P Φ s
def W69_c45 (P : Program) (Φ : EP) (s : St) : Prop :=
  @sOp (some 38) (xBin .eql false (s.τ 36) (.int .i64 0) s.H) s <| .mk fun s =>
  @sMv 37 38 s <| .mk fun s =>
  @sIf (s.τ 37) ⟨W69_k43 P Φ s⟩ ⟨W69_b44 P Φ s⟩
def W69_c46 (P : Program) (Φ : EP) (u0 : St) (u2 : St) (u3 : St) (u5 : St) (s : St) : Prop :=
  @sChk (compat (occ (u0.τ 2), []) ([8], [8])) <| .mk <|
  @sChk (compat (cfp 30 87 [(u2.τ 28), (.int .i64 0), (u2.τ 29)]) ([8], [8])) <| .mk <|
  @sChk (compat (occ (u3.τ 2), []) ([8], [8])) <| .mk <|
  @sChk (compat (cfp 33 87 [(u5.τ 31), (.int .i64 1), (u5.τ 32)]) ([8], [8])) <| .mk <|
  @sOp (some 8) (xAlloc 8 73 [.int .i64 0, .str ⟨#[]⟩, .str ⟨#[]⟩, .int .i64 0, .int .i64 0, .str ⟨#[]⟩, .nils, .nils] s.H) s <| .mk fun u7 =>
  @sChk (compat (occ (u0.τ 2), []) ([9], [9])) <| .mk <|
  @sChk (compat (cfp 30 87 [(u2.τ 28), (.int .i64 0), (u2.τ 29)]) ([9], [9])) <| .mk <|
  @sChk (compat (occ (u3.τ 2), []) ([9], [9])) <| .mk <|
  @sChk (compat (cfp 33 87 [(u5.τ 31), (.int .i64 1), (u5.τ 32)]) ([9], [9])) <| .mk <|
  @sChk (compat ([8], [8]) ([9], [9])) <| .mk <|
  @sOp (some 9) (xAlloc 9 73 [.int .i64 0, .str ⟨#[]⟩, .str ⟨#[]⟩, .int .i64 0, .int .i64 0, .str ⟨#[]⟩, .nils, .nils] u7.H) u7 <| .mk fun u8 =>
  @sOp none (xStore 8 (u8.τ 8) (u8.τ 30) u8.H) u8 <| .mk fun u9 =>
  @sOp none (xStore 8 (u9.τ 9) (u9.τ 33) u9.H) u9 <| .mk fun s =>
  @sFl 34 0 2 s <| .mk fun s =>
  @sLd 35 1 34 false s <| .mk fun s =>
  @sCall P (.func 67 []) [(s.τ 35), (.int .i64 20)] (some 36) s ⟨W69_c45 P Φ⟩
def W69_c47 (P : Program) (Φ : EP) (u0 : St) (u2 : St) (s : St) : Prop :=
  @sChk (compat (cfp 30 87 [(u2.τ 28), (.int .i64 0), (u2.τ 29)]) (occ (s.τ 2), [])) <| .mk <|
  @sLd 31 5 2 true s <| .mk fun u4 =>
  @sMv 32 1 u4 <| .mk fun u5 =>
  @sCall0 P (.func 87 []) [(u5.τ 31), (.int .i64 1), (u5.τ 32)] (some 33) u5 ⟨W69_c46 P Φ u0 u2 s u5⟩
def W69_c48 (P : Program) (Φ : EP) (s : St) : Prop :=
  @sOp (some 26) (xIx 1 (s.τ 22) (s.τ 25) s.H) s <| .mk fun u17 =>
  @sLd 27 1 26 false u17 <| .mk fun u18 =>
  @sMv 5 15 u18 <| .mk fun u19 =>
  @sMv 6 21 u19 <| .mk fun u20 =>
  @sMv 7 27 u20 <| .mk fun s =>
  @sLd 28 5 2 true s <| .mk fun u1 =>
  @sMv 29 1 u1 <| .mk fun u2 =>
  @sCall0 P (.func 87 []) [(u2.τ 28), (.int .i64 0), (u2.τ 29)] (some 30) u2 ⟨W69_c47 P Φ s u2⟩
def W69_c49 (P : Program) (Φ : EP) (u0 : St) (u3 : St) (u4 : St) (u5 : St) (u6 : St) (u9 : St) (u10 : St) (u11 : St) (u12 : St) (s : St) : Prop :=
  @sChk (compat (cfp 10 66 []) (occ (s.τ 2), [])) <| .mk <|
  @sChk (compat (cfp 13 67 [(u3.τ 12), (.int .i64 3)]) (occ (s.τ 2), [])) <| .mk <|
  @sChk (compat (cfp 16 65 []) (occ (s.τ 2), [])) <| .mk <|
  @sChk (compat (cfp 19 67 [(u9.τ 18), (.int .i64 2)]) (occ (s.τ 2), [])) <| .mk <|
  @sChk (compat (cfp 22 68 []) (occ (s.τ 2), [])) <| .mk <|
  @sFl 23 1 2 s <| .mk fun u14 =>
  @sChk (compat (cfp 10 66 []) (occ (u14.τ 23), [])) <| .mk <|
  @sChk (compat (cfp 13 67 [(u3.τ 12), (.int .i64 3)]) (occ (u14.τ 23), [])) <| .mk <|
  @sChk (compat (cfp 16 65 []) (occ (u14.τ 23), [])) <| .mk <|
  @sChk (compat (cfp 19 67 [(u9.τ 18), (.int .i64 2)]) (occ (u14.τ 23), [])) <| .mk <|
  @sChk (compat (cfp 22 68 []) (occ (u14.τ 23), [])) <| .mk <|
  @sLd 24 1 23 false u14 <| .mk fun u15 =>
  @sChk (compat (occ (u4.τ 10), []) (cfp 25 67 [(u15.τ 24), (.int .i64 5)])) <| .mk <|
  @sChk (compat (occ (u5.τ 14), []) (cfp 25 67 [(u15.τ 24), (.int .i64 5)])) <| .mk <|
  @sChk (compat (occ (u10.τ 16), []) (cfp 25 67 [(u15.τ 24), (.int .i64 5)])) <| .mk <|
  @sChk (compat (occ (u11.τ 20), []) (cfp 25 67 [(u15.τ 24), (.int .i64 5)])) <| .mk <|
  @sCall0 P (.func 67 []) [(u15.τ 24), (.int .i64 5)] (some 25) u15 ⟨W69_c48 P Φ⟩
def W69_c50 (P : Program) (Φ : EP) (u0 : St) (u3 : St) (u4 : St) (u5 : St) (u6 : St) (u9 : St) (s : St) : Prop :=
  @sOp (some 20) (xIx 1 (s.τ 16) (s.τ 19) s.H) s <| .mk fun u11 =>
  @sLd 21 1 20 false u11 <| .mk fun u12 =>
  @sChk (compat (occ (u4.τ 10), []) (cfp 22 68 [])) <| .mk <|
  @sChk (compat (occ (u5.τ 14), []) (cfp 22 68 [])) <| .mk <|
  @sChk (compat (occ (s.τ 16), []) (cfp 22 68 [])) <| .mk <|
  @sChk (compat (occ (u11.τ 20), []) (cfp 22 68 [])) <| .mk <|
  @sCall0 P (.func 68 []) [] (some 22) u12 ⟨W69_c49 P Φ u0 u3 u4 u5 u6 u9 s u11 u12⟩
def W69_c51 (P : Program) (Φ : EP) (u0 : St) (u3 : St) (u4 : St) (u5 : St) (u6 : St) (s : St) : Prop :=
  @sChk (compat (cfp 10 66 []) (occ (s.τ 2), [])) <| .mk <|
  @sChk (compat (cfp 13 67 [(u3.τ 12), (.int .i64 3)]) (occ (s.τ 2), [])) <| .mk <|
  @sChk (compat (cfp 16 65 []) (occ (s.τ 2), [])) <| .mk <|
  @sFl 17 1 2 s <| .mk fun u8 =>
  @sChk (compat (cfp 10 66 []) (occ (u8.τ 17), [])) <| .mk <|
  @sChk (compat (cfp 13 67 [(u3.τ 12), (.int .i64 3)]) (occ (u8.τ 17), [])) <| .mk <|
  @sChk (compat (cfp 16 65 []) (occ (u8.τ 17), [])) <| .mk <|
  @sLd 18 1 17 false u8 <| .mk fun u9 =>
  @sChk (compat (occ (u4.τ 10), []) (cfp 19 67 [(u9.τ 18), (.int .i64 2)])) <| .mk <|
  @sChk (compat (occ (u5.τ 14), []) (cfp 19 67 [(u9.τ 18), (.int .i64 2)])) <| .mk <|
  @sCall0 P (.func 67 []) [(u9.τ 18), (.int .i64 2)] (some 19) u9 ⟨W69_c50 P Φ u0 u3 u4 u5 u6 u9⟩
def W69_c52 (P : Program) (Φ : EP) (u0 : St) (u3 : St) (s : St) : Prop :=
  @sOp (some 14) (xIx 1 (s.τ 10) (s.τ 13) s.H) s <| .mk fun u5 =>
  @sLd 15 1 14 false u5 <| .mk fun u6 =>
  @sChk (compat (occ (s.τ 10), []) (cfp 16 65 [])) <| .mk <|
  @sChk (compat (occ (u5.τ 14), []) (cfp 16 65 [])) <| .mk <|
  @sCall0 P (.func 65 []) [] (some 16) u6 ⟨W69_c51 P Φ u0 u3 s u5 u6⟩
def W69_c53 (P : Program) (Φ : EP) (u0 : St) (s : St) : Prop :=
  @sChk (compat (cfp 10 66 []) (occ (s.τ 2), [])) <| .mk <|
  @sFl 11 1 2 s <| .mk fun u2 =>
  @sChk (compat (cfp 10 66 []) (occ (u2.τ 11), [])) <| .mk <|
  @sLd 12 1 11 false u2 <| .mk fun u3 =>
  @sCall0 P (.func 67 []) [(u3.τ 12), (.int .i64 3)] (some 13) u3 ⟨W69_c52 P Φ u0 u3⟩
def W69 (P : Program) (Φ : EP) (s : St) : Prop :=
  @sOp (some 2) (xBox 2 25 (s.τ 0) s.H) s <| .mk fun s =>
  @sOp (some 4) (xAlloc 4 73 [.int .i64 0, .str ⟨#[]⟩, .str ⟨#[]⟩, .int .i64 0, .int .i64 0, .str ⟨#[]⟩, .nils, .nils] s.H) s <| .mk fun s =>
  @sCall0 P (.func 66 []) [] (some 10) s ⟨W69_c53 P Φ s⟩
theorem W69_rs (τ : Nat → AV) (H : Heap) : resV Try.prog τ H [.cell 4 73] = rdV H 8 true (τ 4) := by kernel_rfl
theorem W69_eq (Φ : EP) (s : St) : awp Try.prog (Try.f69.body.getD .skip) Φ s = W69 Try.prog Φ s := by kernel_rfl

end Go.Proofs.Ytkagfenchknjjaa
