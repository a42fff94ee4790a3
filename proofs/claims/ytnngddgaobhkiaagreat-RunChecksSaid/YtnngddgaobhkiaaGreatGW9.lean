import Derived.Test.YtnngddgaobhkiaaGreatGA5
import Derived.Test.YtnngddgaobhkiaaGreatProg
import Derived.KernelRfl
set_option linter.unusedVariables false
set_option maxRecDepth 100000
namespace Go.Proofs.YtnngddgaobhkiaaGreat
open Go Go.Am
-- 111 "penance/expr.Right"
def W111_k1 (Φ:EP) (s:St):Prop:=
 @sOp none (xStore 1 (s.τ 4) (.bool true) s.H) s<|.mk fun s=>
 Φ .ret s
def W111_b2 (Φ:EP) (s:St):Prop:=
 @sOp none (xStore 1 (s.τ 4) (.bool false) s.H) s<|.mk fun s=>
 Φ .ret s
def W111_b3 (Φ:EP) (s:St):Prop:=
 @sOp none (xStore 1 (s.τ 4) (.bool false) s.H) s<|.mk fun s=>
 Φ .ret s
def W111_b29 (Φ:EP) (s:St):Prop:=
 F 31 0 5 s fun s=>
 L 32 1 31 false s fun s=>
 J 33 .eql false 32 1 s fun s=>
 M 34 33 s fun s=>
 gf 35 1 5 34 true s fun s=>
 gl 36 1 35 34 false true s fun s=>
 go 37 34 true s (fun s=>(xBin .lss false (s.τ 36) (.int .i64 0) s.H)) fun s=>
 A 38 34 37 s fun s=>
 M 39 38 s fun s=>
 gf 40 0 5 39 false s fun s=>
 gl 41 1 40 39 false false s fun s=>
 go 42 39 false s (fun s=>(xBin .eql false (s.τ 41) (.int .i64 2) s.H)) fun s=>
 gm 43 42 39 false s fun s=>
 gf 44 1 5 43 true s fun s=>
 gl 45 1 44 43 false true s fun s=>
 go 46 43 true s (fun s=>(xBin .lss false (s.τ 45) (.int .i64 0) s.H)) fun s=>
 gm 47 46 43 true s fun s=>
 gf 48 1 5 47 false s fun s=>
 gl 49 1 48 47 false false s fun s=>
 gl 50 1 3 47 false false s fun s=>
 go 51 47 false s (fun s=>(xBin .geq false (s.τ 49) (s.τ 50) s.H)) fun s=>
 go 52 43 true s (fun s=>(xPick (s.τ 47) (.bool true) (s.τ 51) s.H)) fun s=>
 go 53 39 false s (fun s=>(xPick (s.τ 43) (s.τ 52) (.bool false) s.H)) fun s=>
 O 54 39 53 s fun s=>
 M 55 54 s fun s=>
 gf 56 0 5 55 false s fun s=>
 gl 57 1 56 55 false false s fun s=>
 go 58 55 false s (fun s=>(xBin .gtr false (s.τ 57) (.int .i64 2) s.H)) fun s=>
 gm 59 58 55 false s fun s=>
 gf 60 1 5 59 true s fun s=>
 gl 61 1 60 59 false true s fun s=>
 go 62 59 true s (fun s=>(xBin .neq false (s.τ 61) (.int .i64 0) s.H)) fun s=>
 go 63 55 false s (fun s=>(xPick (s.τ 59) (s.τ 62) (.bool false) s.H)) fun s=>
 O 64 55 63 s fun s=>
 @sIf (s.τ 64) ⟨W111_b3 Φ s⟩ ⟨Φ .normal s⟩
def W111_r43 (Φ:EP) (s:St):Prop:=
 Z 5 33 z4 s fun s=>
 U 4 5 8 s fun s=>
 F 9 0 5 s fun u1=>
 L 10 1 9 false u1 fun u2=>
 J 11 .lss false 10 1 u2 fun u3=>
 M 12 11 u3 fun u4=>
 gf 13 0 5 12 false u4 fun u5=>
 gl 14 1 13 12 false false u5 fun u6=>
 go 15 12 false u6 (fun s=>(xBin .gtr false (s.τ 14) (.int .i64 17) s.H)) fun u7=>
 O 16 12 15 u7 fun u8=>
 M 17 16 u8 fun u9=>
 gf 18 2 5 17 false u9 fun u10=>
 gl 19 1 18 17 false false u10 fun u11=>
 go 20 17 false u11 (fun s=>(xBin .neq false (s.τ 19) (.str ⟨#[]⟩) s.H)) fun u12=>
 O 21 17 20 u12 fun u13=>
 M 22 21 u13 fun u14=>
 gf 23 3 5 22 false u14 fun u15=>
 gl 24 1 23 22 false false u15 fun u16=>
 go 25 22 false u16 (fun s=>(xLen (s.τ 24) s.H)) fun u17=>
 gf 26 0 5 22 false u17 fun u18=>
 gl 27 1 26 22 false false u18 fun u19=>
 k3 (u14.τ 5) (cfp 28 136 [(u19.τ 27)]) <|
 k3 (u15.τ 23) (cfp 28 136 [(u19.τ 27)]) <|
 k3 (u16.τ 24) (cfp 28 136 [(u19.τ 27)]) <|
 @sGrd (guardOf (u19.τ 22) false) (some 28) u19 ⟨fun s K=>@sCall0 Tryz.prog (.func 136 []) [(s.τ 27)] (some 28) s ⟨K⟩⟩<|.mk fun u20=>
 go 29 22 false u20 (fun s=>(xBin .neq false (s.τ 25) (s.τ 28) s.H)) fun u21=>
 O 30 22 29 u21 fun s=>
 If 30 s (W111_b2 Φ s) (W111_b29 Φ s)
def W111 (Φ:EP) (s:St):Prop:=
 Y 2 33 0 s fun s=>
 Y 3 3 1 s fun s=>
 Z 4 4 [.bool false] s fun s=>
 L 6 4 2 true s fun s=>
 Ca Tryz.prog 135 [(s.τ 6)] 7 s fun s=>
 @sRange Tryz.prog (s.τ 7) [8] s ⟨fun Φ s=>W111_r43 Φ s⟩ ⟨(blkK 0 (thenK (W111_k1 Φ) Φ))⟩
theorem W111_rs (τ:Nat → AV) (H:Heap):resV Tryz.prog τ H [.cell 4 4] = rdV H 1 false (τ 4):=by kernel_rfl
theorem W111_eq:EqW Tryz.prog Tryz.f111 W111:=fun _ _=>by kernel_rfl
theorem W111_S:SpW Tryz.prog 111 65 [.cell 4 4] W111:=spW Tryz.func111 Tryz.ntmps111 W111_eq
-- 112 "penance/steps.places$1"
def W112 (Φ:EP) (s:St):Prop:=
 L 3 9 1 true s fun u1=>
 L 4 9 1 true u1 fun u2=>
 k3 (s.τ 1) (cfp 5 114 [(u2.τ 4)]) <|
 C0 Tryz.prog 114 [(u2.τ 4)] 5 u2 fun u3=>
 N 6 5 u3 fun u4=>
 J 7 .gtr false 6 0 u4 fun u5=>
 Bd 8 [.int .i64 0,.int .i64 0,.int .i64 0,.str ⟨#[]⟩,.int .i64 0,.int .i64 0,.str ⟨#[]⟩,.nils,.nils,.nils,.bool false] [(0,9,(u5.τ 3)),(9,1,(.nils)),(10,1,(u5.τ 7))] u5 fun u6=>
 M 9 0 u6 fun u7=>
 Ca Tryz.prog 113 [(u7.τ 8),(u7.τ 9)] 10 u7 fun s=>
 Φ .normal s
theorem W112_rs (τ:Nat → AV) (H:Heap):resV Tryz.prog τ H [] = ob (some []) fun vs=>some (.tup vs):=by kernel_rfl
theorem W112_eq:EqW Tryz.prog Tryz.f112 W112:=fun _ _=>by kernel_rfl
theorem W112_S:SpW Tryz.prog 112 11 [] W112:=spW Tryz.func112 Tryz.ntmps112 W112_eq
-- 113 "penance/steps.walk"
def W113_b1 (Φ:EP) (s:St):Prop:=
 V 4 false s fun s=>
 Φ .ret s
def W113_k2 (Φ:EP) (s:St):Prop:=
 V 4 true s fun s=>
 Φ .ret s
def W113_b3 (Φ:EP) (L0:SP) (s:St):Prop:=
 V 4 false s fun s=>
 Φ .ret s
def W113_b4 (Φ:EP) (L0:SP) (s:St):Prop:=
 J 35 .add false 26 1 s fun s=>
 M 26 35 s fun s=>
 L0 s
def W113_b7 (Φ:EP) (L0:SP) (s:St):Prop:=
 M 28 26 s fun s=>
 M 6 28 s fun s=>
 L 29 11 2 true s fun s=>
 M 30 6 s fun s=>
 Ca Tryz.prog 137 [(s.τ 29),(s.τ 30)] 31 s fun s=>
 M 32 1 s fun s=>
 Ca Tryz.prog 113 [(s.τ 31),(s.τ 32)] 33 s fun s=>
 Q 34 33 s fun s=>
 If 34 s (W113_b3 Φ L0 s) (W113_b4 Φ L0 s)
def W113_l8 (Φ:EP) (L0:SP) (s:St):Prop:=
 B 27 .lss false 26 25 s fun s=>
 If 27 s (W113_b7 Φ L0 s) (W113_k2 Φ s)
def W113_k9 (Φ:EP) (s:St):Prop:=
 M 25 5 s fun s=>
 I 26 0 s fun s=>
 @sLoop s ⟨fun L0 s=>W113_l8 Φ L0 s⟩
def W113_b10 (Φ:EP) (s:St):Prop:=
 M 21 5 s fun s=>
 @sOp (some 22) (xMin (s.τ 21) (.int .i64 1) s.H) s<|.mk fun s=>
 M 5 22 s fun s=>
 W113_k9 Φ s
def W113_b11 (Φ:EP) (s:St):Prop:=
 I 5 0 s fun s=>
 W113_k9 Φ s
def W113_b12 (Φ:EP) (s:St):Prop:=
 J 24 .eql false 17 11 s fun s=>
 M 23 24 s fun s=>
 If 23 s (W113_k9 Φ s) (W113_b11 Φ s)
def W113_k13 (Φ:EP) (s:St):Prop:=
 If 18 s (W113_b10 Φ s) (W113_b12 Φ s)
def W113_b14 (Φ:EP) (s:St):Prop:=
 J 20 .eql false 17 7 s fun s=>
 M 18 20 s fun s=>
 W113_k13 Φ s
def W113_b15 (Φ:EP) (s:St):Prop:=
 F 11 0 2 s fun s=>
 F 12 8 11 s fun s=>
 L 13 1 12 false s fun s=>
 N 14 13 s fun s=>
 M 5 14 s fun s=>
 F 15 0 2 s fun s=>
 F 16 0 15 s fun s=>
 L 17 1 16 false s fun s=>
 J 19 .eql false 17 12 s fun s=>
 M 18 19 s fun s=>
 If 18 s (W113_k13 Φ s) (W113_b14 Φ s)
def W113 (Φ:EP) (s:St):Prop:=
 Y 2 140 0 s fun s=>
 V 4 false s fun s=>
 M 7 1 s fun s=>
 L 8 11 2 true s fun s=>
 @sCall Tryz.prog (s.τ 7) [(s.τ 8)] (some 9) s<|.mk fun s=>
 Q 10 9 s fun s=>
 If 10 s (W113_b1 Φ s) (W113_b15 Φ s)
theorem W113_rs (τ:Nat → AV) (H:Heap):resV Tryz.prog τ H [.tmp 4] = some (τ 4):=by kernel_rfl
theorem W113_eq:EqW Tryz.prog Tryz.f113 W113:=fun _ _=>by kernel_rfl
theorem W113_S:SpW Tryz.prog 113 36 [.tmp 4] W113:=spW Tryz.func113 Tryz.ntmps113 W113_eq
-- 114 "penance/term.Waits"
def W114_k2 (Φ:EP) (s:St):Prop:=
 L 16 1 3 false s fun s=>
 Ca Tryz.prog 33 [(s.τ 16)] 17 s fun s=>
 M 2 17 s fun s=>
 Φ .ret s
def W114_b3 (Φ:EP) (s:St):Prop:=
 L 11 1 3 false s fun s=>
 F 12 1 4 s fun s=>
 L 13 1 12 false s fun s=>
 Lt 14 1 1 [.int .i64 0] [(0,(s.τ 13))] s fun s=>
 @sOp (some 15) (xApp Tryz.prog 3 1 8 (some 15) (s.τ 11) (s.τ 14) s.H) s<|.mk fun s=>
 U 1 3 15 s fun s=>
 Φ .normal s
def W114_r4 (Φ:EP) (s:St):Prop:=
 Z 4 35 z9 s fun s=>
 U 9 4 7 s fun s=>
 F 8 0 4 s fun s=>
 L 9 1 8 false s fun s=>
 J 10 .eql false 9 14 s fun s=>
 @sIf (s.τ 10) ⟨W114_b3 Φ s⟩ ⟨Φ .normal s⟩
def W114 (Φ:EP) (s:St):Prop:=
 Y 1 35 0 s fun s=>
 @sOp (some 2) (xMov (.nils) s.H) s<|.mk fun s=>
 Z 3 25 [.nils] s fun s=>
 L 5 9 1 true s fun s=>
 Ca Tryz.prog 138 [(s.τ 5)] 6 s fun s=>
 @sRange Tryz.prog (s.τ 6) [7] s ⟨fun Φ s=>W114_r4 Φ s⟩ ⟨(blkK 0 (thenK (W114_k2 Φ) Φ))⟩
theorem W114_rs (τ:Nat → AV) (H:Heap):resV Tryz.prog τ H [.tmp 2] = some (τ 2):=by kernel_rfl
theorem W114_eq:EqW Tryz.prog Tryz.f114 W114:=fun _ _=>by kernel_rfl
theorem W114_S:SpW Tryz.prog 114 18 [.tmp 2] W114:=spW Tryz.func114 Tryz.ntmps114 W114_eq
-- 115 "penance/expr.sum"
def W115_b1 (Φ:EP) (s:St):Prop:=
 I 4 0 s fun s=>
 I 5 8 s fun s=>
 Φ .ret s
def W115_b2 (Φ:EP) (s:St):Prop:=
 M 24 0 s fun s=>
 M 25 1 s fun s=>
 B 26 .add false 24 25 s fun s=>
 M 4 26 s fun s=>
 I 5 0 s fun s=>
 Φ .ret s
def W115 (Φ:EP) (s:St):Prop:=
 I 4 0 s fun s=>
 I 5 0 s fun s=>
 M 6 1 s fun s=>
 J 7 .gtr false 6 0 s fun s=>
 M 8 7 s fun s=>
 gm 9 0 8 true s fun s=>
 gm 10 1 8 true s fun s=>
 go 11 8 true s (fun s=>(xBin .sub false (.int .i64 9223372036854775807) (s.τ 10) s.H)) fun s=>
 go 12 8 true s (fun s=>(xBin .gtr false (s.τ 9) (s.τ 11) s.H)) fun s=>
 A 13 8 12 s fun s=>
 M 14 13 s fun s=>
 gm 15 1 14 false s fun s=>
 go 16 14 false s (fun s=>(xBin .lss false (s.τ 15) (.int .i64 0) s.H)) fun s=>
 gm 17 16 14 false s fun s=>
 gm 18 0 17 true s fun s=>
 gm 19 1 17 true s fun s=>
 go 20 17 true s (fun s=>(xBin .sub false (.int .i64 (-9223372036854775808)) (s.τ 19) s.H)) fun s=>
 go 21 17 true s (fun s=>(xBin .lss false (s.τ 18) (s.τ 20) s.H)) fun s=>
 go 22 14 false s (fun s=>(xPick (s.τ 17) (s.τ 21) (.bool false) s.H)) fun s=>
 O 23 14 22 s fun s=>
 If 23 s (W115_b1 Φ s) (W115_b2 Φ s)
theorem W115_rs (τ:Nat → AV) (H:Heap):resV Tryz.prog τ H [.tmp 4,.tmp 5] = ob (ob (some (τ 4)) fun v=>ob (ob (some (τ 5)) fun v=>ob (some []) fun vs=>some (v :: vs)) fun vs=>some (v :: vs)) fun vs=>some (.tup vs):=by kernel_rfl
theorem W115_eq:EqW Tryz.prog Tryz.f115 W115:=fun _ _=>by kernel_rfl
theorem W115_S:SpW Tryz.prog 115 27 [.tmp 4,.tmp 5] W115:=spW Tryz.func115 Tryz.ntmps115 W115_eq
-- 116 "penance/stacks.ownExpr"
def W116 (Φ:EP) (s:St):Prop:=
 Y 1 33 0 s fun s=>
 Z 2 33 z4 s fun s=>
 F 3 3 1 s fun s=>
 L 4 1 3 false s fun s=>
 Ca Tryz.prog 139 [(s.τ 4),(.func 116 [])] 5 s fun s=>
 F 6 3 1 s fun s=>
 U 1 6 5 s fun s=>
 L 7 4 1 true s fun s=>
 U 4 2 7 s fun s=>
 Φ .ret s
theorem W116_rs (τ:Nat → AV) (H:Heap):resV Tryz.prog τ H [.cell 2 33] = rdV H 4 true (τ 2):=by kernel_rfl
theorem W116_eq:EqW Tryz.prog Tryz.f116 W116:=fun _ _=>by kernel_rfl
theorem W116_S:SpW Tryz.prog 116 8 [.cell 2 33] W116:=spW Tryz.func116 Tryz.ntmps116 W116_eq
-- 124 "penance/penanceref5.in"
def W124 (Φ:EP) (s:St):Prop:=
 V 6 false s fun s=>
 M 7 0 s fun s=>
 M 8 1 s fun s=>
 B 9 .geq false 7 8 s fun s=>
 M 10 9 s fun s=>
 gm 11 0 10 true s fun s=>
 gm 12 2 10 true s fun s=>
 go 13 10 true s (fun s=>(xBin .lss false (s.τ 11) (s.τ 12) s.H)) fun s=>
 A 14 10 13 s fun s=>
 M 6 14 s fun s=>
 Φ .ret s
theorem W124_rs (τ:Nat → AV) (H:Heap):resV Tryz.prog τ H [.tmp 6] = some (τ 6):=by kernel_rfl
theorem W124_eq:EqW Tryz.prog Tryz.f124 W124:=fun _ _=>by kernel_rfl
theorem W124_S:SpW Tryz.prog 124 15 [.tmp 6] W124:=spW Tryz.func124 Tryz.ntmps124 W124_eq
-- 125 "penance/penanceref1.Key"
def W125_k1 (Φ:EP) (s:St):Prop:=
 V 2 false s fun s=>
 Φ .ret s
def W125_k2 (Φ:EP) (L0:SP) (s:St):Prop:=
 M 16 3 s fun s=>
 J 17 .add false 16 1 s fun s=>
 M 3 17 s fun s=>
 L0 s
def W125_k3 (Φ:EP) (L0:SP) (s:St):Prop:=
 V 2 true s fun s=>
 Φ .ret s
def W125_b4 (Φ:EP) (L0:SP) (L1:SP) (s:St):Prop:=
 V 2 false s fun s=>
 Φ .ret s
def W125_b5 (Φ:EP) (L0:SP) (L1:SP) (s:St):Prop:=
 M 46 4 s fun s=>
 J 47 .add false 46 1 s fun s=>
 M 4 47 s fun s=>
 L1 s
def W125_b6 (Φ:EP) (L0:SP) (L1:SP) (s:St):Prop:=
 M 48 0 s fun s=>
 M 49 4 s fun s=>
 @sOp (some 50) (xSix (s.τ 48) (s.τ 49) s.H) s<|.mk fun s=>
 @sOp (some 51) (xBin .eql false (s.τ 50) (.int .u8 32) s.H) s<|.mk fun s=>
 If 51 s (W125_b4 Φ L0 L1 s) (W125_b5 Φ L0 L1 s)
def W125_l7 (Φ:EP) (L0:SP) (L1:SP) (s:St):Prop:=
 M 42 4 s fun s=>
 M 43 0 s fun s=>
 @sOp (some 44) (xSlen (s.τ 43) s.H) s<|.mk fun s=>
 B 45 .lss false 42 44 s fun s=>
 If 45 s (W125_b6 Φ L0 L1 s) (W125_k3 Φ L0 s)
def W125_b8 (Φ:EP) (L0:SP) (s:St):Prop:=
 I 4 0 s fun s=>
 @sLoop s ⟨fun L1 s=>W125_l7 Φ L0 L1 s⟩
def W125_b26 (Φ:EP) (L0:SP) (s:St):Prop:=
 M 18 3 s fun s=>
 @sOp (some 19) (xSix (.str ⟨#[32,118,97,114,32,115,116,97,99,107,32,112,114,111,99,32,115,107,105,112,32,100,111,32,112,117,115,104,32,114,101,118,101,114,115,101,32,97,99,99,101,112,116,32,109,101,114,103,101,32,98,108,111,99,107,32,101,120,105,116,32,105,102,32,101,108,115,101,32,99,104,111,111,115,101,32,112,97,114,32,99,97,108,108,32]⟩) (s.τ 18) s.H) s<|.mk fun s=>
 @sOp (some 20) (xBin .eql false (s.τ 19) (.int .u8 32) s.H) s<|.mk fun s=>
 M 21 20 s fun s=>
 gm 22 3 21 true s fun s=>
 gm 23 0 21 true s fun s=>
 go 24 21 true s (fun s=>(xSlen (s.τ 23) s.H)) fun s=>
 go 25 21 true s (fun s=>(xBin .add false (s.τ 22) (s.τ 24) s.H)) fun s=>
 go 26 21 true s (fun s=>(xBin .add false (s.τ 25) (.int .i64 1) s.H)) fun s=>
 go 27 21 true s (fun s=>(xSix (.str ⟨#[32,118,97,114,32,115,116,97,99,107,32,112,114,111,99,32,115,107,105,112,32,100,111,32,112,117,115,104,32,114,101,118,101,114,115,101,32,97,99,99,101,112,116,32,109,101,114,103,101,32,98,108,111,99,107,32,101,120,105,116,32,105,102,32,101,108,115,101,32,99,104,111,111,115,101,32,112,97,114,32,99,97,108,108,32]⟩) (s.τ 26) s.H)) fun s=>
 go 28 21 true s (fun s=>(xBin .eql false (s.τ 27) (.int .u8 32) s.H)) fun s=>
 A 29 21 28 s fun s=>
 M 30 29 s fun s=>
 gm 31 3 30 true s fun s=>
 go 32 30 true s (fun s=>(xBin .add false (s.τ 31) (.int .i64 1) s.H)) fun s=>
 gm 33 3 30 true s fun s=>
 go 34 30 true s (fun s=>(xBin .add false (s.τ 33) (.int .i64 1) s.H)) fun s=>
 gm 35 0 30 true s fun s=>
 go 36 30 true s (fun s=>(xSlen (s.τ 35) s.H)) fun s=>
 go 37 30 true s (fun s=>(xBin .add false (s.τ 34) (s.τ 36) s.H)) fun s=>
 go 38 30 true s (fun s=>(xSsl (.str ⟨#[32,118,97,114,32,115,116,97,99,107,32,112,114,111,99,32,115,107,105,112,32,100,111,32,112,117,115,104,32,114,101,118,101,114,115,101,32,97,99,99,101,112,116,32,109,101,114,103,101,32,98,108,111,99,107,32,101,120,105,116,32,105,102,32,101,108,115,101,32,99,104,111,111,115,101,32,112,97,114,32,99,97,108,108,32]⟩) (some (s.τ 32)) (some (s.τ 37)) s.H)) fun s=>
 gm 39 0 30 true s fun s=>
 go 40 30 true s (fun s=>(xBin .eql false (s.τ 38) (s.τ 39) s.H)) fun s=>
 A 41 30 40 s fun s=>
 If 41 s (W125_b8 Φ L0 s) (W125_k2 Φ L0 s)
def W125_l30 (Φ:EP) (L0:SP) (s:St):Prop:=
 M 5 3 s fun s=>
 M 6 0 s fun s=>
 @sOp (some 7) (xSlen (s.τ 6) s.H) s<|.mk fun s=>
 B 8 .add false 5 7 s fun s=>
 J 9 .add false 8 2 s fun s=>
 J 10 .leq false 9 85 s fun s=>
 M 11 10 s fun s=>
 gm 12 0 11 true s fun s=>
 go 13 11 true s (fun s=>(xSlen (s.τ 12) s.H)) fun s=>
 go 14 11 true s (fun s=>(xBin .gtr false (s.τ 13) (.int .i64 0) s.H)) fun s=>
 A 15 11 14 s fun s=>
 If 15 s (W125_b26 Φ L0 s) (W125_k1 Φ s)
def W125 (Φ:EP) (s:St):Prop:=
 V 2 false s fun s=>
 I 3 0 s fun s=>
 @sLoop s ⟨fun L0 s=>W125_l30 Φ L0 s⟩
theorem W125_rs (τ:Nat → AV) (H:Heap):resV Tryz.prog τ H [.tmp 2] = some (τ 2):=by kernel_rfl
theorem W125_eq:EqW Tryz.prog Tryz.f125 W125:=fun _ _=>by kernel_rfl
theorem W125_S:SpW Tryz.prog 125 52 [.tmp 2] W125:=spW Tryz.func125 Tryz.ntmps125 W125_eq
-- 126 "penance/penanceref1.word"
def W126 (Φ:EP) (s:St):Prop:=
 V 4 false s fun s=>
 M 5 0 s fun s=>
 @sOp (some 6) (xBin .geq false (s.τ 5) (.int .u8 97) s.H) s<|.mk fun s=>
 M 7 6 s fun s=>
 gm 8 0 7 true s fun s=>
 go 9 7 true s (fun s=>(xBin .leq false (s.τ 8) (.int .u8 122) s.H)) fun s=>
 A 10 7 9 s fun s=>
 M 11 10 s fun s=>
 gm 12 1 11 false s fun s=>
 go 13 11 false s (fun s=>(xNot (s.τ 12) s.H)) fun s=>
 gm 14 13 11 false s fun s=>
 gm 15 0 14 true s fun s=>
 go 16 14 true s (fun s=>(xBin .geq false (s.τ 15) (.int .u8 48) s.H)) fun s=>
 gm 17 16 14 true s fun s=>
 gm 18 0 17 true s fun s=>
 go 19 17 true s (fun s=>(xBin .leq false (s.τ 18) (.int .u8 57) s.H)) fun s=>
 go 20 14 true s (fun s=>(xPick (s.τ 17) (s.τ 19) (.bool false) s.H)) fun s=>
 gm 21 20 14 true s fun s=>
 gm 22 0 21 false s fun s=>
 go 23 21 false s (fun s=>(xBin .eql false (s.τ 22) (.int .u8 95) s.H)) fun s=>
 go 24 14 true s (fun s=>(xPick (s.τ 21) (.bool true) (s.τ 23) s.H)) fun s=>
 go 25 11 false s (fun s=>(xPick (s.τ 14) (s.τ 24) (.bool false) s.H)) fun s=>
 O 26 11 25 s fun s=>
 M 4 26 s fun s=>
 Φ .ret s
theorem W126_rs (τ:Nat → AV) (H:Heap):resV Tryz.prog τ H [.tmp 4] = some (τ 4):=by kernel_rfl
theorem W126_eq:EqW Tryz.prog Tryz.f126 W126:=fun _ _=>by kernel_rfl
theorem W126_S:SpW Tryz.prog 126 27 [.tmp 4] W126:=spW Tryz.func126 Tryz.ntmps126 W126_eq
-- 127 "penance/penanceref4.settle"
def W127_k1 (Φ:EP) (s:St):Prop:=
 M 98 5 s fun s=>
 M 2 98 s fun s=>
 Φ .ret s
def W127_k2 (Φ:EP) (L0:SP) (L1:SP) (s:St):Prop:=
 M 29 7 s fun s=>
 J 30 .add false 29 1 s fun s=>
 M 7 30 s fun s=>
 L1 s
def W127_b5 (Φ:EP) (L0:SP) (L1:SP) (s:St):Prop:=
 M 66 5 s fun s=>
 @sOp (some 67) (xNil (s.τ 66) s.H) s<|.mk fun s=>
 F 68 1 67 s fun s=>
 L 69 1 68 false s fun s=>
 M 70 7 s fun s=>
 M 71 5 s fun s=>
 @sOp (some 72) (xNil (s.τ 71) s.H) s<|.mk fun s=>
 F 73 2 72 s fun s=>
 L 74 1 73 false s fun s=>
 M 75 7 s fun s=>
 M 76 5 s fun s=>
 @sOp (some 77) (xNil (s.τ 76) s.H) s<|.mk fun s=>
 F 78 1 77 s fun s=>
 L 79 1 78 false s fun s=>
 M 80 7 s fun s=>
 X 81 1 79 80 s fun s=>
 L 82 1 81 false s fun s=>
 M 83 82 s fun s=>
 gm 84 8 83 false s fun s=>
 O 85 83 84 s fun s=>
 M 86 5 s fun s=>
 @sOp (some 87) (xNil (s.τ 86) s.H) s<|.mk fun s=>
 F 88 2 87 s fun s=>
 L 89 1 88 false s fun s=>
 M 90 7 s fun s=>
 X 91 1 89 90 s fun s=>
 L 92 1 91 false s fun s=>
 M 93 92 s fun s=>
 gm 94 9 93 false s fun s=>
 O 95 93 94 s fun s=>
 X 96 1 69 70 s fun s=>
 U 1 96 85 s fun s=>
 X 97 1 74 75 s fun s=>
 U 1 97 95 s fun s=>
 V 6 true s fun s=>
 W127_k2 Φ L0 L1 s
def W127_b26 (Φ:EP) (L0:SP) (L1:SP) (s:St):Prop:=
 M 32 5 s fun s=>
 F 33 2 1 s fun s=>
 L 34 1 33 false s fun s=>
 M 35 7 s fun s=>
 X 36 9 34 35 s fun s=>
 F 37 1 36 s fun s=>
 L 38 8 37 true s fun s=>
 Ca Tryz.prog 142 [(s.τ 32),(s.τ 38)] 39 s fun s=>
 M 31 39 s fun s=>
 E 40 31 0 s fun s=>
 E 41 31 1 s fun s=>
 M 8 40 s fun s=>
 M 9 41 s fun s=>
 M 42 8 s fun s=>
 M 43 42 s fun s=>
 gm 44 5 43 true s fun s=>
 go 45 43 true s (fun s=>(xNil (s.τ 44) s.H)) fun s=>
 gf 46 1 45 43 true s fun s=>
 gl 47 1 46 43 false true s fun s=>
 gm 48 7 43 true s fun s=>
 go 49 43 true s (fun s=>(xIx 1 (s.τ 47) (s.τ 48) s.H)) fun s=>
 gl 50 1 49 43 false true s fun s=>
 go 51 43 true s (fun s=>(xNot (s.τ 50) s.H)) fun s=>
 A 52 43 51 s fun s=>
 M 53 52 s fun s=>
 gm 54 9 53 false s fun s=>
 gm 55 54 53 false s fun s=>
 gm 56 5 55 true s fun s=>
 go 57 55 true s (fun s=>(xNil (s.τ 56) s.H)) fun s=>
 gf 58 2 57 55 true s fun s=>
 gl 59 1 58 55 false true s fun s=>
 gm 60 7 55 true s fun s=>
 go 61 55 true s (fun s=>(xIx 1 (s.τ 59) (s.τ 60) s.H)) fun s=>
 gl 62 1 61 55 false true s fun s=>
 go 63 55 true s (fun s=>(xNot (s.τ 62) s.H)) fun s=>
 go 64 53 false s (fun s=>(xPick (s.τ 55) (s.τ 63) (.bool false) s.H)) fun s=>
 O 65 53 64 s fun s=>
 If 65 s (W127_b5 Φ L0 L1 s) (W127_k2 Φ L0 L1 s)
def W127_l27 (Φ:EP) (L0:SP) (L1:SP) (s:St):Prop:=
 M 25 7 s fun s=>
 M 26 4 s fun s=>
 N 27 26 s fun s=>
 B 28 .lss false 25 27 s fun s=>
 If 28 s (W127_b26 Φ L0 L1 s) (L0 s)
def W127_b28 (Φ:EP) (L0:SP) (s:St):Prop:=
 V 6 false s fun s=>
 I 7 0 s fun s=>
 @sLoop s ⟨fun L1 s=>W127_l27 Φ L0 L1 s⟩
def W127_l29 (Φ:EP) (L0:SP) (s:St):Prop:=
 M 24 6 s fun s=>
 If 24 s (W127_b28 Φ L0 s) (W127_k1 Φ s)
def W127 (Φ:EP) (s:St):Prop:=
 Y 1 76 0 s fun s=>
 @sOp (some 2) (xMov (.nilp) s.H) s<|.mk fun s=>
 L 11 3 1 true s fun s=>
 Ca Tryz.prog 65 [(s.τ 11)] 12 s fun s=>
 M 10 12 s fun s=>
 E 13 10 0 s fun s=>
 E 14 10 1 s fun s=>
 M 3 13 s fun s=>
 M 4 14 s fun s=>
 M 15 4 s fun u1=>
 M 16 4 u1 fun u2=>
 N 17 16 u2 fun u3=>
 @sOp (some 18) (xMks 18 4 1 1 [.bool false] (u3.τ 17) (u3.τ 17) u3.H) u3<|.mk fun u4=>
 M 19 4 u4 fun u5=>
 @sChk (compat ([18],[18]) (occ (u5.τ 19),[])) <| .mk <|
 N 20 19 u5 fun u6=>
 k1 (u2.τ 16) 21 <|
 k2 ([18],[18]) 21 <|
 @sOp (some 21) (xMks 21 4 1 1 [.bool false] (u6.τ 20) (u6.τ 20) u6.H) u6<|.mk fun u7=>
 Bd 22 [.nils,.nils,.nils] [(0,1,(u7.τ 15)),(1,1,(u7.τ 18)),(2,1,(u7.τ 21))] u7 fun u8=>
 Y 23 180 22 u8 fun u9=>
 M 5 23 u9 fun s=>
 V 6 true s fun s=>
 @sLoop s ⟨fun L0 s=>W127_l29 Φ L0 s⟩
theorem W127_rs (τ:Nat → AV) (H:Heap):resV Tryz.prog τ H [.tmp 2] = some (τ 2):=by kernel_rfl
theorem W127_eq:EqW Tryz.prog Tryz.f127 W127:=fun _ _=>by kernel_rfl
theorem W127_S:SpW Tryz.prog 127 99 [.tmp 2] W127:=spW Tryz.func127 Tryz.ntmps127 W127_eq
-- 128 "(*penance/penanceref4.may).front"
def W128_b1 (Φ:EP) (s:St):Prop:=
 M 38 2 s fun s=>
 M 39 6 s fun s=>
 X 40 1 38 39 s fun s=>
 @sOp none (xStore 1 (s.τ 40) (.bool true) s.H) s<|.mk fun s=>
 Φ .normal s
def W128_b3 (Φ:EP) (s:St):Prop:=
 M 29 0 s fun s=>
 @sOp (some 30) (xNil (s.τ 29) s.H) s<|.mk fun s=>
 F 31 0 30 s fun s=>
 L 32 1 31 false s fun s=>
 F 33 1 4 s fun s=>
 L 34 1 33 false s fun s=>
 C0 Tryz.prog 67 [(s.τ 32),(s.τ 34)] 35 s fun s=>
 M 6 35 s fun s=>
 M 36 6 s fun s=>
 J 37 .geq false 36 0 s fun s=>
 @sIf (s.τ 37) ⟨W128_b1 Φ s⟩ ⟨Φ .normal s⟩
def W128_b5 (Φ:EP) (s:St):Prop:=
 M 60 0 s fun s=>
 F 61 7 4 s fun s=>
 L 62 1 61 false s fun s=>
 @sOp (some 63) (xIx 8 (s.τ 62) (.int .i64 1) s.H) s<|.mk fun s=>
 L 64 8 63 true s fun s=>
 M 65 2 s fun s=>
 Ca Tryz.prog 128 [(s.τ 60),(s.τ 64),(s.τ 65)] 66 s fun s=>
 Φ .normal s
def W128_b8 (Φ:EP) (s:St):Prop:=
 M 43 0 s fun s=>
 F 44 7 4 s fun s=>
 L 45 1 44 false s fun s=>
 @sOp (some 46) (xIx 8 (s.τ 45) (.int .i64 0) s.H) s<|.mk fun s=>
 L 47 8 46 true s fun s=>
 M 48 2 s fun s=>
 Ca Tryz.prog 128 [(s.τ 43),(s.τ 47),(s.τ 48)] 49 s fun s=>
 M 51 0 s fun s=>
 F 52 7 4 s fun s=>
 L 53 1 52 false s fun s=>
 @sOp (some 54) (xIx 8 (s.τ 53) (.int .i64 0) s.H) s<|.mk fun s=>
 L 55 8 54 true s fun s=>
 Ca Tryz.prog 142 [(s.τ 51),(s.τ 55)] 56 s fun s=>
 M 50 56 s fun s=>
 E 57 50 0 s fun s=>
 E 58 50 1 s fun s=>
 M 7 57 s fun s=>
 M 8 58 s fun s=>
 M 59 7 s fun s=>
 @sIf (s.τ 59) ⟨W128_b5 Φ s⟩ ⟨Φ .normal s⟩
def W128_b10 (Φ:EP) (L0:SP) (s:St):Prop:=
 M 19 0 s fun s=>
 F 20 7 4 s fun s=>
 L 21 1 20 false s fun s=>
 M 22 9 s fun s=>
 X 23 8 21 22 s fun s=>
 L 24 8 23 true s fun s=>
 M 25 2 s fun s=>
 Ca Tryz.prog 128 [(s.τ 19),(s.τ 24),(s.τ 25)] 26 s fun s=>
 M 17 9 s fun s=>
 J 18 .add false 17 1 s fun s=>
 M 9 18 s fun s=>
 L0 s
def W128_l11 (Φ:EP) (L0:SP) (s:St):Prop:=
 M 12 9 s fun s=>
 F 13 7 4 s fun s=>
 L 14 1 13 false s fun s=>
 N 15 14 s fun s=>
 B 16 .lss false 12 15 s fun s=>
 @sIf (s.τ 16) ⟨W128_b10 Φ L0 s⟩ ⟨Φ .normal s⟩
def W128_b12 (Φ:EP) (s:St):Prop:=
 I 9 0 s fun s=>
 @sLoop s ⟨fun L0 s=>W128_l11 Φ L0 s⟩
def W128_b13 (Φ:EP) (s:St):Prop:=
 J 42 .eql false 11 12 s fun s=>
 M 41 42 s fun s=>
 If 41 s (W128_b8 Φ s) (W128_b12 Φ s)
def W128 (Φ:EP) (s:St):Prop:=
 Y 4 80 1 s fun s=>
 F 10 0 4 s fun s=>
 L 11 1 10 false s fun s=>
 J 28 .eql false 11 13 s fun s=>
 M 27 28 s fun s=>
 If 27 s (W128_b3 Φ s) (W128_b13 Φ s)
theorem W128_rs (τ:Nat → AV) (H:Heap):resV Tryz.prog τ H [] = ob (some []) fun vs=>some (.tup vs):=by kernel_rfl
theorem W128_eq:EqW Tryz.prog Tryz.f128 W128:=fun _ _=>by kernel_rfl
theorem W128_S:SpW Tryz.prog 128 67 [] W128:=spW Tryz.func128 Tryz.ntmps128 W128_eq
-- 129 "(penance/penancelaw2.Raw).Make"
def W129_b2 (Φ:EP) (s:St):Prop:=
 Lt 23 1 8 [.int .i64 0] [(0,(.int .i64 0)),(1,(.int .i64 1)),(2,(.int .i64 2)),(3,(.int .i64 7)),(4,(.int .i64 99)),(5,(.int .i64 999999999999999999)),(6,(.int .i64 5)),(7,(.int .i64 3))] s fun s=>
 F 24 1 2 s fun s=>
 L 25 1 24 false s fun s=>
 Ca Tryz.prog 143 [(s.τ 25),(.int .i64 8)] 26 s fun s=>
 X 27 1 23 26 s fun s=>
 L 28 1 27 false s fun s=>
 Bd 29 z4 [(0,1,(.int .i64 1)),(1,1,(s.τ 28))] s fun s=>
 U 4 4 29 s fun s=>
 Φ .ret s
def W129_b4 (Φ:EP) (s:St):Prop:=
 M 38 1 s fun s=>
 F 39 1 2 s fun s=>
 L 40 1 39 false s fun s=>
 M 41 1 s fun s=>
 N 42 41 s fun s=>
 Ca Tryz.prog 143 [(s.τ 40),(s.τ 42)] 43 s fun s=>
 X 44 1 38 43 s fun s=>
 L 45 1 44 false s fun s=>
 Bd 46 z4 [(0,1,(.int .i64 2)),(2,1,(s.τ 45))] s fun s=>
 U 4 4 46 s fun s=>
 Φ .ret s
def W129_b6 (Φ:EP) (s:St):Prop:=
 F 50 1 2 s fun s=>
 L 51 1 50 false s fun s=>
 Ca Tryz.prog 143 [(s.τ 51),(.int .i64 3)] 52 s fun s=>
 Bd 53 z4 [(0,1,(.int .i64 2)),(1,1,(s.τ 52))] s fun s=>
 U 4 4 53 s fun s=>
 Φ .ret s
def W129_b8 (Φ:EP) (s:St):Prop:=
 L 57 3 2 true s fun s=>
 M 58 1 s fun s=>
 Ca Tryz.prog 144 [(s.τ 57),(.int .i64 0),(s.τ 58)] 59 s fun s=>
 Lt 60 4 1 z4 [(0,(s.τ 59))] s fun s=>
 Bd 61 z4 [(0,1,(.int .i64 3)),(3,1,(s.τ 60))] s fun s=>
 U 4 4 61 s fun s=>
 Φ .ret s
def W129_b10 (Φ:EP) (s:St):Prop:=
 L 65 3 2 true s fun s=>
 M 66 1 s fun s=>
 Ca Tryz.prog 144 [(s.τ 65),(.int .i64 0),(s.τ 66)] 67 s fun s=>
 Lt 68 4 1 z4 [(0,(s.τ 67))] s fun s=>
 Bd 69 z4 [(0,1,(.int .i64 4)),(3,1,(s.τ 68))] s fun s=>
 U 4 4 69 s fun s=>
 Φ .ret s
def W129_b13 (Φ:EP) (s:St):Prop:=
 M 9 5 s fun u1=>
 @sOp (some 10) (xBin .add false (.int .i64 5) (u1.τ 9) u1.H) u1<|.mk fun u2=>
 J 11 .sub false 10 11 u2 fun u3=>
 L 12 3 2 true u3 fun u4=>
 M 13 1 u4 fun u5=>
 C0 Tryz.prog 144 [(u5.τ 12),(.int .i64 0),(u5.τ 13)] 14 u5 fun u6=>
 @sChk (compat (cfp 14 144 [(u5.τ 12),(.int .i64 0),(u5.τ 13)]) (occ (u6.τ 2),[])) <| .mk <|
 L 15 3 2 true u6 fun u7=>
 M 16 1 u7 fun u8=>
 C0 Tryz.prog 144 [(u8.τ 15),(.int .i64 1),(u8.τ 16)] 17 u8 fun u9=>
 Lt 18 4 2 z4 [(0,(u9.τ 14)),(1,(u9.τ 17))] u9 fun u10=>
 Bd 19 z4 [(0,1,(u10.τ 11)),(3,1,(u10.τ 18))] u10 fun u11=>
 U 4 4 19 u11 fun s=>
 Φ .ret s
def W129_b14 (Φ:EP) (s:St):Prop:=
 M 63 5 s fun s=>
 J 64 .eql false 63 10 s fun s=>
 M 62 64 s fun s=>
 If 62 s (W129_b10 Φ s) (W129_b13 Φ s)
def W129_b15 (Φ:EP) (s:St):Prop:=
 M 55 5 s fun s=>
 J 56 .eql false 55 9 s fun s=>
 M 54 56 s fun s=>
 If 54 s (W129_b8 Φ s) (W129_b14 Φ s)
def W129_b16 (Φ:EP) (s:St):Prop:=
 M 48 5 s fun s=>
 J 49 .lss false 48 9 s fun s=>
 M 47 49 s fun s=>
 If 47 s (W129_b6 Φ s) (W129_b15 Φ s)
def W129_b20 (Φ:EP) (s:St):Prop:=
 M 31 5 s fun s=>
 J 32 .lss false 31 9 s fun s=>
 M 33 32 s fun s=>
 gm 34 1 33 true s fun s=>
 go 35 33 true s (fun s=>(xLen (s.τ 34) s.H)) fun s=>
 go 36 33 true s (fun s=>(xBin .gtr false (s.τ 35) (.int .i64 0) s.H)) fun s=>
 A 37 33 36 s fun s=>
 M 30 37 s fun s=>
 If 30 s (W129_b4 Φ s) (W129_b16 Φ s)
def W129 (Φ:EP) (s:St):Prop:=
 Y 2 176 0 s fun s=>
 Z 4 33 z4 s fun s=>
 F 6 0 2 s fun s=>
 L 7 1 6 false s fun s=>
 Ca Tryz.prog 143 [(s.τ 7),(.int .i64 24)] 8 s fun s=>
 M 5 8 s fun s=>
 M 21 5 s fun s=>
 J 22 .lss false 21 4 s fun s=>
 M 20 22 s fun s=>
 If 20 s (W129_b2 Φ s) (W129_b20 Φ s)
theorem W129_rs (τ:Nat → AV) (H:Heap):resV Tryz.prog τ H [.cell 4 33] = rdV H 4 true (τ 4):=by kernel_rfl
theorem W129_eq:EqW Tryz.prog Tryz.f129 W129:=fun _ _=>by kernel_rfl
theorem W129_S:SpW Tryz.prog 129 70 [.cell 4 33] W129:=spW Tryz.func129 Tryz.ntmps129 W129_eq
-- 130 "slices.Clone[[]penance/api.Expr,penance/api.Expr]"
def W130_b1 (Φ:EP) (s:St):Prop:=
 @sOp (some 2) (xMov (.nils) s.H) s<|.mk fun s=>
 Φ .ret s
def W130_b2 (Φ:EP) (s:St):Prop:=
 @sOp (some 5) (xRow 5 33 4 0 z4 [] s.H) s<|.mk fun s=>
 M 6 0 s fun s=>
 @sOp (some 7) (xApp Tryz.prog 33 4 56 (some 7) (s.τ 5) (s.τ 6) s.H) s<|.mk fun s=>
 M 2 7 s fun s=>
 Φ .ret s
def W130 (Φ:EP) (s:St):Prop:=
 @sOp (some 2) (xMov (.nils) s.H) s<|.mk fun s=>
 M 3 0 s fun s=>
 @sNil false (s.τ 3) (some 4) s<|.mk fun s=>
 If 4 s (W130_b1 Φ s) (W130_b2 Φ s)
theorem W130_rs (τ:Nat → AV) (H:Heap):resV Tryz.prog τ H [.tmp 2] = some (τ 2):=by kernel_rfl
theorem W130_eq:EqW Tryz.prog Tryz.f130 W130:=fun _ _=>by kernel_rfl
theorem W130_S:SpW Tryz.prog 130 8 [.tmp 2] W130:=spW Tryz.func130 Tryz.ntmps130 W130_eq
-- 131 "slices.Clone[[][]penance/api.Term,[]penance/api.Term]"
def W131_b1 (Φ:EP) (s:St):Prop:=
 @sOp (some 2) (xMov (.nils) s.H) s<|.mk fun s=>
 Φ .ret s
def W131_b2 (Φ:EP) (s:St):Prop:=
 @sLit (some 5) (xRow 5 27 1 0 [.nils] [] s.H) (xLitR 1 0 [.nils] [] s.H) s<|.mk fun s=>
 M 6 0 s fun s=>
 @sOp (some 7) (xApp Tryz.prog 27 1 24 (some 7) (s.τ 5) (s.τ 6) s.H) s<|.mk fun s=>
 M 2 7 s fun s=>
 Φ .ret s
def W131 (Φ:EP) (s:St):Prop:=
 @sOp (some 2) (xMov (.nils) s.H) s<|.mk fun s=>
 M 3 0 s fun s=>
 @sNil false (s.τ 3) (some 4) s<|.mk fun s=>
 If 4 s (W131_b1 Φ s) (W131_b2 Φ s)
theorem W131_rs (τ:Nat → AV) (H:Heap):resV Tryz.prog τ H [.tmp 2] = some (τ 2):=by kernel_rfl
theorem W131_eq:EqW Tryz.prog Tryz.f131 W131:=fun _ _=>by kernel_rfl
theorem W131_S:SpW Tryz.prog 131 8 [.tmp 2] W131:=spW Tryz.func131 Tryz.ntmps131 W131_eq
-- 132 "penance/lex.Key"
def W132 (Φ:EP) (s:St):Prop:=
 V 2 false s fun s=>
 Ca Tryz.prog 146 [] 3 s fun s=>
 M 4 0 s fun s=>
 Ca Tryz.prog 145 [(s.τ 3),(s.τ 4)] 5 s fun s=>
 M 2 5 s fun s=>
 Φ .ret s
theorem W132_rs (τ:Nat → AV) (H:Heap):resV Tryz.prog τ H [.tmp 2] = some (τ 2):=by kernel_rfl
theorem W132_eq:EqW Tryz.prog Tryz.f132 W132:=fun _ _=>by kernel_rfl
theorem W132_S:SpW Tryz.prog 132 6 [.tmp 2] W132:=spW Tryz.func132 Tryz.ntmps132 W132_eq
-- 133 "penance/lex.small"
def W133 (Φ:EP) (s:St):Prop:=
 V 2 false s fun s=>
 M 3 0 s fun s=>
 @sOp (some 4) (xBin .geq false (s.τ 3) (.int .u8 97) s.H) s<|.mk fun s=>
 M 5 4 s fun s=>
 gm 6 0 5 true s fun s=>
 go 7 5 true s (fun s=>(xBin .leq false (s.τ 6) (.int .u8 122) s.H)) fun s=>
 A 8 5 7 s fun s=>
 M 2 8 s fun s=>
 Φ .ret s
theorem W133_rs (τ:Nat → AV) (H:Heap):resV Tryz.prog τ H [.tmp 2] = some (τ 2):=by kernel_rfl
theorem W133_eq:EqW Tryz.prog Tryz.f133 W133:=fun _ _=>by kernel_rfl
theorem W133_S:SpW Tryz.prog 133 9 [.tmp 2] W133:=spW Tryz.func133 Tryz.ntmps133 W133_eq
-- 134 "penance/lex.inner"
def W134 (Φ:EP) (s:St):Prop:=
 V 2 false s fun s=>
 M 3 0 s fun s=>
 Ca Tryz.prog 133 [(s.τ 3)] 4 s fun s=>
 M 5 4 s fun s=>
 gm 6 0 5 false s fun s=>
 @sGrd (guardOf (s.τ 5) false) (some 7) s ⟨fun s K=>@sCall Tryz.prog (.func 147 []) [(s.τ 6)] (some 7) s ⟨K⟩⟩<|.mk fun s=>
 O 8 5 7 s fun s=>
 M 9 8 s fun s=>
 gm 10 0 9 false s fun s=>
 go 11 9 false s (fun s=>(xBin .eql false (s.τ 10) (.int .u8 95) s.H)) fun s=>
 O 12 9 11 s fun s=>
 M 2 12 s fun s=>
 Φ .ret s
theorem W134_rs (τ:Nat → AV) (H:Heap):resV Tryz.prog τ H [.tmp 2] = some (τ 2):=by kernel_rfl
theorem W134_eq:EqW Tryz.prog Tryz.f134 W134:=fun _ _=>by kernel_rfl
theorem W134_S:SpW Tryz.prog 134 13 [.tmp 2] W134:=spW Tryz.func134 Tryz.ntmps134 W134_eq
-- 135 "penance/expr.all"
def W135 (Φ:EP) (s:St):Prop:=
 Y 1 33 0 s fun s=>
 @sOp (some 2) (xMov (.nilf) s.H) s<|.mk fun s=>
 @sOp (some 3) (xMkf 148 [(s.τ 1)] s.H) s<|.mk fun s=>
 M 2 3 s fun s=>
 Φ .ret s
theorem W135_rs (τ:Nat → AV) (H:Heap):resV Tryz.prog τ H [.tmp 2] = some (τ 2):=by kernel_rfl
theorem W135_eq:EqW Tryz.prog Tryz.f135 W135:=fun _ _=>by kernel_rfl
theorem W135_S:SpW Tryz.prog 135 4 [.tmp 2] W135:=spW Tryz.func135 Tryz.ntmps135 W135_eq
-- 136 "penance/expr.children"
def W136_b1 (Φ:EP) (s:St):Prop:=
 I 2 0 s fun s=>
 Φ .ret s
def W136_b2 (Φ:EP) (s:St):Prop:=
 I 2 1 s fun s=>
 Φ .ret s
def W136_b3 (Φ:EP) (s:St):Prop:=
 I 2 2 s fun s=>
 Φ .ret s
def W136_b6 (Φ:EP) (s:St):Prop:=
 M 11 0 s fun s=>
 J 12 .eql false 11 3 s fun s=>
 M 13 12 s fun s=>
 gm 14 0 13 false s fun s=>
 go 15 13 false s (fun s=>(xBin .eql false (s.τ 14) (.int .i64 4) s.H)) fun s=>
 O 16 13 15 s fun s=>
 M 10 16 s fun s=>
 If 10 s (W136_b2 Φ s) (W136_b3 Φ s)
def W136 (Φ:EP) (s:St):Prop:=
 I 2 0 s fun s=>
 M 4 0 s fun s=>
 J 5 .eql false 4 1 s fun s=>
 M 6 5 s fun s=>
 gm 7 0 6 false s fun s=>
 go 8 6 false s (fun s=>(xBin .eql false (s.τ 7) (.int .i64 2) s.H)) fun s=>
 O 9 6 8 s fun s=>
 M 3 9 s fun s=>
 If 3 s (W136_b1 Φ s) (W136_b6 Φ s)
theorem W136_rs (τ:Nat → AV) (H:Heap):resV Tryz.prog τ H [.tmp 2] = some (τ 2):=by kernel_rfl
theorem W136_eq:EqW Tryz.prog Tryz.f136 W136:=fun _ _=>by kernel_rfl
theorem W136_S:SpW Tryz.prog 136 17 [.tmp 2] W136:=spW Tryz.func136 Tryz.ntmps136 W136_eq
-- 137 "(penance/steps.place).below"
def W137_k1 (Φ:EP) (s:St):Prop:=
 L 31 11 5 true s fun s=>
 U 11 4 31 s fun s=>
 Φ .ret s
def W137_b3 (Φ:EP) (s:St):Prop:=
 F 25 0 5 s fun s=>
 L 26 9 25 true s fun s=>
 Ca Tryz.prog 114 [(s.τ 26)] 27 s fun s=>
 N 28 27 s fun s=>
 J 29 .gtr false 28 0 s fun s=>
 F 30 10 5 s fun s=>
 U 1 30 29 s fun s=>
 W137_k1 Φ s
def W137 (Φ:EP) (s:St):Prop:=
 Y 2 140 0 s fun s=>
 Z 4 140 [.int .i64 0,.int .i64 0,.int .i64 0,.str ⟨#[]⟩,.int .i64 0,.int .i64 0,.str ⟨#[]⟩,.nils,.nils,.nils,.bool false] s fun s=>
 F 6 0 2 s fun u1=>
 F 7 8 6 u1 fun u2=>
 L 8 1 7 false u2 fun u3=>
 M 9 1 u3 fun u4=>
 X 10 9 8 9 u4 fun u5=>
 L 11 9 10 true u5 fun u6=>
 F 12 9 2 u6 fun u7=>
 L 13 1 12 false u7 fun u8=>
 k3 (s.τ 2) (cfp 14 33 [(u8.τ 13)]) <|
 k3 (u1.τ 6) (cfp 14 33 [(u8.τ 13)]) <|
 k3 (u2.τ 7) (cfp 14 33 [(u8.τ 13)]) <|
 k3 (u4.τ 8) (cfp 14 33 [(u8.τ 13)]) <|
 k3 (u5.τ 10) (cfp 14 33 [(u8.τ 13)]) <|
 C0 Tryz.prog 33 [(u8.τ 13)] 14 u8 fun u9=>
 M 15 1 u9 fun u10=>
 k3 (s.τ 2) ([16] ++ occL [(u10.τ 15)],[16] ++ occL [(u10.τ 15)]) <|
 k3 (u1.τ 6) ([16] ++ occL [(u10.τ 15)],[16] ++ occL [(u10.τ 15)]) <|
 k3 (u2.τ 7) ([16] ++ occL [(u10.τ 15)],[16] ++ occL [(u10.τ 15)]) <|
 k3 (u4.τ 8) ([16] ++ occL [(u10.τ 15)],[16] ++ occL [(u10.τ 15)]) <|
 k3 (u5.τ 10) ([16] ++ occL [(u10.τ 15)],[16] ++ occL [(u10.τ 15)]) <|
 k3 (u6.τ 2) ([16] ++ occL [(u10.τ 15)],[16] ++ occL [(u10.τ 15)]) <|
 k3 (u7.τ 12) ([16] ++ occL [(u10.τ 15)],[16] ++ occL [(u10.τ 15)]) <|
 @sChk (compat (cfp 14 33 [(u8.τ 13)]) ([16] ++ occL [(u10.τ 15)],[16] ++ occL [(u10.τ 15)])) <| .mk <|
 Lt 16 1 1 [.int .i64 0] [(0,(u10.τ 15))] u10 fun u11=>
 k3 (s.τ 2) ([17] ++ (occ (u11.τ 14) ++ occ (u11.τ 16)),[17] ++ occ (u11.τ 14)) <|
 k3 (u1.τ 6) ([17] ++ (occ (u11.τ 14) ++ occ (u11.τ 16)),[17] ++ occ (u11.τ 14)) <|
 k3 (u2.τ 7) ([17] ++ (occ (u11.τ 14) ++ occ (u11.τ 16)),[17] ++ occ (u11.τ 14)) <|
 k3 (u4.τ 8) ([17] ++ (occ (u11.τ 14) ++ occ (u11.τ 16)),[17] ++ occ (u11.τ 14)) <|
 k3 (u5.τ 10) ([17] ++ (occ (u11.τ 14) ++ occ (u11.τ 16)),[17] ++ occ (u11.τ 14)) <|
 @sOp (some 17) (xApp Tryz.prog 3 1 8 (some 17) (u11.τ 14) (u11.τ 16) u11.H) u11<|.mk fun u12=>
 @sChk (compat (cfp 14 33 [(u8.τ 13)]) (occ (u12.τ 2),[])) <| .mk <|
 @sChk (compat ([16] ++ occL [(u10.τ 15)],[16] ++ occL [(u10.τ 15)]) (occ (u12.τ 2),[])) <| .mk <|
 @sChk (compat ([17] ++ (occ (u11.τ 14) ++ occ (u11.τ 16)),[17] ++ occ (u11.τ 14)) (occ (u12.τ 2),[])) <| .mk <|
 F 18 10 2 u12 fun u13=>
 @sChk (compat (cfp 14 33 [(u8.τ 13)]) (occ (u13.τ 18),[])) <| .mk <|
 @sChk (compat ([16] ++ occL [(u10.τ 15)],[16] ++ occL [(u10.τ 15)]) (occ (u13.τ 18),[])) <| .mk <|
 @sChk (compat ([17] ++ (occ (u11.τ 14) ++ occ (u11.τ 16)),[17] ++ occ (u11.τ 14)) (occ (u13.τ 18),[])) <| .mk <|
 L 19 1 18 false u13 fun u14=>
 Bd 20 [.int .i64 0,.int .i64 0,.int .i64 0,.str ⟨#[]⟩,.int .i64 0,.int .i64 0,.str ⟨#[]⟩,.nils,.nils,.nils,.bool false] [(0,9,(u14.τ 11)),(9,1,(u14.τ 17)),(10,1,(u14.τ 19))] u14 fun u15=>
 k1 (s.τ 2) 5 <|
 k1 (u1.τ 6) 5 <|
 k1 (u2.τ 7) 5 <|
 k1 (u4.τ 8) 5 <|
 k1 (u5.τ 10) 5 <|
 k1 (u6.τ 2) 5 <|
 k1 (u7.τ 12) 5 <|
 k2 (cfp 14 33 [(u8.τ 13)]) 5 <|
 k2 ([16] ++ occL [(u10.τ 15)],[16] ++ occL [(u10.τ 15)]) 5 <|
 k2 ([17] ++ (occ (u11.τ 14) ++ occ (u11.τ 16)),[17] ++ occ (u11.τ 14)) 5 <|
 k1 (u12.τ 2) 5 <|
 k1 (u13.τ 18) 5 <|
 Z 5 140 [.int .i64 0,.int .i64 0,.int .i64 0,.str ⟨#[]⟩,.int .i64 0,.int .i64 0,.str ⟨#[]⟩,.nils,.nils,.nils,.bool false] u15 fun u16=>
 U 11 5 20 u16 fun s=>
 F 21 0 2 s fun s=>
 F 22 0 21 s fun s=>
 L 23 1 22 false s fun s=>
 J 24 .eql false 23 7 s fun s=>
 If 24 s (W137_b3 Φ s) (W137_k1 Φ s)
theorem W137_rs (τ:Nat → AV) (H:Heap):resV Tryz.prog τ H [.cell 4 140] = rdV H 11 true (τ 4):=by kernel_rfl
theorem W137_eq:EqW Tryz.prog Tryz.f137 W137:=fun _ _=>by kernel_rfl
theorem W137_S:SpW Tryz.prog 137 32 [.cell 4 140] W137:=spW Tryz.func137 Tryz.ntmps137 W137_eq
-- 138 "penance/term.active"
def W138 (Φ:EP) (s:St):Prop:=
 Y 1 35 0 s fun s=>
 @sOp (some 2) (xMov (.nilf) s.H) s<|.mk fun s=>
 @sOp (some 3) (xMkf 150 [(s.τ 1)] s.H) s<|.mk fun s=>
 M 2 3 s fun s=>
 Φ .ret s
theorem W138_rs (τ:Nat → AV) (H:Heap):resV Tryz.prog τ H [.tmp 2] = some (τ 2):=by kernel_rfl
theorem W138_eq:EqW Tryz.prog Tryz.f138 W138:=fun _ _=>by kernel_rfl
theorem W138_S:SpW Tryz.prog 138 4 [.tmp 2] W138:=spW Tryz.func138 Tryz.ntmps138 W138_eq
-- 139 "penance/stacks.mapped[penance/api.Expr]"
def W139_k2 (Φ:EP) (s:St):Prop:=
 M 22 5 s fun s=>
 N 23 22 s fun s=>
 M 8 23 s fun s=>
 M 24 5 s fun s=>
 M 25 8 s fun s=>
 M 26 8 s fun s=>
 @sOp (some 27) (xSl3 4 (s.τ 24) (s.τ 25) (s.τ 26) (frz s.H (s.τ 24))) s<|.mk fun s=>
 Ca Tryz.prog 130 [(s.τ 27)] 28 s fun s=>
 M 4 28 s fun s=>
 Φ .ret s
def W139_b4 (Φ:EP) (L0:SP) (s:St):Prop:=
 X 13 4 9 11 s fun s=>
 L 14 4 13 true s fun s=>
 Z 7 33 z4 s fun s=>
 U 4 7 14 s fun s=>
 M 15 5 s fun s=>
 M 16 1 s fun s=>
 L 17 4 7 true s fun s=>
 @sCall Tryz.prog (s.τ 16) [(s.τ 17)] (some 18) s<|.mk fun s=>
 Lt 19 4 1 z4 [(0,(s.τ 18))] s fun s=>
 @sOp (some 20) (xApp Tryz.prog 33 4 56 (some 20) (s.τ 15) (s.τ 19) s.H) s<|.mk fun s=>
 M 5 20 s fun s=>
 J 21 .add false 11 1 s fun s=>
 M 11 21 s fun s=>
 L0 s
def W139_l5 (Φ:EP) (L0:SP) (s:St):Prop:=
 B 12 .lss false 11 10 s fun s=>
 If 12 s (W139_b4 Φ L0 s) (W139_k2 Φ s)
def W139 (Φ:EP) (s:St):Prop:=
 @sOp (some 4) (xMov (.nils) s.H) s<|.mk fun s=>
 @sOp (some 5) (xMov (.nils) s.H) s<|.mk fun s=>
 M 9 0 s fun s=>
 N 10 9 s fun s=>
 I 11 0 s fun s=>
 @sLoop s ⟨fun L0 s=>W139_l5 Φ L0 s⟩
theorem W139_rs (τ:Nat → AV) (H:Heap):resV Tryz.prog τ H [.tmp 4] = some (τ 4):=by kernel_rfl
theorem W139_eq:EqW Tryz.prog Tryz.f139 W139:=fun _ _=>by kernel_rfl
theorem W139_S:SpW Tryz.prog 139 29 [.tmp 4] W139:=spW Tryz.func139 Tryz.ntmps139 W139_eq
-- 142 "(*penance/penanceref4.may).both"
def W142_b1 (Φ:EP) (s:St):Prop:=
 V 4 false s fun s=>
 V 5 false s fun s=>
 Φ .ret s
def W142_b2 (Φ:EP) (s:St):Prop:=
 V 4 false s fun s=>
 V 5 true s fun s=>
 Φ .ret s
def W142_b3 (Φ:EP) (s:St):Prop:=
 V 4 true s fun s=>
 V 5 true s fun s=>
 Φ .ret s
def W142_b6 (Φ:EP) (s:St):Prop:=
 @sOp (some 45) (xIxA 2 1 (s.τ 6) (.int .i64 0) s.H) s<|.mk fun s=>
 L 46 1 45 false s fun s=>
 M 47 46 s fun s=>
 go 48 47 false s (fun s=>(xIxA 2 1 (s.τ 7) (.int .i64 0) s.H)) fun s=>
 gl 49 1 48 47 false false s fun s=>
 O 50 47 49 s fun s=>
 M 4 50 s fun s=>
 V 5 false s fun s=>
 Φ .ret s
def W142_b11 (Φ:EP) (s:St):Prop:=
 @sOp (some 54) (xIxA 2 1 (s.τ 6) (.int .i64 0) s.H) s<|.mk fun s=>
 L 55 1 54 false s fun s=>
 M 56 55 s fun s=>
 go 57 56 false s (fun s=>(xIxA 2 1 (s.τ 6) (.int .i64 1) s.H)) fun s=>
 gl 58 1 57 56 false false s fun s=>
 O 59 56 58 s fun s=>
 @sOp (some 60) (xIxA 2 1 (s.τ 7) (.int .i64 0) s.H) s<|.mk fun s=>
 L 61 1 60 false s fun s=>
 M 62 61 s fun s=>
 go 63 62 false s (fun s=>(xIxA 2 1 (s.τ 7) (.int .i64 1) s.H)) fun s=>
 gl 64 1 63 62 false false s fun s=>
 O 65 62 64 s fun s=>
 M 4 59 s fun s=>
 M 5 65 s fun s=>
 Φ .ret s
def W142_b16 (Φ:EP) (s:St):Prop:=
 @sOp (some 68) (xIxA 2 1 (s.τ 6) (.int .i64 0) s.H) s<|.mk fun s=>
 L 69 1 68 false s fun s=>
 M 70 69 s fun s=>
 go 71 70 true s (fun s=>(xIxA 2 1 (s.τ 6) (.int .i64 1) s.H)) fun s=>
 gl 72 1 71 70 false true s fun s=>
 A 73 70 72 s fun s=>
 @sOp (some 74) (xIxA 2 1 (s.τ 7) (.int .i64 0) s.H) s<|.mk fun s=>
 L 75 1 74 false s fun s=>
 M 76 75 s fun s=>
 go 77 76 false s (fun s=>(xIxA 2 1 (s.τ 7) (.int .i64 1) s.H)) fun s=>
 gl 78 1 77 76 false false s fun s=>
 O 79 76 78 s fun s=>
 M 4 73 s fun s=>
 M 5 79 s fun s=>
 Φ .ret s
def W142_b25 (Φ:EP) (s:St):Prop:=
 @sOp (some 82) (xIxA 2 1 (s.τ 6) (.int .i64 0) s.H) s<|.mk fun s=>
 L 83 1 82 false s fun s=>
 M 84 83 s fun s=>
 go 85 84 true s (fun s=>(xIxA 2 1 (s.τ 6) (.int .i64 1) s.H)) fun s=>
 gl 86 1 85 84 false true s fun s=>
 A 87 84 86 s fun s=>
 @sOp (some 88) (xIxA 2 1 (s.τ 7) (.int .i64 0) s.H) s<|.mk fun s=>
 L 89 1 88 false s fun s=>
 M 90 89 s fun s=>
 go 91 90 false s (fun s=>(xIxA 2 1 (s.τ 6) (.int .i64 0) s.H)) fun s=>
 gl 92 1 91 90 false false s fun s=>
 gm 93 92 90 false s fun s=>
 go 94 93 true s (fun s=>(xIxA 2 1 (s.τ 7) (.int .i64 1) s.H)) fun s=>
 gl 95 1 94 93 false true s fun s=>
 go 96 90 false s (fun s=>(xPick (s.τ 93) (s.τ 95) (.bool false) s.H)) fun s=>
 O 97 90 96 s fun s=>
 M 4 87 s fun s=>
 M 5 97 s fun s=>
 Φ .ret s
def W142_b41 (Φ:EP) (s:St):Prop:=
 M 100 0 s fun s=>
 @sOp (some 101) (xNil (s.τ 100) s.H) s<|.mk fun s=>
 F 102 0 101 s fun s=>
 L 103 1 102 false s fun s=>
 F 104 1 3 s fun s=>
 L 105 1 104 false s fun s=>
 C0 Tryz.prog 67 [(s.τ 103),(s.τ 105)] 106 s fun s=>
 M 9 106 s fun s=>
 M 107 9 s fun s=>
 J 108 .geq false 107 0 s fun s=>
 M 109 108 s fun s=>
 gm 110 0 109 true s fun s=>
 go 111 109 true s (fun s=>(xNil (s.τ 110) s.H)) fun s=>
 gf 112 1 111 109 true s fun s=>
 gl 113 1 112 109 false true s fun s=>
 gm 114 9 109 true s fun s=>
 go 115 109 true s (fun s=>(xIx 1 (s.τ 113) (s.τ 114) s.H)) fun s=>
 gl 116 1 115 109 false true s fun s=>
 A 117 109 116 s fun s=>
 M 118 9 s fun s=>
 J 119 .geq false 118 0 s fun s=>
 M 120 119 s fun s=>
 gm 121 0 120 true s fun s=>
 go 122 120 true s (fun s=>(xNil (s.τ 121) s.H)) fun s=>
 gf 123 2 122 120 true s fun s=>
 gl 124 1 123 120 false true s fun s=>
 gm 125 9 120 true s fun s=>
 go 126 120 true s (fun s=>(xIx 1 (s.τ 124) (s.τ 125) s.H)) fun s=>
 gl 127 1 126 120 false true s fun s=>
 A 128 120 127 s fun s=>
 M 4 117 s fun s=>
 M 5 128 s fun s=>
 Φ .ret s
def W142_b42 (Φ:EP) (s:St):Prop:=
 V 4 true s fun s=>
 V 5 false s fun s=>
 Φ .ret s
def W142_b43 (Φ:EP) (s:St):Prop:=
 J 99 .eql false 36 13 s fun s=>
 M 98 99 s fun s=>
 If 98 s (W142_b41 Φ s) (W142_b42 Φ s)
def W142_b44 (Φ:EP) (s:St):Prop:=
 J 81 .eql false 36 12 s fun s=>
 M 80 81 s fun s=>
 If 80 s (W142_b25 Φ s) (W142_b43 Φ s)
def W142_b45 (Φ:EP) (s:St):Prop:=
 J 67 .eql false 36 11 s fun s=>
 M 66 67 s fun s=>
 If 66 s (W142_b16 Φ s) (W142_b44 Φ s)
def W142_k46 (Φ:EP) (s:St):Prop:=
 If 51 s (W142_b11 Φ s) (W142_b45 Φ s)
def W142_b47 (Φ:EP) (s:St):Prop:=
 J 53 .eql false 36 10 s fun s=>
 M 51 53 s fun s=>
 W142_k46 Φ s
def W142_b48 (Φ:EP) (s:St):Prop:=
 J 52 .eql false 36 9 s fun s=>
 M 51 52 s fun s=>
 If 51 s (W142_k46 Φ s) (W142_b47 Φ s)
def W142_b49 (Φ:EP) (s:St):Prop:=
 J 44 .eql false 36 7 s fun s=>
 M 43 44 s fun s=>
 If 43 s (W142_b6 Φ s) (W142_b48 Φ s)
def W142_b50 (Φ:EP) (s:St):Prop:=
 J 42 .eql false 36 4 s fun s=>
 M 41 42 s fun s=>
 If 41 s (W142_b3 Φ s) (W142_b49 Φ s)
def W142_b51 (Φ:EP) (s:St):Prop:=
 J 40 .eql false 36 8 s fun s=>
 M 39 40 s fun s=>
 If 39 s (W142_b2 Φ s) (W142_b50 Φ s)
def W142_k52 (Φ:EP) (s:St):Prop:=
 F 35 0 3 s fun s=>
 L 36 1 35 false s fun s=>
 J 38 .eql false 36 1 s fun s=>
 M 37 38 s fun s=>
 If 37 s (W142_b1 Φ s) (W142_b51 Φ s)
def W142_b54 (Φ:EP) (L0:SP) (s:St):Prop:=
 M 22 8 s fun s=>
 M 23 8 s fun s=>
 M 24 0 s fun s=>
 F 25 7 3 s fun s=>
 L 26 1 25 false s fun s=>
 M 27 8 s fun s=>
 X 28 8 26 27 s fun s=>
 L 29 8 28 true s fun s=>
 Ca Tryz.prog 142 [(s.τ 24),(s.τ 29)] 30 s fun s=>
 M 21 30 s fun s=>
 E 31 21 0 s fun s=>
 E 32 21 1 s fun s=>
 @sOp (some 33) (xIxA 2 1 (s.τ 6) (s.τ 22) s.H) s<|.mk fun s=>
 U 1 33 31 s fun s=>
 @sOp (some 34) (xIxA 2 1 (s.τ 7) (s.τ 23) s.H) s<|.mk fun s=>
 U 1 34 32 s fun s=>
 M 19 8 s fun s=>
 J 20 .add false 19 1 s fun s=>
 M 8 20 s fun s=>
 L0 s
def W142_l57 (Φ:EP) (L0:SP) (s:St):Prop:=
 M 10 8 s fun s=>
 F 11 7 3 s fun s=>
 L 12 1 11 false s fun s=>
 N 13 12 s fun s=>
 B 14 .lss false 10 13 s fun s=>
 M 15 14 s fun s=>
 gm 16 8 15 true s fun s=>
 go 17 15 true s (fun s=>(xBin .lss false (s.τ 16) (.int .i64 2) s.H)) fun s=>
 A 18 15 17 s fun s=>
 If 18 s (W142_b54 Φ L0 s) (W142_k52 Φ s)
def W142 (Φ:EP) (s:St):Prop:=
 Y 3 80 1 s fun s=>
 V 4 false s fun s=>
 V 5 false s fun s=>
 Z 6 198 [.bool false,.bool false] s fun s=>
 Z 7 198 [.bool false,.bool false] s fun s=>
 I 8 0 s fun s=>
 @sLoop s ⟨fun L0 s=>W142_l57 Φ L0 s⟩
theorem W142_rs (τ:Nat → AV) (H:Heap):resV Tryz.prog τ H [.tmp 4,.tmp 5] = ob (ob (some (τ 4)) fun v=>ob (ob (some (τ 5)) fun v=>ob (some []) fun vs=>some (v :: vs)) fun vs=>some (v :: vs)) fun vs=>some (.tup vs):=by kernel_rfl
theorem W142_eq:EqW Tryz.prog Tryz.f142 W142:=fun _ _=>by kernel_rfl
theorem W142_S:SpW Tryz.prog 142 129 [.tmp 4,.tmp 5] W142:=spW Tryz.func142 Tryz.ntmps142 W142_eq
-- 143 "penance/penancelaw2.within"
def W143_k1 (Φ:EP) (s:St):Prop:=
 M 14 5 s fun s=>
 M 4 14 s fun s=>
 Φ .ret s
def W143_b2 (Φ:EP) (s:St):Prop:=
 M 11 5 s fun s=>
 M 12 1 s fun s=>
 B 13 .add false 11 12 s fun s=>
 M 5 13 s fun s=>
 W143_k1 Φ s
def W143 (Φ:EP) (s:St):Prop:=
 I 4 0 s fun s=>
 M 6 0 s fun s=>
 M 7 1 s fun s=>
 B 8 .rem false 6 7 s fun s=>
 M 5 8 s fun s=>
 M 9 5 s fun s=>
 J 10 .lss false 9 0 s fun s=>
 If 10 s (W143_b2 Φ s) (W143_k1 Φ s)
theorem W143_rs (τ:Nat → AV) (H:Heap):resV Tryz.prog τ H [.tmp 4] = some (τ 4):=by kernel_rfl
theorem W143_eq:EqW Tryz.prog Tryz.f143 W143:=fun _ _=>by kernel_rfl
theorem W143_S:SpW Tryz.prog 143 15 [.tmp 4] W143:=spW Tryz.func143 Tryz.ntmps143 W143_eq
-- 144 "(penance/penancelaw2.Raw).part"
def W144_b2 (Φ:EP) (s:St):Prop:=
 F 12 2 3 s fun s=>
 L 13 1 12 false s fun s=>
 M 14 1 s fun s=>
 X 15 3 13 14 s fun s=>
 L 16 3 15 true s fun s=>
 M 17 2 s fun s=>
 Ca Tryz.prog 129 [(s.τ 16),(s.τ 17)] 18 s fun s=>
 U 4 6 18 s fun s=>
 Φ .ret s
def W144_b4 (Φ:EP) (s:St):Prop:=
 F 19 1 3 s fun s=>
 L 20 1 19 false s fun s=>
 M 21 1 s fun s=>
 B 22 .add false 20 21 s fun s=>
 Ca Tryz.prog 143 [(s.τ 22),(.int .i64 5)] 23 s fun s=>
 Bd 24 z4 [(0,1,(.int .i64 1)),(1,1,(s.τ 23))] s fun s=>
 U 4 6 24 s fun s=>
 Φ .ret s
def W144 (Φ:EP) (s:St):Prop:=
 Y 3 176 0 s fun s=>
 Z 6 33 z4 s fun s=>
 M 7 1 s fun s=>
 F 8 2 3 s fun s=>
 L 9 1 8 false s fun s=>
 N 10 9 s fun s=>
 B 11 .lss false 7 10 s fun s=>
 If 11 s (W144_b2 Φ s) (W144_b4 Φ s)
theorem W144_rs (τ:Nat → AV) (H:Heap):resV Tryz.prog τ H [.cell 6 33] = rdV H 4 true (τ 6):=by kernel_rfl
theorem W144_eq:EqW Tryz.prog Tryz.f144 W144:=fun _ _=>by kernel_rfl
theorem W144_S:SpW Tryz.prog 144 25 [.cell 6 33] W144:=spW Tryz.func144 Tryz.ntmps144 W144_eq
-- 145 "slices.Contains[[]string,string]"
def W145 (Φ:EP) (s:St):Prop:=
 V 4 false s fun s=>
 M 5 0 s fun s=>
 M 6 1 s fun s=>
 Ca Tryz.prog 152 [(s.τ 5),(s.τ 6)] 7 s fun s=>
 J 8 .geq false 7 0 s fun s=>
 M 4 8 s fun s=>
 Φ .ret s
theorem W145_rs (τ:Nat → AV) (H:Heap):resV Tryz.prog τ H [.tmp 4] = some (τ 4):=by kernel_rfl
theorem W145_eq:EqW Tryz.prog Tryz.f145 W145:=fun _ _=>by kernel_rfl
theorem W145_S:SpW Tryz.prog 145 9 [.tmp 4] W145:=spW Tryz.func145 Tryz.ntmps145 W145_eq
-- 146 "penance/lex.words"
def W146 (Φ:EP) (s:St):Prop:=
 @sOp (some 0) (xMov (.nils) s.H) s<|.mk fun s=>
 Lt 1 1 16 [.str ⟨#[]⟩] [(0,(.str ⟨#[118,97,114]⟩)),(1,(.str ⟨#[115,116,97,99,107]⟩)),(2,(.str ⟨#[112,114,111,99]⟩)),(3,(.str ⟨#[115,107,105,112]⟩)),(4,(.str ⟨#[100,111]⟩)),(5,(.str ⟨#[112,117,115,104]⟩)),(6,(.str ⟨#[114,101,118,101,114,115,101]⟩)),(7,(.str ⟨#[97,99,99,101,112,116]⟩)),(8,(.str ⟨#[109,101,114,103,101]⟩)),(9,(.str ⟨#[98,108,111,99,107]⟩)),(10,(.str ⟨#[101,120,105,116]⟩)),(11,(.str ⟨#[105,102]⟩)),(12,(.str ⟨#[101,108,115,101]⟩)),(13,(.str ⟨#[99,104,111,111,115,101]⟩)),(14,(.str ⟨#[112,97,114]⟩)),(15,(.str ⟨#[99,97,108,108]⟩))] s fun s=>
 M 0 1 s fun s=>
 Φ .ret s
theorem W146_rs (τ:Nat → AV) (H:Heap):resV Tryz.prog τ H [.tmp 0] = some (τ 0):=by kernel_rfl
theorem W146_eq:EqW Tryz.prog Tryz.f146 W146:=fun _ _=>by kernel_rfl
theorem W146_S:SpW Tryz.prog 146 2 [.tmp 0] W146:=spW Tryz.func146 Tryz.ntmps146 W146_eq
end Go.Proofs.YtnngddgaobhkiaaGreat
set_option maxRecDepth 100000
namespace Go.Proofs.YtnngddgaobhkiaaGreat
open Go Go.Am
-- 147 "penance/lex.digit"
def W147 (Φ:EP) (s:St):Prop:=
 V 2 false s fun s=>
 M 3 0 s fun s=>
 @sOp (some 4) (xBin .geq false (s.τ 3) (.int .u8 48) s.H) s<|.mk fun s=>
 M 5 4 s fun s=>
 gm 6 0 5 true s fun s=>
 go 7 5 true s (fun s=>(xBin .leq false (s.τ 6) (.int .u8 57) s.H)) fun s=>
 A 8 5 7 s fun s=>
 M 2 8 s fun s=>
 Φ .ret s
theorem W147_rs (τ:Nat → AV) (H:Heap):resV Tryz.prog τ H [.tmp 2] = some (τ 2):=by kernel_rfl
theorem W147_eq:EqW Tryz.prog Tryz.f147 W147:=fun _ _=>by kernel_rfl
theorem W147_S:SpW Tryz.prog 147 9 [.tmp 2] W147:=spW Tryz.func147 Tryz.ntmps147 W147_eq
-- 148 "penance/expr.all$1"
def W148 (Φ:EP) (s:St):Prop:=
 L 3 4 1 true s fun s=>
 M 4 0 s fun s=>
 Ca Tryz.prog 149 [(s.τ 3),(s.τ 4)] 5 s fun s=>
 Φ .normal s
theorem W148_rs (τ:Nat → AV) (H:Heap):resV Tryz.prog τ H [] = ob (some []) fun vs=>some (.tup vs):=by kernel_rfl
theorem W148_eq:EqW Tryz.prog Tryz.f148 W148:=fun _ _=>by kernel_rfl
theorem W148_S:SpW Tryz.prog 148 6 [] W148:=spW Tryz.func148 Tryz.ntmps148 W148_eq
-- 149 "penance/expr.walk"
def W149_b1 (Φ:EP) (s:St):Prop:=
 V 4 false s fun s=>
 Φ .ret s
def W149_k2 (Φ:EP) (s:St):Prop:=
 V 4 true s fun s=>
 Φ .ret s
def W149_b3 (Φ:EP) (L0:SP) (s:St):Prop:=
 V 4 false s fun s=>
 Φ .ret s
def W149_b4 (Φ:EP) (L0:SP) (s:St):Prop:=
 J 22 .add false 14 1 s fun s=>
 M 14 22 s fun s=>
 L0 s
def W149_b6 (Φ:EP) (L0:SP) (s:St):Prop:=
 X 16 4 12 14 s fun s=>
 L 17 4 16 true s fun s=>
 Z 6 33 z4 s fun s=>
 U 4 6 17 s fun s=>
 L 18 4 6 true s fun s=>
 M 19 1 s fun s=>
 Ca Tryz.prog 149 [(s.τ 18),(s.τ 19)] 20 s fun s=>
 Q 21 20 s fun s=>
 If 21 s (W149_b3 Φ L0 s) (W149_b4 Φ L0 s)
def W149_l7 (Φ:EP) (L0:SP) (s:St):Prop:=
 B 15 .lss false 14 13 s fun s=>
 If 15 s (W149_b6 Φ L0 s) (W149_k2 Φ s)
def W149_b8 (Φ:EP) (s:St):Prop:=
 F 11 3 2 s fun s=>
 L 12 1 11 false s fun s=>
 N 13 12 s fun s=>
 I 14 0 s fun s=>
 @sLoop s ⟨fun L0 s=>W149_l7 Φ L0 s⟩
def W149 (Φ:EP) (s:St):Prop:=
 Y 2 33 0 s fun s=>
 V 4 false s fun s=>
 M 7 1 s fun s=>
 L 8 4 2 true s fun s=>
 @sCall Tryz.prog (s.τ 7) [(s.τ 8)] (some 9) s<|.mk fun s=>
 Q 10 9 s fun s=>
 If 10 s (W149_b1 Φ s) (W149_b8 Φ s)
theorem W149_rs (τ:Nat → AV) (H:Heap):resV Tryz.prog τ H [.tmp 4] = some (τ 4):=by kernel_rfl
theorem W149_eq:EqW Tryz.prog Tryz.f149 W149:=fun _ _=>by kernel_rfl
theorem W149_S:SpW Tryz.prog 149 23 [.tmp 4] W149:=spW Tryz.func149 Tryz.ntmps149 W149_eq
-- 150 "penance/term.active$1"
def W150 (Φ:EP) (s:St):Prop:=
 L 3 9 1 true s fun s=>
 M 4 0 s fun s=>
 Ca Tryz.prog 151 [(s.τ 3),(s.τ 4)] 5 s fun s=>
 Φ .normal s
theorem W150_rs (τ:Nat → AV) (H:Heap):resV Tryz.prog τ H [] = ob (some []) fun vs=>some (.tup vs):=by kernel_rfl
theorem W150_eq:EqW Tryz.prog Tryz.f150 W150:=fun _ _=>by kernel_rfl
theorem W150_S:SpW Tryz.prog 150 6 [] W150:=spW Tryz.func150 Tryz.ntmps150 W150_eq
-- 151 "penance/term.walk"
def W151_b1 (Φ:EP) (s:St):Prop:=
 V 4 false s fun s=>
 Φ .ret s
def W151_k2 (Φ:EP) (s:St):Prop:=
 V 4 true s fun s=>
 Φ .ret s
def W151_b3 (Φ:EP) (L0:SP) (s:St):Prop:=
 V 4 false s fun s=>
 Φ .ret s
def W151_b4 (Φ:EP) (L0:SP) (s:St):Prop:=
 J 36 .add false 28 1 s fun s=>
 M 28 36 s fun s=>
 L0 s
def W151_b6 (Φ:EP) (L0:SP) (s:St):Prop:=
 X 30 9 26 28 s fun s=>
 L 31 9 30 true s fun s=>
 Z 7 35 z9 s fun s=>
 U 9 7 31 s fun s=>
 L 32 9 7 true s fun s=>
 M 33 1 s fun s=>
 Ca Tryz.prog 151 [(s.τ 32),(s.τ 33)] 34 s fun s=>
 Q 35 34 s fun s=>
 If 35 s (W151_b3 Φ L0 s) (W151_b4 Φ L0 s)
def W151_l7 (Φ:EP) (L0:SP) (s:St):Prop:=
 B 29 .lss false 28 27 s fun s=>
 If 29 s (W151_b6 Φ L0 s) (W151_k2 Φ s)
def W151_k8 (Φ:EP) (s:St):Prop:=
 M 26 5 s fun s=>
 N 27 26 s fun s=>
 I 28 0 s fun s=>
 @sLoop s ⟨fun L0 s=>W151_l7 Φ L0 s⟩
def W151_b9 (Φ:EP) (s:St):Prop:=
 M 18 5 s fun s=>
 M 19 5 s fun s=>
 N 20 19 s fun s=>
 @sOp (some 21) (xMin (s.τ 20) (.int .i64 1) s.H) s<|.mk fun s=>
 @sOp (some 22) (xSlc 9 (s.τ 18) none (some (s.τ 21)) s.H) s<|.mk fun s=>
 M 5 22 s fun s=>
 W151_k8 Φ s
def W151_b10 (Φ:EP) (s:St):Prop:=
 V 4 true s fun s=>
 Φ .ret s
def W151_k11 (Φ:EP) (s:St):Prop:=
 If 23 s (W151_k8 Φ s) (W151_b10 Φ s)
def W151_b12 (Φ:EP) (s:St):Prop:=
 J 25 .eql false 15 7 s fun s=>
 M 23 25 s fun s=>
 W151_k11 Φ s
def W151_b13 (Φ:EP) (s:St):Prop:=
 J 24 .eql false 15 11 s fun s=>
 M 23 24 s fun s=>
 If 23 s (W151_k11 Φ s) (W151_b12 Φ s)
def W151_b14 (Φ:EP) (s:St):Prop:=
 F 12 8 2 s fun s=>
 L 13 1 12 false s fun s=>
 M 5 13 s fun s=>
 F 14 0 2 s fun s=>
 L 15 1 14 false s fun s=>
 J 17 .eql false 15 12 s fun s=>
 M 16 17 s fun s=>
 If 16 s (W151_b9 Φ s) (W151_b13 Φ s)
def W151 (Φ:EP) (s:St):Prop:=
 Y 2 35 0 s fun s=>
 V 4 false s fun s=>
 M 8 1 s fun s=>
 L 9 9 2 true s fun s=>
 @sCall Tryz.prog (s.τ 8) [(s.τ 9)] (some 10) s<|.mk fun s=>
 Q 11 10 s fun s=>
 If 11 s (W151_b1 Φ s) (W151_b14 Φ s)
theorem W151_rs (τ:Nat → AV) (H:Heap):resV Tryz.prog τ H [.tmp 4] = some (τ 4):=by kernel_rfl
theorem W151_eq:EqW Tryz.prog Tryz.f151 W151:=fun _ _=>by kernel_rfl
theorem W151_S:SpW Tryz.prog 151 37 [.tmp 4] W151:=spW Tryz.func151 Tryz.ntmps151 W151_eq
-- 152 "slices.Index[[]string,string]"
def W152_k1 (Φ:EP) (s:St):Prop:=
 I 4 (-1) s fun s=>
 Φ .ret s
def W152_b2 (Φ:EP) (L0:SP) (s:St):Prop:=
 M 17 5 s fun s=>
 M 4 17 s fun s=>
 Φ .ret s
def W152_b3 (Φ:EP) (L0:SP) (s:St):Prop:=
 J 18 .add false 8 1 s fun s=>
 M 8 18 s fun s=>
 L0 s
def W152_b4 (Φ:EP) (L0:SP) (s:St):Prop:=
 M 10 8 s fun s=>
 M 5 10 s fun s=>
 M 11 1 s fun s=>
 M 12 0 s fun s=>
 M 13 5 s fun s=>
 X 14 1 12 13 s fun s=>
 L 15 1 14 false s fun s=>
 B 16 .eql false 11 15 s fun s=>
 If 16 s (W152_b2 Φ L0 s) (W152_b3 Φ L0 s)
def W152_l5 (Φ:EP) (L0:SP) (s:St):Prop:=
 B 9 .lss false 8 7 s fun s=>
 If 9 s (W152_b4 Φ L0 s) (W152_k1 Φ s)
def W152 (Φ:EP) (s:St):Prop:=
 I 4 0 s fun s=>
 M 6 0 s fun s=>
 N 7 6 s fun s=>
 I 8 0 s fun s=>
 @sLoop s ⟨fun L0 s=>W152_l5 Φ L0 s⟩
theorem W152_rs (τ:Nat → AV) (H:Heap):resV Tryz.prog τ H [.tmp 4] = some (τ 4):=by kernel_rfl
theorem W152_eq:EqW Tryz.prog Tryz.f152 W152:=fun _ _=>by kernel_rfl
theorem W152_S:SpW Tryz.prog 152 19 [.tmp 4] W152:=spW Tryz.func152 Tryz.ntmps152 W152_eq
end Go.Proofs.YtnngddgaobhkiaaGreat
