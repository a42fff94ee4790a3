import Derived.Test.YtnngddgaobhkiaaGreatGA6
import Derived.Test.YtnngddgaobhkiaaGreatProg
import Derived.KernelRfl
set_option linter.unusedVariables false
set_option maxRecDepth 100000
namespace Go.Proofs.YtnngddgaobhkiaaGreat
open Go Go.Am
-- 81 "(penance/term.bounds).right"
def W81_b1 (Φ:EP) (s:St):Prop:=
 V 6 false s fun s=>
 Φ .ret s
def W81_b2 (Φ:EP) (s:St):Prop:=
 V 6 false s fun s=>
 Φ .ret s
def W81_k3 (Φ:EP) (s:St):Prop:=
 V 6 true s fun s=>
 Φ .ret s
def W81_b4 (Φ:EP) (L0:SP) (s:St):Prop:=
 V 6 false s fun s=>
 Φ .ret s
def W81_b5 (Φ:EP) (L0:SP) (s:St):Prop:=
 J 93 .add false 79 1 s fun s=>
 M 79 93 s fun s=>
 L0 s
def W81_b10 (Φ:EP) (L0:SP) (s:St):Prop:=
 X 81 9 77 79 s fun s=>
 L 82 9 81 true s fun s=>
 Z 10 35 z9 s fun s=>
 U 9 10 82 s fun s=>
 L 83 3 3 true s fun s=>
 L 84 9 10 true s fun s=>
 M 85 2 s fun s=>
 M 86 85 s fun s=>
 gf 87 0 4 86 false s fun s=>
 gl 88 1 87 86 false false s fun s=>
 go 89 86 false s (fun s=>(xBin .eql false (s.τ 88) (.int .i64 3) s.H)) fun s=>
 O 90 86 89 s fun s=>
 Ca Tryz.prog 81 [(s.τ 83),(s.τ 84),(s.τ 90)] 91 s fun s=>
 Q 92 91 s fun s=>
 If 92 s (W81_b4 Φ L0 s) (W81_b5 Φ L0 s)
def W81_l11 (Φ:EP) (L0:SP) (s:St):Prop:=
 B 80 .lss false 79 78 s fun s=>
 If 80 s (W81_b10 Φ L0 s) (W81_k3 Φ s)
def W81_b12 (Φ:EP) (s:St):Prop:=
 F 76 8 4 s fun s=>
 L 77 1 76 false s fun s=>
 N 78 77 s fun s=>
 I 79 0 s fun s=>
 @sLoop s ⟨fun L0 s=>W81_l11 Φ L0 s⟩
def W81_k13 (Φ:EP) (s:St):Prop:=
 L 73 5 8 true s fun s=>
 Bd 74 [.bool false,.bool false,.bool false,.bool false,.bool false] [(0,1,(.bool true)),(1,1,(.bool true)),(2,1,(.bool true)),(3,1,(.bool true)),(4,1,(.bool true))] s fun s=>
 @sOp (some 75) (xEq true [(0,.bool),(1,.bool),(2,.bool),(3,.bool),(4,.bool)] (s.τ 73) (s.τ 74) s.H) s<|.mk fun s=>
 If 75 s (W81_b2 Φ s) (W81_b12 Φ s)
def W81_b15 (Φ:EP) (s:St):Prop:=
 F 67 4 4 s fun s=>
 L 68 4 67 true s fun s=>
 F 69 0 3 s fun s=>
 L 70 1 69 false s fun s=>
 Ca Tryz.prog 111 [(s.τ 68),(s.τ 70)] 71 s fun s=>
 @sOp (some 72) (xIxA 5 1 (s.τ 8) (.int .i64 4) s.H) s<|.mk fun s=>
 U 1 72 71 s fun s=>
 W81_k13 Φ s
def W81_k16 (Φ:EP) (s:St):Prop:=
 F 65 3 7 s fun s=>
 L 66 1 65 false s fun s=>
 If 66 s (W81_b15 Φ s) (W81_k13 Φ s)
def W81_b18 (Φ:EP) (s:St):Prop:=
 F 61 3 4 s fun s=>
 L 62 1 61 false s fun s=>
 Ca Tryz.prog 110 [(s.τ 62)] 63 s fun s=>
 @sOp (some 64) (xIxA 5 1 (s.τ 8) (.int .i64 3) s.H) s<|.mk fun s=>
 U 1 64 63 s fun s=>
 W81_k16 Φ s
def W81_b23 (Φ:EP) (s:St):Prop:=
 C0 Tryz.prog 107 [] 29 s fun u1=>
 @sChk (compat (cfp 29 107 []) (occ (u1.τ 4),[])) <| .mk <|
 F 30 0 4 u1 fun u2=>
 @sChk (compat (cfp 29 107 []) (occ (u2.τ 30),[])) <| .mk <|
 L 31 1 30 false u2 fun u3=>
 X 32 5 29 31 u3 fun u4=>
 L 33 5 32 true u4 fun u5=>
 k2 (cfp 29 107 []) 7 <|
 k1 (u1.τ 4) 7 <|
 k1 (u2.τ 30) 7 <|
 k1 (u3.τ 29) 7 <|
 k1 (u4.τ 32) 7 <|
 Z 7 166 [.int .i64 0,.int .i64 0,.bool false,.bool false,.int .i64 0] u5 fun u6=>
 U 5 7 33 u6 fun s=>
 L 34 3 3 true s fun u1=>
 F 35 0 7 u1 fun u2=>
 L 36 1 35 false u2 fun u3=>
 F 37 1 4 u3 fun u4=>
 L 38 1 37 false u4 fun u5=>
 C0 Tryz.prog 108 [(u5.τ 34),(u5.τ 36),(u5.τ 38)] 39 u5 fun u6=>
 @sChk (compat (cfp 39 108 [(u5.τ 34),(u5.τ 36),(u5.τ 38)]) (occ (u6.τ 3),[])) <| .mk <|
 L 40 3 3 true u6 fun u7=>
 @sChk (compat (cfp 39 108 [(u5.τ 34),(u5.τ 36),(u5.τ 38)]) (occ (u7.τ 7),[])) <| .mk <|
 F 41 1 7 u7 fun u8=>
 @sChk (compat (cfp 39 108 [(u5.τ 34),(u5.τ 36),(u5.τ 38)]) (occ (u8.τ 41),[])) <| .mk <|
 L 42 1 41 false u8 fun u9=>
 @sChk (compat (cfp 39 108 [(u5.τ 34),(u5.τ 36),(u5.τ 38)]) (occ (u9.τ 4),[])) <| .mk <|
 F 43 2 4 u9 fun u10=>
 @sChk (compat (cfp 39 108 [(u5.τ 34),(u5.τ 36),(u5.τ 38)]) (occ (u10.τ 43),[])) <| .mk <|
 L 44 1 43 false u10 fun u11=>
 C0 Tryz.prog 108 [(u11.τ 40),(u11.τ 42),(u11.τ 44)] 45 u11 fun u12=>
 @sChk (compat (cfp 39 108 [(u5.τ 34),(u5.τ 36),(u5.τ 38)]) (occ (u12.τ 4),[])) <| .mk <|
 @sChk (compat (cfp 45 108 [(u11.τ 40),(u11.τ 42),(u11.τ 44)]) (occ (u12.τ 4),[])) <| .mk <|
 F 46 8 4 u12 fun u13=>
 @sChk (compat (cfp 39 108 [(u5.τ 34),(u5.τ 36),(u5.τ 38)]) (occ (u13.τ 46),[])) <| .mk <|
 @sChk (compat (cfp 45 108 [(u11.τ 40),(u11.τ 42),(u11.τ 44)]) (occ (u13.τ 46),[])) <| .mk <|
 L 47 1 46 false u13 fun u14=>
 @sChk (compat (cfp 39 108 [(u5.τ 34),(u5.τ 36),(u5.τ 38)]) (occ (u14.τ 47),[])) <| .mk <|
 @sChk (compat (cfp 45 108 [(u11.τ 40),(u11.τ 42),(u11.τ 44)]) (occ (u14.τ 47),[])) <| .mk <|
 N 48 47 u14 fun u15=>
 @sChk (compat (cfp 39 108 [(u5.τ 34),(u5.τ 36),(u5.τ 38)]) (occ (u15.τ 7),[])) <| .mk <|
 @sChk (compat (cfp 45 108 [(u11.τ 40),(u11.τ 42),(u11.τ 44)]) (occ (u15.τ 7),[])) <| .mk <|
 F 49 4 7 u15 fun u16=>
 @sChk (compat (cfp 39 108 [(u5.τ 34),(u5.τ 36),(u5.τ 38)]) (occ (u16.τ 49),[])) <| .mk <|
 @sChk (compat (cfp 45 108 [(u11.τ 40),(u11.τ 42),(u11.τ 44)]) (occ (u16.τ 49),[])) <| .mk <|
 L 50 1 49 false u16 fun u17=>
 B 51 .eql false 48 50 u17 fun u18=>
 @sChk (compat (cfp 39 108 [(u5.τ 34),(u5.τ 36),(u5.τ 38)]) (occ (u18.τ 4),[])) <| .mk <|
 @sChk (compat (cfp 45 108 [(u11.τ 40),(u11.τ 42),(u11.τ 44)]) (occ (u18.τ 4),[])) <| .mk <|
 F 52 3 4 u18 fun u19=>
 @sChk (compat (cfp 39 108 [(u5.τ 34),(u5.τ 36),(u5.τ 38)]) (occ (u19.τ 52),[])) <| .mk <|
 @sChk (compat (cfp 45 108 [(u11.τ 40),(u11.τ 42),(u11.τ 44)]) (occ (u19.τ 52),[])) <| .mk <|
 L 53 1 52 false u19 fun u20=>
 @sOp (some 54) (xBin .eql false (u20.τ 53) (.str ⟨#[]⟩) u20.H) u20<|.mk fun u21=>
 @sChk (compat (cfp 39 108 [(u5.τ 34),(u5.τ 36),(u5.τ 38)]) (occ (u21.τ 4),[])) <| .mk <|
 @sChk (compat (cfp 45 108 [(u11.τ 40),(u11.τ 42),(u11.τ 44)]) (occ (u21.τ 4),[])) <| .mk <|
 F 55 4 4 u21 fun u22=>
 @sChk (compat (cfp 39 108 [(u5.τ 34),(u5.τ 36),(u5.τ 38)]) (occ (u22.τ 55),[])) <| .mk <|
 @sChk (compat (cfp 45 108 [(u11.τ 40),(u11.τ 42),(u11.τ 44)]) (occ (u22.τ 55),[])) <| .mk <|
 L 56 4 55 true u22 fun u23=>
 k3 (u12.τ 4) (cfp 57 109 [(u23.τ 56)]) <|
 k3 (u13.τ 46) (cfp 57 109 [(u23.τ 56)]) <|
 k3 (u14.τ 47) (cfp 57 109 [(u23.τ 56)]) <|
 k3 (u15.τ 7) (cfp 57 109 [(u23.τ 56)]) <|
 k3 (u16.τ 49) (cfp 57 109 [(u23.τ 56)]) <|
 k3 (u18.τ 4) (cfp 57 109 [(u23.τ 56)]) <|
 k3 (u19.τ 52) (cfp 57 109 [(u23.τ 56)]) <|
 C0 Tryz.prog 109 [(u23.τ 56)] 57 u23 fun u24=>
 Bd 58 [.bool false,.bool false,.bool false,.bool false,.bool false] [(0,1,(u24.τ 39)),(1,1,(u24.τ 45)),(2,1,(u24.τ 51)),(3,1,(u24.τ 54)),(4,1,(u24.τ 57))] u24 fun u25=>
 k1 (s.τ 3) 8 <|
 k1 (u1.τ 7) 8 <|
 k1 (u2.τ 35) 8 <|
 k1 (u3.τ 4) 8 <|
 k1 (u4.τ 37) 8 <|
 k2 (cfp 39 108 [(u5.τ 34),(u5.τ 36),(u5.τ 38)]) 8 <|
 k1 (u6.τ 3) 8 <|
 k1 (u7.τ 7) 8 <|
 k1 (u8.τ 41) 8 <|
 k1 (u9.τ 4) 8 <|
 k1 (u10.τ 43) 8 <|
 k2 (cfp 45 108 [(u11.τ 40),(u11.τ 42),(u11.τ 44)]) 8 <|
 k1 (u12.τ 4) 8 <|
 k1 (u13.τ 46) 8 <|
 k1 (u14.τ 47) 8 <|
 k1 (u15.τ 7) 8 <|
 k1 (u16.τ 49) 8 <|
 k1 (u18.τ 4) 8 <|
 k1 (u19.τ 52) 8 <|
 k1 (u21.τ 4) 8 <|
 k1 (u22.τ 55) 8 <|
 k2 (cfp 57 109 [(u23.τ 56)]) 8 <|
 Z 8 168 [.bool false,.bool false,.bool false,.bool false,.bool false] u25 fun u26=>
 U 5 8 58 u26 fun s=>
 F 59 2 7 s fun s=>
 L 60 1 59 false s fun s=>
 If 60 s (W81_b18 Φ s) (W81_k16 Φ s)
def W81 (Φ:EP) (s:St):Prop:=
 Y 3 133 0 s fun s=>
 Y 4 35 1 s fun s=>
 V 6 false s fun s=>
 F 11 0 4 s fun u1=>
 L 12 1 11 false u1 fun u2=>
 J 13 .lss false 12 0 u2 fun u3=>
 M 14 13 u3 fun u4=>
 gf 15 0 4 14 false u4 fun u5=>
 gl 16 1 15 14 false false u5 fun u6=>
 k3 (u4.τ 4) (cfp 17 107 []) <|
 k3 (u5.τ 15) (cfp 17 107 []) <|
 @sGrd (guardOf (u6.τ 14) false) (some 17) u6 ⟨fun s K=>@sCall0 Tryz.prog (.func 107 []) [] (some 17) s ⟨K⟩⟩<|.mk fun u7=>
 go 18 14 false u7 (fun s=>(xLen (s.τ 17) s.H)) fun u8=>
 go 19 14 false u8 (fun s=>(xBin .geq false (s.τ 16) (s.τ 18) s.H)) fun u9=>
 O 20 14 19 u9 fun u10=>
 M 21 20 u10 fun u11=>
 gm 22 2 21 false u11 fun u12=>
 gm 23 22 21 false u12 fun u13=>
 gf 24 0 4 23 true u13 fun u14=>
 gl 25 1 24 23 false true u14 fun u15=>
 go 26 23 true u15 (fun s=>(xBin .eql false (s.τ 25) (.int .i64 14) s.H)) fun u16=>
 go 27 21 false u16 (fun s=>(xPick (s.τ 23) (s.τ 26) (.bool false) s.H)) fun u17=>
 O 28 21 27 u17 fun s=>
 If 28 s (W81_b1 Φ s) (W81_b23 Φ s)
theorem W81_rs (τ:Nat → AV) (H:Heap):resV Tryz.prog τ H [.tmp 6] = some (τ 6):=by kernel_rfl
theorem W81_eq:EqW Tryz.prog Tryz.f81 W81:=fun _ _=>by kernel_rfl
theorem W81_S:SpW Tryz.prog 81 94 [.tmp 6] W81:=spW Tryz.func81 Tryz.ntmps81 W81_eq
-- 82 "slices.Clone[[]penance/api.Term,penance/api.Term]"
def W82_b1 (Φ:EP) (s:St):Prop:=
 @sOp (some 2) (xMov (.nils) s.H) s<|.mk fun s=>
 Φ .ret s
def W82_b2 (Φ:EP) (s:St):Prop:=
 @sOp (some 5) (xRow 5 35 9 0 z9 [] s.H) s<|.mk fun s=>
 M 6 0 s fun s=>
 @sOp (some 7) (xApp Tryz.prog 35 9 120 (some 7) (s.τ 5) (s.τ 6) s.H) s<|.mk fun s=>
 M 2 7 s fun s=>
 Φ .ret s
def W82 (Φ:EP) (s:St):Prop:=
 @sOp (some 2) (xMov (.nils) s.H) s<|.mk fun s=>
 M 3 0 s fun s=>
 @sNil false (s.τ 3) (some 4) s<|.mk fun s=>
 If 4 s (W82_b1 Φ s) (W82_b2 Φ s)
theorem W82_rs (τ:Nat → AV) (H:Heap):resV Tryz.prog τ H [.tmp 2] = some (τ 2):=by kernel_rfl
theorem W82_eq:EqW Tryz.prog Tryz.f82 W82:=fun _ _=>by kernel_rfl
theorem W82_S:SpW Tryz.prog 82 8 [.tmp 2] W82:=spW Tryz.func82 Tryz.ntmps82 W82_eq
-- 83 "penance/steps.places"
def W83 (Φ:EP) (s:St):Prop:=
 Y 1 35 0 s fun s=>
 @sOp (some 2) (xMov (.nilf) s.H) s<|.mk fun s=>
 @sOp (some 3) (xMkf 112 [(s.τ 1)] s.H) s<|.mk fun s=>
 M 2 3 s fun s=>
 Φ .ret s
theorem W83_rs (τ:Nat → AV) (H:Heap):resV Tryz.prog τ H [.tmp 2] = some (τ 2):=by kernel_rfl
theorem W83_eq:EqW Tryz.prog Tryz.f83 W83:=fun _ _=>by kernel_rfl
theorem W83_S:SpW Tryz.prog 83 4 [.tmp 2] W83:=spW Tryz.func83 Tryz.ntmps83 W83_eq
-- 84 "slices.Clone[[]penance/api.Step,penance/api.Step]"
def W84_b1 (Φ:EP) (s:St):Prop:=
 @sOp (some 2) (xMov (.nils) s.H) s<|.mk fun s=>
 Φ .ret s
def W84_b2 (Φ:EP) (s:St):Prop:=
 @sOp (some 5) (xRow 5 60 3 0 [.int .i64 0,.nils,.int .i64 0] [] s.H) s<|.mk fun s=>
 M 6 0 s fun s=>
 @sOp (some 7) (xApp Tryz.prog 60 3 40 (some 7) (s.τ 5) (s.τ 6) s.H) s<|.mk fun s=>
 M 2 7 s fun s=>
 Φ .ret s
def W84 (Φ:EP) (s:St):Prop:=
 @sOp (some 2) (xMov (.nils) s.H) s<|.mk fun s=>
 M 3 0 s fun s=>
 @sNil false (s.τ 3) (some 4) s<|.mk fun s=>
 If 4 s (W84_b1 Φ s) (W84_b2 Φ s)
theorem W84_rs (τ:Nat → AV) (H:Heap):resV Tryz.prog τ H [.tmp 2] = some (τ 2):=by kernel_rfl
theorem W84_eq:EqW Tryz.prog Tryz.f84 W84:=fun _ _=>by kernel_rfl
theorem W84_S:SpW Tryz.prog 84 8 [.tmp 2] W84:=spW Tryz.func84 Tryz.ntmps84 W84_eq
-- 85 "penance/expr.truth"
def W85_b1 (Φ:EP) (s:St):Prop:=
 I 2 1 s fun s=>
 Φ .ret s
def W85_b2 (Φ:EP) (s:St):Prop:=
 I 2 0 s fun s=>
 Φ .ret s
def W85 (Φ:EP) (s:St):Prop:=
 I 2 0 s fun s=>
 M 3 0 s fun s=>
 If 3 s (W85_b1 Φ s) (W85_b2 Φ s)
theorem W85_rs (τ:Nat → AV) (H:Heap):resV Tryz.prog τ H [.tmp 2] = some (τ 2):=by kernel_rfl
theorem W85_eq:EqW Tryz.prog Tryz.f85 W85:=fun _ _=>by kernel_rfl
theorem W85_S:SpW Tryz.prog 85 4 [.tmp 2] W85:=spW Tryz.func85 Tryz.ntmps85 W85_eq
-- 86 "penance/expr.times"
def W86_b1 (Φ:EP) (s:St):Prop:=
 I 4 0 s fun s=>
 I 5 0 s fun s=>
 Φ .ret s
def W86_b2 (Φ:EP) (s:St):Prop:=
 I 4 0 s fun s=>
 I 5 8 s fun s=>
 Φ .ret s
def W86_b3 (Φ:EP) (s:St):Prop:=
 M 25 0 s fun s=>
 M 26 1 s fun s=>
 B 27 .mul false 25 26 s fun s=>
 M 4 27 s fun s=>
 I 5 0 s fun s=>
 Φ .ret s
def W86_b6 (Φ:EP) (s:St):Prop:=
 M 19 0 s fun s=>
 J 20 .eql false 19 (-9223372036854775808) s fun s=>
 M 21 20 s fun s=>
 gm 22 1 21 false s fun s=>
 go 23 21 false s (fun s=>(xBin .eql false (s.τ 22) (.int .i64 (-9223372036854775808)) s.H)) fun s=>
 O 24 21 23 s fun s=>
 If 24 s (W86_b2 Φ s) (W86_b3 Φ s)
def W86_b7 (Φ:EP) (s:St):Prop:=
 M 36 6 s fun s=>
 M 4 36 s fun s=>
 I 5 0 s fun s=>
 Φ .ret s
def W86_b8 (Φ:EP) (s:St):Prop:=
 I 4 0 s fun s=>
 I 5 8 s fun s=>
 Φ .ret s
def W86_b9 (Φ:EP) (s:St):Prop:=
 M 28 0 s fun s=>
 M 29 1 s fun s=>
 B 30 .mul false 28 29 s fun s=>
 M 6 30 s fun s=>
 M 31 6 s fun s=>
 M 32 1 s fun s=>
 B 33 .quo false 31 32 s fun s=>
 M 34 0 s fun s=>
 B 35 .eql false 33 34 s fun s=>
 If 35 s (W86_b7 Φ s) (W86_b8 Φ s)
def W86_b12 (Φ:EP) (s:St):Prop:=
 M 13 0 s fun s=>
 J 14 .eql false 13 (-1) s fun s=>
 M 15 14 s fun s=>
 gm 16 1 15 false s fun s=>
 go 17 15 false s (fun s=>(xBin .eql false (s.τ 16) (.int .i64 (-1)) s.H)) fun s=>
 O 18 15 17 s fun s=>
 If 18 s (W86_b6 Φ s) (W86_b9 Φ s)
def W86 (Φ:EP) (s:St):Prop:=
 I 4 0 s fun s=>
 I 5 0 s fun s=>
 M 7 0 s fun s=>
 J 8 .eql false 7 0 s fun s=>
 M 9 8 s fun s=>
 gm 10 1 9 false s fun s=>
 go 11 9 false s (fun s=>(xBin .eql false (s.τ 10) (.int .i64 0) s.H)) fun s=>
 O 12 9 11 s fun s=>
 If 12 s (W86_b1 Φ s) (W86_b12 Φ s)
theorem W86_rs (τ:Nat → AV) (H:Heap):resV Tryz.prog τ H [.tmp 4,.tmp 5] = ob (ob (some (τ 4)) fun v=>ob (ob (some (τ 5)) fun v=>ob (some []) fun vs=>some (v :: vs)) fun vs=>some (v :: vs)) fun vs=>some (.tup vs):=by kernel_rfl
theorem W86_eq:EqW Tryz.prog Tryz.f86 W86:=fun _ _=>by kernel_rfl
theorem W86_S:SpW Tryz.prog 86 37 [.tmp 4,.tmp 5] W86:=spW Tryz.func86 Tryz.ntmps86 W86_eq
-- 87 "penance/expr.two"
def W87_b2 (Φ:EP) (s:St):Prop:=
 M 11 1 s fun s=>
 M 12 2 s fun s=>
 Ca Tryz.prog 86 [(s.τ 11),(s.τ 12)] 13 s fun s=>
 E 14 13 0 s fun s=>
 E 15 13 1 s fun s=>
 M 6 14 s fun s=>
 M 7 15 s fun s=>
 Φ .ret s
def W87_b4 (Φ:EP) (s:St):Prop:=
 M 18 1 s fun s=>
 M 19 2 s fun s=>
 Ca Tryz.prog 115 [(s.τ 18),(s.τ 19)] 20 s fun s=>
 E 21 20 0 s fun s=>
 E 22 20 1 s fun s=>
 M 6 21 s fun s=>
 M 7 22 s fun s=>
 Φ .ret s
def W87_b5 (Φ:EP) (s:St):Prop:=
 I 6 0 s fun s=>
 I 7 8 s fun s=>
 Φ .ret s
def W87_b6 (Φ:EP) (s:St):Prop:=
 M 29 1 s fun s=>
 M 30 2 s fun s=>
 B 31 .sub false 29 30 s fun s=>
 M 6 31 s fun s=>
 I 7 0 s fun s=>
 Φ .ret s
def W87_b7 (Φ:EP) (s:St):Prop:=
 M 27 1 s fun s=>
 J 28 .geq false 27 0 s fun s=>
 If 28 s (W87_b5 Φ s) (W87_b6 Φ s)
def W87_b9 (Φ:EP) (s:St):Prop:=
 M 32 1 s fun s=>
 M 33 2 s fun s=>
 @sOp (some 34) (xNeg (s.τ 33) s.H) s<|.mk fun s=>
 Ca Tryz.prog 115 [(s.τ 32),(s.τ 34)] 35 s fun s=>
 E 36 35 0 s fun s=>
 E 37 35 1 s fun s=>
 M 6 36 s fun s=>
 M 7 37 s fun s=>
 Φ .ret s
def W87_b10 (Φ:EP) (s:St):Prop:=
 M 25 2 s fun s=>
 J 26 .eql false 25 (-9223372036854775808) s fun s=>
 If 26 s (W87_b7 Φ s) (W87_b9 Φ s)
def W87_b11 (Φ:EP) (s:St):Prop:=
 I 6 0 s fun s=>
 I 7 9 s fun s=>
 Φ .ret s
def W87_b12 (Φ:EP) (s:St):Prop:=
 I 6 0 s fun s=>
 I 7 0 s fun s=>
 Φ .ret s
def W87_b14 (Φ:EP) (s:St):Prop:=
 M 54 1 s fun s=>
 M 55 2 s fun s=>
 Ca Tryz.prog 86 [(s.τ 54),(s.τ 55)] 56 s fun s=>
 E 57 56 0 s fun s=>
 E 58 56 1 s fun s=>
 M 6 57 s fun s=>
 M 7 58 s fun s=>
 Φ .ret s
def W87_b15 (Φ:EP) (s:St):Prop:=
 M 62 1 s fun s=>
 M 63 2 s fun s=>
 B 64 .rem false 62 63 s fun s=>
 M 6 64 s fun s=>
 I 7 0 s fun s=>
 Φ .ret s
def W87_b16 (Φ:EP) (s:St):Prop:=
 M 65 1 s fun s=>
 M 66 2 s fun s=>
 B 67 .quo false 65 66 s fun s=>
 M 6 67 s fun s=>
 I 7 0 s fun s=>
 Φ .ret s
def W87_b17 (Φ:EP) (s:St):Prop:=
 M 60 0 s fun s=>
 J 61 .eql false 60 7 s fun s=>
 M 59 61 s fun s=>
 If 59 s (W87_b15 Φ s) (W87_b16 Φ s)
def W87_b18 (Φ:EP) (s:St):Prop:=
 M 52 2 s fun s=>
 J 53 .eql false 52 (-1) s fun s=>
 M 51 53 s fun s=>
 If 51 s (W87_b14 Φ s) (W87_b17 Φ s)
def W87_b21 (Φ:EP) (s:St):Prop:=
 M 45 2 s fun s=>
 J 46 .eql false 45 (-1) s fun s=>
 M 47 46 s fun s=>
 gm 48 0 47 true s fun s=>
 go 49 47 true s (fun s=>(xBin .eql false (s.τ 48) (.int .i64 7) s.H)) fun s=>
 A 50 47 49 s fun s=>
 M 44 50 s fun s=>
 If 44 s (W87_b12 Φ s) (W87_b18 Φ s)
def W87_b22 (Φ:EP) (s:St):Prop:=
 M 42 2 s fun s=>
 J 43 .eql false 42 0 s fun s=>
 M 41 43 s fun s=>
 If 41 s (W87_b11 Φ s) (W87_b21 Φ s)
def W87_b24 (Φ:EP) (s:St):Prop:=
 M 70 1 s fun s=>
 M 71 2 s fun s=>
 B 72 .eql false 70 71 s fun s=>
 Ca Tryz.prog 85 [(s.τ 72)] 73 s fun s=>
 M 6 73 s fun s=>
 I 7 0 s fun s=>
 Φ .ret s
def W87_b26 (Φ:EP) (s:St):Prop:=
 M 76 1 s fun s=>
 M 77 2 s fun s=>
 B 78 .neq false 76 77 s fun s=>
 Ca Tryz.prog 85 [(s.τ 78)] 79 s fun s=>
 M 6 79 s fun s=>
 I 7 0 s fun s=>
 Φ .ret s
def W87_b28 (Φ:EP) (s:St):Prop:=
 M 82 1 s fun s=>
 M 83 2 s fun s=>
 B 84 .lss false 82 83 s fun s=>
 Ca Tryz.prog 85 [(s.τ 84)] 85 s fun s=>
 M 6 85 s fun s=>
 I 7 0 s fun s=>
 Φ .ret s
def W87_b30 (Φ:EP) (s:St):Prop:=
 M 88 1 s fun s=>
 M 89 2 s fun s=>
 B 90 .leq false 88 89 s fun s=>
 Ca Tryz.prog 85 [(s.τ 90)] 91 s fun s=>
 M 6 91 s fun s=>
 I 7 0 s fun s=>
 Φ .ret s
def W87_b32 (Φ:EP) (s:St):Prop:=
 M 94 1 s fun s=>
 M 95 2 s fun s=>
 B 96 .gtr false 94 95 s fun s=>
 Ca Tryz.prog 85 [(s.τ 96)] 97 s fun s=>
 M 6 97 s fun s=>
 I 7 0 s fun s=>
 Φ .ret s
def W87_b34 (Φ:EP) (s:St):Prop:=
 M 98 1 s fun s=>
 M 99 2 s fun s=>
 B 100 .geq false 98 99 s fun s=>
 Ca Tryz.prog 85 [(s.τ 100)] 101 s fun s=>
 M 6 101 s fun s=>
 I 7 0 s fun s=>
 Φ .ret s
def W87_b35 (Φ:EP) (s:St):Prop:=
 J 93 .eql false 8 14 s fun s=>
 M 92 93 s fun s=>
 If 92 s (W87_b32 Φ s) (W87_b34 Φ s)
def W87_b36 (Φ:EP) (s:St):Prop:=
 J 87 .eql false 8 13 s fun s=>
 M 86 87 s fun s=>
 If 86 s (W87_b30 Φ s) (W87_b35 Φ s)
def W87_b37 (Φ:EP) (s:St):Prop:=
 J 81 .eql false 8 12 s fun s=>
 M 80 81 s fun s=>
 If 80 s (W87_b28 Φ s) (W87_b36 Φ s)
def W87_b38 (Φ:EP) (s:St):Prop:=
 J 75 .eql false 8 11 s fun s=>
 M 74 75 s fun s=>
 If 74 s (W87_b26 Φ s) (W87_b37 Φ s)
def W87_b39 (Φ:EP) (s:St):Prop:=
 J 69 .eql false 8 10 s fun s=>
 M 68 69 s fun s=>
 If 68 s (W87_b24 Φ s) (W87_b38 Φ s)
def W87_k40 (Φ:EP) (s:St):Prop:=
 If 38 s (W87_b22 Φ s) (W87_b39 Φ s)
def W87_b41 (Φ:EP) (s:St):Prop:=
 J 40 .eql false 8 7 s fun s=>
 M 38 40 s fun s=>
 W87_k40 Φ s
def W87_b42 (Φ:EP) (s:St):Prop:=
 J 39 .eql false 8 6 s fun s=>
 M 38 39 s fun s=>
 If 38 s (W87_k40 Φ s) (W87_b41 Φ s)
def W87_b43 (Φ:EP) (s:St):Prop:=
 J 24 .eql false 8 9 s fun s=>
 M 23 24 s fun s=>
 If 23 s (W87_b10 Φ s) (W87_b42 Φ s)
def W87_b44 (Φ:EP) (s:St):Prop:=
 J 17 .eql false 8 8 s fun s=>
 M 16 17 s fun s=>
 If 16 s (W87_b4 Φ s) (W87_b43 Φ s)
def W87 (Φ:EP) (s:St):Prop:=
 I 6 0 s fun s=>
 I 7 0 s fun s=>
 M 8 0 s fun s=>
 J 10 .eql false 8 5 s fun s=>
 M 9 10 s fun s=>
 If 9 s (W87_b2 Φ s) (W87_b44 Φ s)
theorem W87_rs (τ:Nat → AV) (H:Heap):resV Tryz.prog τ H [.tmp 6,.tmp 7] = ob (ob (some (τ 6)) fun v=>ob (ob (some (τ 7)) fun v=>ob (some []) fun vs=>some (v :: vs)) fun vs=>some (v :: vs)) fun vs=>some (.tup vs):=by kernel_rfl
theorem W87_eq:EqW Tryz.prog Tryz.f87 W87:=fun _ _=>by kernel_rfl
theorem W87_S:SpW Tryz.prog 87 102 [.tmp 6,.tmp 7] W87:=spW Tryz.func87 Tryz.ntmps87 W87_eq
-- 88 "penance/stacks.ownTerm"
def W88 (Φ:EP) (s:St):Prop:=
 Y 1 35 0 s fun s=>
 Z 2 35 z9 s fun s=>
 F 3 4 1 s fun u1=>
 L 4 4 3 true u1 fun u2=>
 C0 Tryz.prog 116 [(u2.τ 4)] 5 u2 fun u3=>
 @sChk (compat (cfp 5 116 [(u2.τ 4)]) (occ (u3.τ 1),[])) <| .mk <|
 F 6 8 1 u3 fun u4=>
 @sChk (compat (cfp 5 116 [(u2.τ 4)]) (occ (u4.τ 6),[])) <| .mk <|
 L 7 1 6 false u4 fun u5=>
 C0 Tryz.prog 104 [(u5.τ 7),(.func 88 [])] 8 u5 fun u6=>
 @sChk (compat ([8] ++ withM (occ (.func 104 []) ++ occL [(u5.τ 7),(.func 88 [])]),[8] ++ withM (occ (.func 104 []) ++ occL [(u5.τ 7),(.func 88 [])])) (occ (u6.τ 1),[])) <| .mk <|
 F 9 4 1 u6 fun u7=>
 U 4 9 5 u7 fun u8=>
 F 10 8 1 u8 fun u9=>
 U 1 10 8 u9 fun s=>
 L 11 9 1 true s fun s=>
 U 9 2 11 s fun s=>
 Φ .ret s
theorem W88_rs (τ:Nat → AV) (H:Heap):resV Tryz.prog τ H [.cell 2 35] = rdV H 9 true (τ 2):=by kernel_rfl
theorem W88_eq:EqW Tryz.prog Tryz.f88 W88:=fun _ _=>by kernel_rfl
theorem W88_S:SpW Tryz.prog 88 12 [.cell 2 35] W88:=spW Tryz.func88 Tryz.ntmps88 W88_eq
-- 89 "penance/penanceref2.Eval"
def W89_b1 (Φ:EP) (s:St):Prop:=
 F 14 1 2 s fun s=>
 L 15 1 14 false s fun s=>
 M 4 15 s fun s=>
 I 5 0 s fun s=>
 Φ .ret s
def W89_b2 (Φ:EP) (s:St):Prop:=
 M 18 1 s fun s=>
 F 19 1 2 s fun s=>
 L 20 1 19 false s fun s=>
 X 21 1 18 20 s fun s=>
 L 22 1 21 false s fun s=>
 M 4 22 s fun s=>
 I 5 0 s fun s=>
 Φ .ret s
def W89_b3 (Φ:EP) (s:St):Prop:=
 M 35 7 s fun s=>
 I 4 0 s fun s=>
 M 5 35 s fun s=>
 Φ .ret s
def W89_b5 (Φ:EP) (s:St):Prop:=
 M 40 6 s fun s=>
 J 41 .eql false 40 0 s fun s=>
 Ca Tryz.prog 117 [(s.τ 41)] 42 s fun s=>
 E 43 42 0 s fun s=>
 E 44 42 1 s fun s=>
 M 4 43 s fun s=>
 M 5 44 s fun s=>
 Φ .ret s
def W89_b6 (Φ:EP) (s:St):Prop:=
 I 4 0 s fun s=>
 I 5 8 s fun s=>
 Φ .ret s
def W89_b7 (Φ:EP) (s:St):Prop:=
 M 57 6 s fun s=>
 @sOp (some 58) (xBin .sub false (.int .i64 0) (s.τ 57) s.H) s<|.mk fun s=>
 M 4 58 s fun s=>
 I 5 0 s fun s=>
 Φ .ret s
def W89_b8 (Φ:EP) (s:St):Prop:=
 I 4 0 s fun s=>
 I 5 0 s fun s=>
 Φ .ret s
def W89_b9 (Φ:EP) (s:St):Prop:=
 I 4 1 s fun s=>
 I 5 0 s fun s=>
 Φ .ret s
def W89_b10 (Φ:EP) (s:St):Prop:=
 M 87 9 s fun s=>
 I 4 0 s fun s=>
 M 5 87 s fun s=>
 Φ .ret s
def W89_b12 (Φ:EP) (s:St):Prop:=
 M 97 8 s fun s=>
 J 98 .neq false 97 0 s fun s=>
 Ca Tryz.prog 117 [(s.τ 98)] 99 s fun s=>
 E 100 99 0 s fun s=>
 E 101 99 1 s fun s=>
 M 4 100 s fun s=>
 M 5 101 s fun s=>
 Φ .ret s
def W89_b14 (Φ:EP) (s:St):Prop:=
 F 106 0 2 s fun s=>
 L 107 1 106 false s fun s=>
 M 108 6 s fun s=>
 M 109 8 s fun s=>
 Ca Tryz.prog 118 [(s.τ 107),(s.τ 108),(s.τ 109)] 110 s fun s=>
 E 111 110 0 s fun s=>
 E 112 110 1 s fun s=>
 M 4 111 s fun s=>
 M 5 112 s fun s=>
 Φ .ret s
def W89_b16 (Φ:EP) (s:St):Prop:=
 F 113 0 2 s fun s=>
 L 114 1 113 false s fun s=>
 M 115 6 s fun s=>
 M 116 8 s fun s=>
 Ca Tryz.prog 119 [(s.τ 114),(s.τ 115),(s.τ 116)] 117 s fun s=>
 E 118 117 0 s fun s=>
 E 119 117 1 s fun s=>
 M 4 118 s fun s=>
 M 5 119 s fun s=>
 Φ .ret s
def W89_b17 (Φ:EP) (s:St):Prop:=
 F 103 0 2 s fun s=>
 L 104 1 103 false s fun s=>
 J 105 .geq false 104 10 s fun s=>
 M 102 105 s fun s=>
 If 102 s (W89_b14 Φ s) (W89_b16 Φ s)
def W89_b21 (Φ:EP) (s:St):Prop:=
 F 89 0 2 s fun s=>
 L 90 1 89 false s fun s=>
 J 91 .eql false 90 16 s fun s=>
 M 92 91 s fun s=>
 gf 93 0 2 92 false s fun s=>
 gl 94 1 93 92 false false s fun s=>
 go 95 92 false s (fun s=>(xBin .eql false (s.τ 94) (.int .i64 17) s.H)) fun s=>
 O 96 92 95 s fun s=>
 M 88 96 s fun s=>
 If 88 s (W89_b12 Φ s) (W89_b17 Φ s)
def W89_b23 (Φ:EP) (s:St):Prop:=
 F 76 3 2 s fun s=>
 L 77 1 76 false s fun s=>
 @sOp (some 78) (xIx 4 (s.τ 77) (.int .i64 1) s.H) s<|.mk fun s=>
 L 79 4 78 true s fun s=>
 M 80 1 s fun s=>
 Ca Tryz.prog 89 [(s.τ 79),(s.τ 80)] 81 s fun s=>
 M 75 81 s fun s=>
 E 82 75 0 s fun s=>
 E 83 75 1 s fun s=>
 M 8 82 s fun s=>
 M 9 83 s fun s=>
 M 85 9 s fun s=>
 J 86 .neq false 85 0 s fun s=>
 M 84 86 s fun s=>
 If 84 s (W89_b10 Φ s) (W89_b21 Φ s)
def W89_b26 (Φ:EP) (s:St):Prop:=
 F 68 0 2 s fun s=>
 L 69 1 68 false s fun s=>
 J 70 .eql false 69 17 s fun s=>
 M 71 70 s fun s=>
 gm 72 6 71 true s fun s=>
 go 73 71 true s (fun s=>(xBin .neq false (s.τ 72) (.int .i64 0) s.H)) fun s=>
 A 74 71 73 s fun s=>
 M 67 74 s fun s=>
 If 67 s (W89_b9 Φ s) (W89_b23 Φ s)
def W89_b29 (Φ:EP) (s:St):Prop:=
 F 60 0 2 s fun s=>
 L 61 1 60 false s fun s=>
 J 62 .eql false 61 16 s fun s=>
 M 63 62 s fun s=>
 gm 64 6 63 true s fun s=>
 go 65 63 true s (fun s=>(xBin .eql false (s.τ 64) (.int .i64 0) s.H)) fun s=>
 A 66 63 65 s fun s=>
 M 59 66 s fun s=>
 If 59 s (W89_b8 Φ s) (W89_b26 Φ s)
def W89_b30 (Φ:EP) (s:St):Prop:=
 F 54 0 2 s fun s=>
 L 55 1 54 false s fun s=>
 J 56 .eql false 55 4 s fun s=>
 M 53 56 s fun s=>
 If 53 s (W89_b7 Φ s) (W89_b29 Φ s)
def W89_b33 (Φ:EP) (s:St):Prop:=
 F 46 0 2 s fun s=>
 L 47 1 46 false s fun s=>
 J 48 .eql false 47 4 s fun s=>
 M 49 48 s fun s=>
 gm 50 6 49 true s fun s=>
 go 51 49 true s (fun s=>(xBin .eql false (s.τ 50) (.int .i64 (-9223372036854775808)) s.H)) fun s=>
 A 52 49 51 s fun s=>
 M 45 52 s fun s=>
 If 45 s (W89_b6 Φ s) (W89_b30 Φ s)
def W89_b34 (Φ:EP) (s:St):Prop:=
 F 37 0 2 s fun s=>
 L 38 1 37 false s fun s=>
 J 39 .eql false 38 3 s fun s=>
 M 36 39 s fun s=>
 If 36 s (W89_b5 Φ s) (W89_b33 Φ s)
def W89_b36 (Φ:EP) (s:St):Prop:=
 F 24 3 2 s fun s=>
 L 25 1 24 false s fun s=>
 @sOp (some 26) (xIx 4 (s.τ 25) (.int .i64 0) s.H) s<|.mk fun s=>
 L 27 4 26 true s fun s=>
 M 28 1 s fun s=>
 Ca Tryz.prog 89 [(s.τ 27),(s.τ 28)] 29 s fun s=>
 M 23 29 s fun s=>
 E 30 23 0 s fun s=>
 E 31 23 1 s fun s=>
 M 6 30 s fun s=>
 M 7 31 s fun s=>
 M 33 7 s fun s=>
 J 34 .neq false 33 0 s fun s=>
 M 32 34 s fun s=>
 If 32 s (W89_b3 Φ s) (W89_b34 Φ s)
def W89_b37 (Φ:EP) (s:St):Prop:=
 J 17 .eql false 11 2 s fun s=>
 M 16 17 s fun s=>
 If 16 s (W89_b2 Φ s) (W89_b36 Φ s)
def W89 (Φ:EP) (s:St):Prop:=
 Y 2 33 0 s fun s=>
 I 4 0 s fun s=>
 I 5 0 s fun s=>
 F 10 0 2 s fun s=>
 L 11 1 10 false s fun s=>
 J 13 .eql false 11 1 s fun s=>
 M 12 13 s fun s=>
 If 12 s (W89_b1 Φ s) (W89_b37 Φ s)
theorem W89_rs (τ:Nat → AV) (H:Heap):resV Tryz.prog τ H [.tmp 4,.tmp 5] = ob (ob (some (τ 4)) fun v=>ob (ob (some (τ 5)) fun v=>ob (some []) fun vs=>some (v :: vs)) fun vs=>some (v :: vs)) fun vs=>some (.tup vs):=by kernel_rfl
theorem W89_eq:EqW Tryz.prog Tryz.f89 W89:=fun _ _=>by kernel_rfl
theorem W89_S:SpW Tryz.prog 89 120 [.tmp 4,.tmp 5] W89:=spW Tryz.func89 Tryz.ntmps89 W89_eq
-- 90 "penance/penanceref8.stacked"
def W90_k1 (Φ:EP) (s:St):Prop:=
 Bd 68 z9 [] s fun s=>
 U 9 4 68 s fun s=>
 Φ .ret s
def W90_b3 (Φ:EP) (s:St):Prop:=
 M 11 0 s fun s=>
 M 12 0 s fun s=>
 @sOp (some 13) (xNil (s.τ 12) s.H) s<|.mk fun s=>
 F 14 10 13 s fun s=>
 L 15 1 14 false s fun s=>
 F 16 1 3 s fun s=>
 L 17 1 16 false s fun s=>
 F 18 8 3 s fun s=>
 L 19 1 18 false s fun s=>
 @sOp (some 20) (xIx 9 (s.τ 19) (.int .i64 0) s.H) s<|.mk fun s=>
 L 21 9 20 true s fun s=>
 C0 Tryz.prog 120 [(s.τ 15),(s.τ 17),(s.τ 21)] 22 s fun s=>
 @sOp (some 23) (xNil (s.τ 11) s.H) s<|.mk fun s=>
 F 24 10 23 s fun s=>
 U 1 24 22 s fun s=>
 W90_k1 Φ s
def W90_b5 (Φ:EP) (s:St):Prop:=
 M 28 0 s fun u1=>
 @sOp (some 29) (xNil (u1.τ 28) u1.H) u1<|.mk fun u2=>
 F 30 10 29 u2 fun u3=>
 L 31 1 30 false u3 fun u4=>
 F 32 1 3 u4 fun u5=>
 L 33 1 32 false u5 fun u6=>
 C0 Tryz.prog 121 [(u6.τ 31),(u6.τ 33)] 34 u6 fun u7=>
 M 27 34 u7 fun u8=>
 E 35 27 0 u8 fun u9=>
 E 36 27 1 u9 fun u10=>
 k1 (u1.τ 28) 5 <|
 k1 (u2.τ 29) 5 <|
 k1 (u3.τ 30) 5 <|
 k1 (u4.τ 3) 5 <|
 k1 (u5.τ 32) 5 <|
 k2 (cfp 34 121 [(u6.τ 31),(u6.τ 33)]) 5 <|
 Z 5 35 z9 u10 fun u11=>
 U 9 5 35 u11 fun u12=>
 M 6 36 u12 fun s=>
 M 37 0 s fun s=>
 M 38 6 s fun s=>
 @sOp (some 39) (xNil (s.τ 37) s.H) s<|.mk fun s=>
 F 40 10 39 s fun s=>
 U 1 40 38 s fun s=>
 L 41 9 5 true s fun s=>
 U 9 4 41 s fun s=>
 Φ .ret s
def W90_b7 (Φ:EP) (s:St):Prop:=
 M 44 0 s fun s=>
 M 45 0 s fun s=>
 @sOp (some 46) (xNil (s.τ 45) s.H) s<|.mk fun s=>
 F 47 10 46 s fun s=>
 L 48 1 47 false s fun s=>
 F 49 1 3 s fun s=>
 L 50 1 49 false s fun s=>
 C0 Tryz.prog 122 [(s.τ 48),(s.τ 50)] 51 s fun s=>
 @sOp (some 52) (xNil (s.τ 44) s.H) s<|.mk fun s=>
 F 53 10 52 s fun s=>
 U 1 53 51 s fun s=>
 W90_k1 Φ s
def W90_b9 (Φ:EP) (s:St):Prop:=
 M 56 0 s fun s=>
 M 57 0 s fun s=>
 @sOp (some 58) (xNil (s.τ 57) s.H) s<|.mk fun s=>
 F 59 10 58 s fun s=>
 L 60 1 59 false s fun s=>
 F 61 1 3 s fun s=>
 L 62 1 61 false s fun s=>
 F 63 2 3 s fun s=>
 L 64 1 63 false s fun s=>
 C0 Tryz.prog 123 [(s.τ 60),(s.τ 62),(s.τ 64)] 65 s fun s=>
 @sOp (some 66) (xNil (s.τ 56) s.H) s<|.mk fun s=>
 F 67 10 66 s fun s=>
 U 1 67 65 s fun s=>
 W90_k1 Φ s
def W90_b10 (Φ:EP) (s:St):Prop:=
 J 55 .eql false 8 6 s fun s=>
 M 54 55 s fun s=>
 If 54 s (W90_b9 Φ s) (W90_k1 Φ s)
def W90_b11 (Φ:EP) (s:St):Prop:=
 J 43 .eql false 8 5 s fun s=>
 M 42 43 s fun s=>
 If 42 s (W90_b7 Φ s) (W90_b10 Φ s)
def W90_b12 (Φ:EP) (s:St):Prop:=
 J 26 .eql false 8 4 s fun s=>
 M 25 26 s fun s=>
 If 25 s (W90_b5 Φ s) (W90_b11 Φ s)
def W90 (Φ:EP) (s:St):Prop:=
 Y 3 35 1 s fun s=>
 Z 4 35 z9 s fun s=>
 F 7 0 3 s fun s=>
 L 8 1 7 false s fun s=>
 J 10 .eql false 8 3 s fun s=>
 M 9 10 s fun s=>
 If 9 s (W90_b3 Φ s) (W90_b12 Φ s)
theorem W90_rs (τ:Nat → AV) (H:Heap):resV Tryz.prog τ H [.cell 4 35] = rdV H 9 true (τ 4):=by kernel_rfl
theorem W90_eq:EqW Tryz.prog Tryz.f90 W90:=fun _ _=>by kernel_rfl
theorem W90_S:SpW Tryz.prog 90 69 [.cell 4 35] W90:=spW Tryz.func90 Tryz.ntmps90 W90_eq
-- 95 "penance/penancelaw2.size"
def W95_b1 (Φ:EP) (s:St):Prop:=
 I 4 1000 s fun s=>
 Φ .ret s
def W95_k2 (Φ:EP) (s:St):Prop:=
 M 30 5 s fun s=>
 M 4 30 s fun s=>
 Φ .ret s
def W95_b4 (Φ:EP) (L0:SP) (s:St):Prop:=
 M 19 5 s fun s=>
 J 20 .add false 19 1 s fun s=>
 M 21 0 s fun s=>
 M 22 6 s fun s=>
 X 23 3 21 22 s fun s=>
 F 24 2 23 s fun s=>
 L 25 1 24 false s fun s=>
 M 26 1 s fun s=>
 J 27 .add false 26 1 s fun s=>
 Ca Tryz.prog 95 [(s.τ 25),(s.τ 27)] 28 s fun s=>
 B 29 .add false 20 28 s fun s=>
 M 5 29 s fun s=>
 M 17 6 s fun s=>
 J 18 .add false 17 1 s fun s=>
 M 6 18 s fun s=>
 L0 s
def W95_l7 (Φ:EP) (L0:SP) (s:St):Prop:=
 M 9 6 s fun s=>
 M 10 0 s fun s=>
 N 11 10 s fun s=>
 B 12 .lss false 9 11 s fun s=>
 M 13 12 s fun s=>
 gm 14 5 13 true s fun s=>
 go 15 13 true s (fun s=>(xBin .leq false (s.τ 14) (.int .i64 20) s.H)) fun s=>
 A 16 13 15 s fun s=>
 If 16 s (W95_b4 Φ L0 s) (W95_k2 Φ s)
def W95_b8 (Φ:EP) (s:St):Prop:=
 I 5 0 s fun s=>
 I 6 0 s fun s=>
 @sLoop s ⟨fun L0 s=>W95_l7 Φ L0 s⟩
def W95 (Φ:EP) (s:St):Prop:=
 I 4 0 s fun s=>
 M 7 1 s fun s=>
 J 8 .gtr false 7 8 s fun s=>
 If 8 s (W95_b1 Φ s) (W95_b8 Φ s)
theorem W95_rs (τ:Nat → AV) (H:Heap):resV Tryz.prog τ H [.tmp 4] = some (τ 4):=by kernel_rfl
theorem W95_eq:EqW Tryz.prog Tryz.f95 W95:=fun _ _=>by kernel_rfl
theorem W95_S:SpW Tryz.prog 95 31 [.tmp 4] W95:=spW Tryz.func95 Tryz.ntmps95 W95_eq
-- 96 "(*penance/penanceref4.lower).at"
def W96_k1 (Φ:EP) (s:St):Prop:=
 M 16 7 s fun s=>
 M 6 16 s fun s=>
 Φ .ret s
def W96_b2 (Φ:EP) (s:St):Prop:=
 M 13 0 s fun s=>
 @sOp (some 14) (xNil (s.τ 13) s.H) s<|.mk fun s=>
 F 15 3 14 s fun s=>
 @sOp none (xStore 1 (s.τ 15) (.bool true) s.H) s<|.mk fun s=>
 W96_k1 Φ s
def W96 (Φ:EP) (s:St):Prop:=
 I 6 0 s fun s=>
 M 8 1 s fun s=>
 M 9 2 s fun s=>
 Ca Tryz.prog 67 [(s.τ 8),(s.τ 9)] 10 s fun s=>
 M 7 10 s fun s=>
 M 11 7 s fun s=>
 J 12 .lss false 11 0 s fun s=>
 If 12 s (W96_b2 Φ s) (W96_k1 Φ s)
theorem W96_rs (τ:Nat → AV) (H:Heap):resV Tryz.prog τ H [.tmp 6] = some (τ 6):=by kernel_rfl
theorem W96_eq:EqW Tryz.prog Tryz.f96 W96:=fun _ _=>by kernel_rfl
theorem W96_S:SpW Tryz.prog 96 17 [.tmp 6] W96:=spW Tryz.func96 Tryz.ntmps96 W96_eq
-- 97 "(*penance/penanceref4.lower).expr"
def W97_k1 (Φ:EP) (s:St):Prop:=
 L 43 4 5 true s fun s=>
 U 4 4 43 s fun s=>
 Φ .ret s
def W97_b3 (Φ:EP) (L0:SP) (s:St):Prop:=
 F 31 3 5 s fun u1=>
 L 32 1 31 false u1 fun u2=>
 M 33 0 u2 fun u3=>
 F 34 3 3 u3 fun u4=>
 L 35 1 34 false u4 fun u5=>
 M 36 6 u5 fun u6=>
 X 37 4 35 36 u6 fun u7=>
 L 38 4 37 true u7 fun u8=>
 k3 (s.τ 5) (cfp 39 97 [(u8.τ 33),(u8.τ 38)]) <|
 k3 (u1.τ 31) (cfp 39 97 [(u8.τ 33),(u8.τ 38)]) <|
 C0 Tryz.prog 97 [(u8.τ 33),(u8.τ 38)] 39 u8 fun u9=>
 k3 (s.τ 5) ([40] ++ occL [(u9.τ 39)],[40] ++ occL [(u9.τ 39)]) <|
 k3 (u1.τ 31) ([40] ++ occL [(u9.τ 39)],[40] ++ occL [(u9.τ 39)]) <|
 Lt 40 4 1 z4 [(0,(u9.τ 39))] u9 fun u10=>
 @sOp (some 41) (xApp Tryz.prog 33 4 56 (some 41) (u10.τ 32) (u10.τ 40) u10.H) u10<|.mk fun u11=>
 F 42 3 5 u11 fun u12=>
 U 1 42 41 u12 fun s=>
 M 29 6 s fun s=>
 J 30 .add false 29 1 s fun s=>
 M 6 30 s fun s=>
 L0 s
def W97_l4 (Φ:EP) (L0:SP) (s:St):Prop:=
 M 24 6 s fun s=>
 F 25 3 3 s fun s=>
 L 26 1 25 false s fun s=>
 N 27 26 s fun s=>
 B 28 .lss false 24 27 s fun s=>
 If 28 s (W97_b3 Φ L0 s) (W97_k1 Φ s)
def W97_k5 (Φ:EP) (s:St):Prop:=
 I 6 0 s fun s=>
 @sLoop s ⟨fun L0 s=>W97_l4 Φ L0 s⟩
def W97_b7 (Φ:EP) (s:St):Prop:=
 M 15 0 s fun s=>
 M 16 0 s fun s=>
 @sOp (some 17) (xNil (s.τ 16) s.H) s<|.mk fun s=>
 F 18 0 17 s fun s=>
 L 19 1 18 false s fun s=>
 F 20 2 3 s fun s=>
 L 21 1 20 false s fun s=>
 C0 Tryz.prog 96 [(s.τ 15),(s.τ 19),(s.τ 21)] 22 s fun s=>
 F 23 1 5 s fun s=>
 U 1 23 22 s fun s=>
 W97_k5 Φ s
def W97 (Φ:EP) (s:St):Prop:=
 Y 3 33 1 s fun s=>
 Z 4 33 z4 s fun s=>
 F 7 0 3 s fun s=>
 L 8 1 7 false s fun s=>
 F 9 1 3 s fun s=>
 L 10 1 9 false s fun s=>
 Bd 11 z4 [(0,1,(s.τ 8)),(1,1,(s.τ 10))] s fun s=>
 Z 5 33 z4 s fun s=>
 U 4 5 11 s fun s=>
 F 12 0 3 s fun s=>
 L 13 1 12 false s fun s=>
 J 14 .eql false 13 2 s fun s=>
 If 14 s (W97_b7 Φ s) (W97_k5 Φ s)
theorem W97_rs (τ:Nat → AV) (H:Heap):resV Tryz.prog τ H [.cell 4 33] = rdV H 4 true (τ 4):=by kernel_rfl
theorem W97_eq:EqW Tryz.prog Tryz.f97 W97:=fun _ _=>by kernel_rfl
theorem W97_S:SpW Tryz.prog 97 44 [.cell 4 33] W97:=spW Tryz.func97 Tryz.ntmps97 W97_eq
-- 98 "penance/penanceref4.fronts"
def W98_k1 (Φ:EP) (s:St):Prop:=
 M 37 4 s fun s=>
 M 2 37 s fun s=>
 Φ .ret s
def W98_b3 (Φ:EP) (L0:SP) (s:St):Prop:=
 M 18 3 s fun s=>
 @sOp (some 19) (xNil (s.τ 18) s.H) s<|.mk fun s=>
 F 20 0 19 s fun s=>
 L 21 1 20 false s fun s=>
 N 22 21 s fun s=>
 @sMks (some 23) (fun k=>xMks k 4 1 1 [.bool false] (s.τ 22) (s.τ 22) s.H) s<|.mk fun s=>
 M 6 23 s fun s=>
 M 24 3 s fun s=>
 F 25 2 1 s fun s=>
 L 26 1 25 false s fun s=>
 M 27 5 s fun s=>
 X 28 9 26 27 s fun s=>
 F 29 1 28 s fun s=>
 L 30 8 29 true s fun s=>
 M 31 6 s fun s=>
 Ca Tryz.prog 128 [(s.τ 24),(s.τ 30),(s.τ 31)] 32 s fun s=>
 M 33 4 s fun s=>
 M 34 6 s fun s=>
 @sLit (some 35) (xLit 1 1 [.nils] [(0,(s.τ 34))] s.H) (xLitR 1 1 [.nils] [(0,(s.τ 34))] s.H) s<|.mk fun s=>
 @sOp (some 36) (xApp Tryz.prog 157 1 24 (some 36) (s.τ 33) (s.τ 35) s.H) s<|.mk fun s=>
 M 4 36 s fun s=>
 M 16 5 s fun s=>
 J 17 .add false 16 1 s fun s=>
 M 5 17 s fun s=>
 L0 s
def W98_l4 (Φ:EP) (L0:SP) (s:St):Prop:=
 M 9 5 s fun s=>
 M 10 3 s fun s=>
 @sOp (some 11) (xNil (s.τ 10) s.H) s<|.mk fun s=>
 F 12 0 11 s fun s=>
 L 13 1 12 false s fun s=>
 N 14 13 s fun s=>
 B 15 .lss false 9 14 s fun s=>
 If 15 s (W98_b3 Φ L0 s) (W98_k1 Φ s)
def W98 (Φ:EP) (s:St):Prop:=
 Y 1 76 0 s fun s=>
 @sOp (some 2) (xMov (.nils) s.H) s<|.mk fun s=>
 L 7 3 1 true s fun s=>
 Ca Tryz.prog 127 [(s.τ 7)] 8 s fun s=>
 M 3 8 s fun s=>
 @sOp (some 4) (xMov (.nils) s.H) s<|.mk fun s=>
 I 5 0 s fun s=>
 @sLoop s ⟨fun L0 s=>W98_l4 Φ L0 s⟩
theorem W98_rs (τ:Nat → AV) (H:Heap):resV Tryz.prog τ H [.tmp 2] = some (τ 2):=by kernel_rfl
theorem W98_eq:EqW Tryz.prog Tryz.f98 W98:=fun _ _=>by kernel_rfl
theorem W98_S:SpW Tryz.prog 98 38 [.tmp 2] W98:=spW Tryz.func98 Tryz.ntmps98 W98_eq
-- 99 "(penance/penancelaw3.Raw).part"
def W99_b2 (Φ:EP) (s:St):Prop:=
 F 16 4 3 s fun s=>
 L 17 1 16 false s fun s=>
 M 18 1 s fun s=>
 X 19 5 17 18 s fun s=>
 L 20 5 19 true s fun s=>
 M 21 2 s fun s=>
 J 22 .add false 21 1 s fun s=>
 Ca Tryz.prog 74 [(s.τ 20),(s.τ 22)] 23 s fun s=>
 U 8 6 23 s fun s=>
 Φ .ret s
def W99_b3 (Φ:EP) (s:St):Prop:=
 Bd 24 [.int .i64 0,.str ⟨#[]⟩,.str ⟨#[]⟩,.int .i64 0,.int .i64 0,.str ⟨#[]⟩,.nils,.nils] [(0,1,(.int .i64 0))] s fun s=>
 U 8 6 24 s fun s=>
 Φ .ret s
def W99 (Φ:EP) (s:St):Prop:=
 Y 3 69 0 s fun s=>
 Z 6 80 [.int .i64 0,.str ⟨#[]⟩,.str ⟨#[]⟩,.int .i64 0,.int .i64 0,.str ⟨#[]⟩,.nils,.nils] s fun s=>
 M 7 1 s fun s=>
 F 8 4 3 s fun s=>
 L 9 1 8 false s fun s=>
 N 10 9 s fun s=>
 B 11 .lss false 7 10 s fun s=>
 M 12 11 s fun s=>
 gm 13 2 12 true s fun s=>
 go 14 12 true s (fun s=>(xBin .lss false (s.τ 13) (.int .i64 6) s.H)) fun s=>
 A 15 12 14 s fun s=>
 If 15 s (W99_b2 Φ s) (W99_b3 Φ s)
theorem W99_rs (τ:Nat → AV) (H:Heap):resV Tryz.prog τ H [.cell 6 80] = rdV H 8 true (τ 6):=by kernel_rfl
theorem W99_eq:EqW Tryz.prog Tryz.f99 W99:=fun _ _=>by kernel_rfl
theorem W99_S:SpW Tryz.prog 99 25 [.cell 6 80] W99:=spW Tryz.func99 Tryz.ntmps99 W99_eq
-- 100 "penance/penancelaw2.One"
def W100_b1 (Φ:EP) (s:St):Prop:=
 Bd 8 z4 [(0,1,(.int .i64 1)),(1,1,(.int .i64 1))] s fun s=>
 U 4 4 8 s fun s=>
 Φ .ret s
def W100_b3 (Φ:EP) (s:St):Prop:=
 M 9 0 s fun s=>
 @sOp (some 10) (xIx 3 (s.τ 9) (.int .i64 0) s.H) s<|.mk fun s=>
 L 11 3 10 true s fun s=>
 M 12 1 s fun s=>
 Ca Tryz.prog 129 [(s.τ 11),(s.τ 12)] 13 s fun s=>
 U 4 4 13 s fun s=>
 Φ .ret s
def W100 (Φ:EP) (s:St):Prop:=
 Z 4 33 z4 s fun s=>
 M 5 0 s fun s=>
 N 6 5 s fun s=>
 J 7 .eql false 6 0 s fun s=>
 If 7 s (W100_b1 Φ s) (W100_b3 Φ s)
theorem W100_rs (τ:Nat → AV) (H:Heap):resV Tryz.prog τ H [.cell 4 33] = rdV H 4 true (τ 4):=by kernel_rfl
theorem W100_eq:EqW Tryz.prog Tryz.f100 W100:=fun _ _=>by kernel_rfl
theorem W100_S:SpW Tryz.prog 100 14 [.cell 4 33] W100:=spW Tryz.func100 Tryz.ntmps100 W100_eq
-- 101 "penance/term.ownExpr"
def W101_k2 (Φ:EP) (s:St):Prop:=
 M 23 3 s fun s=>
 Ca Tryz.prog 130 [(s.τ 23)] 24 s fun s=>
 F 25 3 1 s fun s=>
 U 1 25 24 s fun s=>
 L 26 4 1 true s fun s=>
 U 4 2 26 s fun s=>
 Φ .ret s
def W101_b4 (Φ:EP) (L0:SP) (s:St):Prop:=
 X 15 4 11 13 s fun s=>
 L 16 4 15 true s fun s=>
 Z 5 33 z4 s fun s=>
 U 4 5 16 s fun s=>
 M 17 3 s fun s=>
 L 18 4 5 true s fun s=>
 Ca Tryz.prog 101 [(s.τ 18)] 19 s fun s=>
 Lt 20 4 1 z4 [(0,(s.τ 19))] s fun s=>
 @sOp (some 21) (xApp Tryz.prog 33 4 56 (some 21) (s.τ 17) (s.τ 20) s.H) s<|.mk fun s=>
 M 3 21 s fun s=>
 J 22 .add false 13 1 s fun s=>
 M 13 22 s fun s=>
 L0 s
def W101_l5 (Φ:EP) (L0:SP) (s:St):Prop:=
 B 14 .lss false 13 12 s fun s=>
 If 14 s (W101_b4 Φ L0 s) (W101_k2 Φ s)
def W101 (Φ:EP) (s:St):Prop:=
 Y 1 33 0 s fun s=>
 Z 2 33 z4 s fun s=>
 F 6 3 1 s fun s=>
 L 7 1 6 false s fun s=>
 N 8 7 s fun s=>
 @sOp (some 9) (xMks 9 33 4 56 z4 (.int .i64 0) (s.τ 8) s.H) s<|.mk fun s=>
 M 3 9 s fun s=>
 F 10 3 1 s fun s=>
 L 11 1 10 false s fun s=>
 N 12 11 s fun s=>
 I 13 0 s fun s=>
 @sLoop s ⟨fun L0 s=>W101_l5 Φ L0 s⟩
theorem W101_rs (τ:Nat → AV) (H:Heap):resV Tryz.prog τ H [.cell 2 33] = rdV H 4 true (τ 2):=by kernel_rfl
theorem W101_eq:EqW Tryz.prog Tryz.f101 W101:=fun _ _=>by kernel_rfl
theorem W101_S:SpW Tryz.prog 101 27 [.cell 2 33] W101:=spW Tryz.func101 Tryz.ntmps101 W101_eq
-- 102 "penance/stacks.mapped[[]penance/api.Term]"
def W102_k2 (Φ:EP) (s:St):Prop:=
 M 22 5 s fun s=>
 N 23 22 s fun s=>
 M 8 23 s fun s=>
 M 24 5 s fun s=>
 M 25 8 s fun s=>
 M 26 8 s fun s=>
 @sOp (some 27) (xSl3 1 (s.τ 24) (s.τ 25) (s.τ 26) (frz s.H (s.τ 24))) s<|.mk fun s=>
 Ca Tryz.prog 131 [(s.τ 27)] 28 s fun s=>
 M 4 28 s fun s=>
 Φ .ret s
def W102_b4 (Φ:EP) (L0:SP) (s:St):Prop:=
 X 13 1 9 11 s fun s=>
 L 14 1 13 false s fun s=>
 M 7 14 s fun s=>
 M 15 5 s fun s=>
 M 16 1 s fun s=>
 M 17 7 s fun s=>
 @sCall Tryz.prog (s.τ 16) [(s.τ 17)] (some 18) s<|.mk fun s=>
 @sLit (some 19) (xLit 1 1 [.nils] [(0,(s.τ 18))] s.H) (xLitR 1 1 [.nils] [(0,(s.τ 18))] s.H) s<|.mk fun s=>
 @sOp (some 20) (xApp Tryz.prog 27 1 24 (some 20) (s.τ 15) (s.τ 19) s.H) s<|.mk fun s=>
 M 5 20 s fun s=>
 J 21 .add false 11 1 s fun s=>
 M 11 21 s fun s=>
 L0 s
def W102_l5 (Φ:EP) (L0:SP) (s:St):Prop:=
 B 12 .lss false 11 10 s fun s=>
 If 12 s (W102_b4 Φ L0 s) (W102_k2 Φ s)
def W102 (Φ:EP) (s:St):Prop:=
 @sOp (some 4) (xMov (.nils) s.H) s<|.mk fun s=>
 @sOp (some 5) (xMov (.nils) s.H) s<|.mk fun s=>
 M 9 0 s fun s=>
 N 10 9 s fun s=>
 I 11 0 s fun s=>
 @sLoop s ⟨fun L0 s=>W102_l5 Φ L0 s⟩
theorem W102_rs (τ:Nat → AV) (H:Heap):resV Tryz.prog τ H [.tmp 4] = some (τ 4):=by kernel_rfl
theorem W102_eq:EqW Tryz.prog Tryz.f102 W102:=fun _ _=>by kernel_rfl
theorem W102_S:SpW Tryz.prog 102 29 [.tmp 4] W102:=spW Tryz.func102 Tryz.ntmps102 W102_eq
-- 103 "penance/stacks.own$1"
def W103 (Φ:EP) (s:St):Prop:=
 @sOp (some 2) (xMov (.nils) s.H) s<|.mk fun s=>
 M 3 0 s fun s=>
 Ca Tryz.prog 104 [(s.τ 3),(.func 88 [])] 4 s fun s=>
 M 2 4 s fun s=>
 Φ .ret s
theorem W103_rs (τ:Nat → AV) (H:Heap):resV Tryz.prog τ H [.tmp 2] = some (τ 2):=by kernel_rfl
theorem W103_eq:EqW Tryz.prog Tryz.f103 W103:=fun _ _=>by kernel_rfl
theorem W103_S:SpW Tryz.prog 103 5 [.tmp 2] W103:=spW Tryz.func103 Tryz.ntmps103 W103_eq
-- 104 "penance/stacks.mapped[penance/api.Term]"
def W104_k2 (Φ:EP) (s:St):Prop:=
 M 22 5 s fun s=>
 N 23 22 s fun s=>
 M 8 23 s fun s=>
 M 24 5 s fun s=>
 M 25 8 s fun s=>
 M 26 8 s fun s=>
 @sOp (some 27) (xSl3 9 (s.τ 24) (s.τ 25) (s.τ 26) (frz s.H (s.τ 24))) s<|.mk fun s=>
 Ca Tryz.prog 82 [(s.τ 27)] 28 s fun s=>
 M 4 28 s fun s=>
 Φ .ret s
def W104_b4 (Φ:EP) (L0:SP) (s:St):Prop:=
 X 13 9 9 11 s fun s=>
 L 14 9 13 true s fun s=>
 Z 7 35 z9 s fun s=>
 U 9 7 14 s fun s=>
 M 15 5 s fun s=>
 M 16 1 s fun s=>
 L 17 9 7 true s fun s=>
 @sCall Tryz.prog (s.τ 16) [(s.τ 17)] (some 18) s<|.mk fun s=>
 Lt 19 9 1 z9 [(0,(s.τ 18))] s fun s=>
 @sOp (some 20) (xApp Tryz.prog 35 9 120 (some 20) (s.τ 15) (s.τ 19) s.H) s<|.mk fun s=>
 M 5 20 s fun s=>
 J 21 .add false 11 1 s fun s=>
 M 11 21 s fun s=>
 L0 s
def W104_l5 (Φ:EP) (L0:SP) (s:St):Prop:=
 B 12 .lss false 11 10 s fun s=>
 If 12 s (W104_b4 Φ L0 s) (W104_k2 Φ s)
def W104 (Φ:EP) (s:St):Prop:=
 @sOp (some 4) (xMov (.nils) s.H) s<|.mk fun s=>
 @sOp (some 5) (xMov (.nils) s.H) s<|.mk fun s=>
 M 9 0 s fun s=>
 N 10 9 s fun s=>
 I 11 0 s fun s=>
 @sLoop s ⟨fun L0 s=>W104_l5 Φ L0 s⟩
theorem W104_rs (τ:Nat → AV) (H:Heap):resV Tryz.prog τ H [.tmp 4] = some (τ 4):=by kernel_rfl
theorem W104_eq:EqW Tryz.prog Tryz.f104 W104:=fun _ _=>by kernel_rfl
theorem W104_S:SpW Tryz.prog 104 29 [.tmp 4] W104:=spW Tryz.func104 Tryz.ntmps104 W104_eq
-- 105 "penance/run.nodes$1"
def W105 (Φ:EP) (s:St):Prop:=
 L 3 9 1 true s fun s=>
 M 4 0 s fun s=>
 Ca Tryz.prog 106 [(s.τ 3),(s.τ 4)] 5 s fun s=>
 Φ .normal s
theorem W105_rs (τ:Nat → AV) (H:Heap):resV Tryz.prog τ H [] = ob (some []) fun vs=>some (.tup vs):=by kernel_rfl
theorem W105_eq:EqW Tryz.prog Tryz.f105 W105:=fun _ _=>by kernel_rfl
theorem W105_S:SpW Tryz.prog 105 6 [] W105:=spW Tryz.func105 Tryz.ntmps105 W105_eq
-- 106 "penance/run.walk"
def W106_b1 (Φ:EP) (s:St):Prop:=
 V 4 false s fun s=>
 Φ .ret s
def W106_k2 (Φ:EP) (s:St):Prop:=
 V 4 true s fun s=>
 Φ .ret s
def W106_b3 (Φ:EP) (L0:SP) (s:St):Prop:=
 V 4 false s fun s=>
 Φ .ret s
def W106_b4 (Φ:EP) (L0:SP) (s:St):Prop:=
 J 22 .add false 14 1 s fun s=>
 M 14 22 s fun s=>
 L0 s
def W106_b6 (Φ:EP) (L0:SP) (s:St):Prop:=
 X 16 9 12 14 s fun s=>
 L 17 9 16 true s fun s=>
 Z 6 35 z9 s fun s=>
 U 9 6 17 s fun s=>
 L 18 9 6 true s fun s=>
 M 19 1 s fun s=>
 Ca Tryz.prog 106 [(s.τ 18),(s.τ 19)] 20 s fun s=>
 Q 21 20 s fun s=>
 If 21 s (W106_b3 Φ L0 s) (W106_b4 Φ L0 s)
def W106_l7 (Φ:EP) (L0:SP) (s:St):Prop:=
 B 15 .lss false 14 13 s fun s=>
 If 15 s (W106_b6 Φ L0 s) (W106_k2 Φ s)
def W106_b8 (Φ:EP) (s:St):Prop:=
 F 11 8 2 s fun s=>
 L 12 1 11 false s fun s=>
 N 13 12 s fun s=>
 I 14 0 s fun s=>
 @sLoop s ⟨fun L0 s=>W106_l7 Φ L0 s⟩
def W106 (Φ:EP) (s:St):Prop:=
 Y 2 35 0 s fun s=>
 V 4 false s fun s=>
 M 7 1 s fun s=>
 L 8 9 2 true s fun s=>
 @sCall Tryz.prog (s.τ 7) [(s.τ 8)] (some 9) s<|.mk fun s=>
 Q 10 9 s fun s=>
 If 10 s (W106_b1 Φ s) (W106_b8 Φ s)
theorem W106_rs (τ:Nat → AV) (H:Heap):resV Tryz.prog τ H [.tmp 4] = some (τ 4):=by kernel_rfl
theorem W106_eq:EqW Tryz.prog Tryz.f106 W106:=fun _ _=>by kernel_rfl
theorem W106_S:SpW Tryz.prog 106 23 [.tmp 4] W106:=spW Tryz.func106 Tryz.ntmps106 W106_eq
-- 107 "penance/term.shapes"
def W107 (Φ:EP) (s:St):Prop:=
 @sOp (some 0) (xMov (.nils) s.H) s<|.mk fun s=>
 Bd 1 [.int .i64 0,.int .i64 0,.bool false,.bool false,.int .i64 0] [] s fun s=>
 Bd 2 [.int .i64 0,.int .i64 0,.bool false,.bool false,.int .i64 0] [(0,1,(.int .i64 2)),(2,1,(.bool true))] s fun s=>
 Bd 3 [.int .i64 0,.int .i64 0,.bool false,.bool false,.int .i64 0] [(0,1,(.int .i64 1)),(3,1,(.bool true))] s fun s=>
 Bd 4 [.int .i64 0,.int .i64 0,.bool false,.bool false,.int .i64 0] [(0,1,(.int .i64 3)),(4,1,(.int .i64 1))] s fun s=>
 Bd 5 [.int .i64 0,.int .i64 0,.bool false,.bool false,.int .i64 0] [(0,1,(.int .i64 3))] s fun s=>
 Bd 6 [.int .i64 0,.int .i64 0,.bool false,.bool false,.int .i64 0] [(0,1,(.int .i64 3))] s fun s=>
 Bd 7 [.int .i64 0,.int .i64 0,.bool false,.bool false,.int .i64 0] [(0,1,(.int .i64 3)),(1,1,(.int .i64 3))] s fun s=>
 Bd 8 [.int .i64 0,.int .i64 0,.bool false,.bool false,.int .i64 0] [(4,1,(.int .i64 1))] s fun s=>
 Bd 9 [.int .i64 0,.int .i64 0,.bool false,.bool false,.int .i64 0] [] s fun s=>
 Bd 10 [.int .i64 0,.int .i64 0,.bool false,.bool false,.int .i64 0] [(3,1,(.bool true)),(4,1,(.int .i64 2))] s fun s=>
 Bd 11 [.int .i64 0,.int .i64 0,.bool false,.bool false,.int .i64 0] [(4,1,(.int .i64 2))] s fun s=>
 Bd 12 [.int .i64 0,.int .i64 0,.bool false,.bool false,.int .i64 0] [(4,1,(.int .i64 2))] s fun s=>
 Bd 13 [.int .i64 0,.int .i64 0,.bool false,.bool false,.int .i64 0] [(4,1,(.int .i64 2))] s fun s=>
 Bd 14 [.int .i64 0,.int .i64 0,.bool false,.bool false,.int .i64 0] [(0,1,(.int .i64 4))] s fun s=>
 Bd 15 [.int .i64 0,.int .i64 0,.bool false,.bool false,.int .i64 0] [(0,1,(.int .i64 5)),(1,1,(.int .i64 2)),(2,1,(.bool true))] s fun s=>
 Lt 16 5 15 [.int .i64 0,.int .i64 0,.bool false,.bool false,.int .i64 0] [(0,(s.τ 1)),(1,(s.τ 2)),(2,(s.τ 3)),(3,(s.τ 4)),(4,(s.τ 5)),(5,(s.τ 6)),(6,(s.τ 7)),(7,(s.τ 8)),(8,(s.τ 9)),(9,(s.τ 10)),(10,(s.τ 11)),(11,(s.τ 12)),(12,(s.τ 13)),(13,(s.τ 14)),(14,(s.τ 15))] s fun s=>
 M 0 16 s fun s=>
 Φ .ret s
theorem W107_rs (τ:Nat → AV) (H:Heap):resV Tryz.prog τ H [.tmp 0] = some (τ 0):=by kernel_rfl
theorem W107_eq:EqW Tryz.prog Tryz.f107 W107:=fun _ _=>by kernel_rfl
theorem W107_S:SpW Tryz.prog 107 17 [.tmp 0] W107:=spW Tryz.func107 Tryz.ntmps107 W107_eq
-- 108 "(penance/term.bounds).number"
def W108_b5 (Φ:EP) (s:St):Prop:=
 M 10 2 s fun s=>
 J 11 .geq false 10 0 s fun s=>
 M 12 11 s fun s=>
 gm 13 2 12 true s fun s=>
 gf 14 0 3 12 true s fun s=>
 gl 15 1 14 12 false true s fun s=>
 go 16 12 true s (fun s=>(xBin .lss false (s.τ 13) (s.τ 15) s.H)) fun s=>
 A 17 12 16 s fun s=>
 M 6 17 s fun s=>
 Φ .ret s
def W108_b10 (Φ:EP) (s:St):Prop:=
 M 20 2 s fun s=>
 J 21 .geq false 20 (-1) s fun s=>
 M 22 21 s fun s=>
 gm 23 2 22 true s fun s=>
 gf 24 0 3 22 true s fun s=>
 gl 25 1 24 22 false true s fun s=>
 go 26 22 true s (fun s=>(xBin .lss false (s.τ 23) (s.τ 25) s.H)) fun s=>
 A 27 22 26 s fun s=>
 M 6 27 s fun s=>
 Φ .ret s
def W108_b15 (Φ:EP) (s:St):Prop:=
 M 30 2 s fun s=>
 J 31 .geq false 30 0 s fun s=>
 M 32 31 s fun s=>
 gm 33 2 32 true s fun s=>
 gf 34 1 3 32 true s fun s=>
 gl 35 1 34 32 false true s fun s=>
 go 36 32 true s (fun s=>(xBin .lss false (s.τ 33) (s.τ 35) s.H)) fun s=>
 A 37 32 36 s fun s=>
 M 6 37 s fun s=>
 Φ .ret s
def W108_b20 (Φ:EP) (s:St):Prop:=
 M 40 2 s fun s=>
 J 41 .geq false 40 0 s fun s=>
 M 42 41 s fun s=>
 gm 43 2 42 true s fun s=>
 gf 44 2 3 42 true s fun s=>
 gl 45 1 44 42 false true s fun s=>
 go 46 42 true s (fun s=>(xBin .lss false (s.τ 43) (s.τ 45) s.H)) fun s=>
 A 47 42 46 s fun s=>
 M 6 47 s fun s=>
 Φ .ret s
def W108_b21 (Φ:EP) (s:St):Prop:=
 M 50 2 s fun s=>
 J 51 .geq false 50 0 s fun s=>
 M 6 51 s fun s=>
 Φ .ret s
def W108_b22 (Φ:EP) (s:St):Prop:=
 M 52 2 s fun s=>
 J 53 .eql false 52 0 s fun s=>
 M 6 53 s fun s=>
 Φ .ret s
def W108_b23 (Φ:EP) (s:St):Prop:=
 J 49 .eql false 7 5 s fun s=>
 M 48 49 s fun s=>
 If 48 s (W108_b21 Φ s) (W108_b22 Φ s)
def W108_b24 (Φ:EP) (s:St):Prop:=
 J 39 .eql false 7 4 s fun s=>
 M 38 39 s fun s=>
 If 38 s (W108_b20 Φ s) (W108_b23 Φ s)
def W108_b25 (Φ:EP) (s:St):Prop:=
 J 29 .eql false 7 3 s fun s=>
 M 28 29 s fun s=>
 If 28 s (W108_b15 Φ s) (W108_b24 Φ s)
def W108_b26 (Φ:EP) (s:St):Prop:=
 J 19 .eql false 7 2 s fun s=>
 M 18 19 s fun s=>
 If 18 s (W108_b10 Φ s) (W108_b25 Φ s)
def W108 (Φ:EP) (s:St):Prop:=
 Y 3 133 0 s fun s=>
 V 6 false s fun s=>
 M 7 1 s fun s=>
 J 9 .eql false 7 1 s fun s=>
 M 8 9 s fun s=>
 If 8 s (W108_b5 Φ s) (W108_b26 Φ s)
theorem W108_rs (τ:Nat → AV) (H:Heap):resV Tryz.prog τ H [.tmp 6] = some (τ 6):=by kernel_rfl
theorem W108_eq:EqW Tryz.prog Tryz.f108 W108:=fun _ _=>by kernel_rfl
theorem W108_S:SpW Tryz.prog 108 54 [.tmp 6] W108:=spW Tryz.func108 Tryz.ntmps108 W108_eq
-- 109 "penance/term.none"
def W109 (Φ:EP) (s:St):Prop:=
 Y 1 33 0 s fun s=>
 V 2 false s fun s=>
 F 3 0 1 s fun s=>
 L 4 1 3 false s fun s=>
 J 5 .eql false 4 0 s fun s=>
 M 6 5 s fun s=>
 gf 7 1 1 6 true s fun s=>
 gl 8 1 7 6 false true s fun s=>
 go 9 6 true s (fun s=>(xBin .eql false (s.τ 8) (.int .i64 0) s.H)) fun s=>
 A 10 6 9 s fun s=>
 M 11 10 s fun s=>
 gf 12 2 1 11 true s fun s=>
 gl 13 1 12 11 false true s fun s=>
 go 14 11 true s (fun s=>(xBin .eql false (s.τ 13) (.str ⟨#[]⟩) s.H)) fun s=>
 A 15 11 14 s fun s=>
 M 16 15 s fun s=>
 gf 17 3 1 16 true s fun s=>
 gl 18 1 17 16 false true s fun s=>
 go 19 16 true s (fun s=>(xLen (s.τ 18) s.H)) fun s=>
 go 20 16 true s (fun s=>(xBin .eql false (s.τ 19) (.int .i64 0) s.H)) fun s=>
 A 21 16 20 s fun s=>
 M 2 21 s fun s=>
 Φ .ret s
theorem W109_rs (τ:Nat → AV) (H:Heap):resV Tryz.prog τ H [.tmp 2] = some (τ 2):=by kernel_rfl
theorem W109_eq:EqW Tryz.prog Tryz.f109 W109:=fun _ _=>by kernel_rfl
theorem W109_S:SpW Tryz.prog 109 22 [.tmp 2] W109:=spW Tryz.func109 Tryz.ntmps109 W109_eq
-- 110 "penance/lex.Name"
def W110_b1 (Φ:EP) (s:St):Prop:=
 V 2 false s fun s=>
 Φ .ret s
def W110_k2 (Φ:EP) (s:St):Prop:=
 V 2 true s fun s=>
 Φ .ret s
def W110_b3 (Φ:EP) (L0:SP) (s:St):Prop:=
 V 2 false s fun s=>
 Φ .ret s
def W110_b16 (Φ:EP) (L0:SP) (s:St):Prop:=
 E 21 19 1 s fun s=>
 E 22 19 2 s fun s=>
 M 3 21 s fun s=>
 M 4 22 s fun s=>
 M 23 4 s fun s=>
 @sOp (some 24) (xBin .gtr false (s.τ 23) (.int .i32 127) s.H) s<|.mk fun s=>
 M 25 24 s fun s=>
 gm 26 3 25 false s fun s=>
 go 27 25 false s (fun s=>(xBin .eql false (s.τ 26) (.int .i64 0) s.H)) fun s=>
 gm 28 27 25 false s fun s=>
 gm 29 4 28 true s fun s=>
 go 30 28 true s (fun s=>(xConv .u8 (s.τ 29) s.H)) fun s=>
 @sGrd (guardOf (s.τ 28) true) (some 31) s ⟨fun s K=>@sCall Tryz.prog (.func 133 []) [(s.τ 30)] (some 31) s ⟨K⟩⟩<|.mk fun s=>
 go 32 28 true s (fun s=>(xNot (s.τ 31) s.H)) fun s=>
 go 33 25 false s (fun s=>(xPick (s.τ 28) (s.τ 32) (.bool false) s.H)) fun s=>
 O 34 25 33 s fun s=>
 M 35 34 s fun s=>
 gm 36 4 35 false s fun s=>
 go 37 35 false s (fun s=>(xConv .u8 (s.τ 36) s.H)) fun s=>
 @sGrd (guardOf (s.τ 35) false) (some 38) s ⟨fun s K=>@sCall Tryz.prog (.func 134 []) [(s.τ 37)] (some 38) s ⟨K⟩⟩<|.mk fun s=>
 go 39 35 false s (fun s=>(xNot (s.τ 38) s.H)) fun s=>
 O 40 35 39 s fun s=>
 If 40 s (W110_b3 Φ L0 s) (L0 s)
def W110_l17 (Φ:EP) (L0:SP) (s:St):Prop:=
 @sOp (some 19) (xNxt (s.τ 18) s.H) s<|.mk fun s=>
 E 20 19 0 s fun s=>
 If 20 s (W110_b16 Φ L0 s) (W110_k2 Φ s)
def W110_b18 (Φ:EP) (s:St):Prop:=
 M 17 0 s fun s=>
 @sOp (some 18) (xRng 18 (s.τ 17) s.H) s<|.mk fun s=>
 @sLoop s ⟨fun L0 s=>W110_l17 Φ L0 s⟩
def W110 (Φ:EP) (s:St):Prop:=
 V 2 false s fun s=>
 M 5 0 s fun s=>
 @sOp (some 6) (xSlen (s.τ 5) s.H) s<|.mk fun s=>
 J 7 .lss false 6 1 s fun s=>
 M 8 7 s fun s=>
 gm 9 0 8 false s fun s=>
 go 10 8 false s (fun s=>(xSlen (s.τ 9) s.H)) fun s=>
 go 11 8 false s (fun s=>(xBin .gtr false (s.τ 10) (.int .i64 20) s.H)) fun s=>
 O 12 8 11 s fun s=>
 M 13 12 s fun s=>
 gm 14 0 13 false s fun s=>
 @sGrd (guardOf (s.τ 13) false) (some 15) s ⟨fun s K=>@sCall Tryz.prog (.func 132 []) [(s.τ 14)] (some 15) s ⟨K⟩⟩<|.mk fun s=>
 O 16 13 15 s fun s=>
 If 16 s (W110_b1 Φ s) (W110_b18 Φ s)
theorem W110_rs (τ:Nat → AV) (H:Heap):resV Tryz.prog τ H [.tmp 2] = some (τ 2):=by kernel_rfl
theorem W110_eq:EqW Tryz.prog Tryz.f110 W110:=fun _ _=>by kernel_rfl
theorem W110_S:SpW Tryz.prog 110 41 [.tmp 2] W110:=spW Tryz.func110 Tryz.ntmps110 W110_eq
end Go.Proofs.YtnngddgaobhkiaaGreat
set_option maxRecDepth 100000
namespace Go.Proofs.YtnngddgaobhkiaaGreat
open Go Go.Am
-- 111 "penance/expr.Right"
def W111_k1 (Φ:EP) (s:St):Prop:=
 @sOp none (xStore 1 (s.τ 4) (.bool true) s.H) s<|.mk fun s=>
 Φ .ret s
def W111_b2 (Φ:EP) (s:St):Prop:=
 @sOp none (xStore 1 (s.τ 4) (.bool false) s.H) s<|.mk fun s=>
 Φ .ret s
def W111_b3 (Φ:EP) (s:St):Prop:=
 @sOp none (xStore 1 (s.τ 4) (.bool false) s.H) s<|.mk fun s=>
 Φ .ret s
def W111_b29 (Φ:EP) (s:St):Prop:=
 F 31 0 5 s fun s=>
 L 32 1 31 false s fun s=>
 J 33 .eql false 32 1 s fun s=>
 M 34 33 s fun s=>
 gf 35 1 5 34 true s fun s=>
 gl 36 1 35 34 false true s fun s=>
 go 37 34 true s (fun s=>(xBin .lss false (s.τ 36) (.int .i64 0) s.H)) fun s=>
 A 38 34 37 s fun s=>
 M 39 38 s fun s=>
 gf 40 0 5 39 false s fun s=>
 gl 41 1 40 39 false false s fun s=>
 go 42 39 false s (fun s=>(xBin .eql false (s.τ 41) (.int .i64 2) s.H)) fun s=>
 gm 43 42 39 false s fun s=>
 gf 44 1 5 43 true s fun s=>
 gl 45 1 44 43 false true s fun s=>
 go 46 43 true s (fun s=>(xBin .lss false (s.τ 45) (.int .i64 0) s.H)) fun s=>
 gm 47 46 43 true s fun s=>
 gf 48 1 5 47 false s fun s=>
 gl 49 1 48 47 false false s fun s=>
 gl 50 1 3 47 false false s fun s=>
 go 51 47 false s (fun s=>(xBin .geq false (s.τ 49) (s.τ 50) s.H)) fun s=>
 go 52 43 true s (fun s=>(xPick (s.τ 47) (.bool true) (s.τ 51) s.H)) fun s=>
 go 53 39 false s (fun s=>(xPick (s.τ 43) (s.τ 52) (.bool false) s.H)) fun s=>
 O 54 39 53 s fun s=>
 M 55 54 s fun s=>
 gf 56 0 5 55 false s fun s=>
 gl 57 1 56 55 false false s fun s=>
 go 58 55 false s (fun s=>(xBin .gtr false (s.τ 57) (.int .i64 2) s.H)) fun s=>
 gm 59 58 55 false s fun s=>
 gf 60 1 5 59 true s fun s=>
 gl 61 1 60 59 false true s fun s=>
 go 62 59 true s (fun s=>(xBin .neq false (s.τ 61) (.int .i64 0) s.H)) fun s=>
 go 63 55 false s (fun s=>(xPick (s.τ 59) (s.τ 62) (.bool false) s.H)) fun s=>
 O 64 55 63 s fun s=>
 @sIf (s.τ 64) ⟨W111_b3 Φ s⟩ ⟨Φ .normal s⟩
def W111_r43 (Φ:EP) (s:St):Prop:=
 Z 5 33 z4 s fun s=>
 U 4 5 8 s fun s=>
 F 9 0 5 s fun u1=>
 L 10 1 9 false u1 fun u2=>
 J 11 .lss false 10 1 u2 fun u3=>
 M 12 11 u3 fun u4=>
 gf 13 0 5 12 false u4 fun u5=>
 gl 14 1 13 12 false false u5 fun u6=>
 go 15 12 false u6 (fun s=>(xBin .gtr false (s.τ 14) (.int .i64 17) s.H)) fun u7=>
 O 16 12 15 u7 fun u8=>
 M 17 16 u8 fun u9=>
 gf 18 2 5 17 false u9 fun u10=>
 gl 19 1 18 17 false false u10 fun u11=>
 go 20 17 false u11 (fun s=>(xBin .neq false (s.τ 19) (.str ⟨#[]⟩) s.H)) fun u12=>
 O 21 17 20 u12 fun u13=>
 M 22 21 u13 fun u14=>
 gf 23 3 5 22 false u14 fun u15=>
 gl 24 1 23 22 false false u15 fun u16=>
 go 25 22 false u16 (fun s=>(xLen (s.τ 24) s.H)) fun u17=>
 gf 26 0 5 22 false u17 fun u18=>
 gl 27 1 26 22 false false u18 fun u19=>
 k3 (u14.τ 5) (cfp 28 136 [(u19.τ 27)]) <|
 k3 (u15.τ 23) (cfp 28 136 [(u19.τ 27)]) <|
 k3 (u16.τ 24) (cfp 28 136 [(u19.τ 27)]) <|
 @sGrd (guardOf (u19.τ 22) false) (some 28) u19 ⟨fun s K=>@sCall0 Tryz.prog (.func 136 []) [(s.τ 27)] (some 28) s ⟨K⟩⟩<|.mk fun u20=>
 go 29 22 false u20 (fun s=>(xBin .neq false (s.τ 25) (s.τ 28) s.H)) fun u21=>
 O 30 22 29 u21 fun s=>
 If 30 s (W111_b2 Φ s) (W111_b29 Φ s)
def W111 (Φ:EP) (s:St):Prop:=
 Y 2 33 0 s fun s=>
 Y 3 3 1 s fun s=>
 Z 4 4 [.bool false] s fun s=>
 L 6 4 2 true s fun s=>
 Ca Tryz.prog 135 [(s.τ 6)] 7 s fun s=>
 @sRange Tryz.prog (s.τ 7) [8] s ⟨fun Φ s=>W111_r43 Φ s⟩ ⟨(blkK 0 (thenK (W111_k1 Φ) Φ))⟩
theorem W111_rs (τ:Nat → AV) (H:Heap):resV Tryz.prog τ H [.cell 4 4] = rdV H 1 false (τ 4):=by kernel_rfl
theorem W111_eq:EqW Tryz.prog Tryz.f111 W111:=fun _ _=>by kernel_rfl
theorem W111_S:SpW Tryz.prog 111 65 [.cell 4 4] W111:=spW Tryz.func111 Tryz.ntmps111 W111_eq
-- 112 "penance/steps.places$1"
def W112 (Φ:EP) (s:St):Prop:=
 L 3 9 1 true s fun u1=>
 L 4 9 1 true u1 fun u2=>
 k3 (s.τ 1) (cfp 5 114 [(u2.τ 4)]) <|
 C0 Tryz.prog 114 [(u2.τ 4)] 5 u2 fun u3=>
 N 6 5 u3 fun u4=>
 J 7 .gtr false 6 0 u4 fun u5=>
 Bd 8 [.int .i64 0,.int .i64 0,.int .i64 0,.str ⟨#[]⟩,.int .i64 0,.int .i64 0,.str ⟨#[]⟩,.nils,.nils,.nils,.bool false] [(0,9,(u5.τ 3)),(9,1,(.nils)),(10,1,(u5.τ 7))] u5 fun u6=>
 M 9 0 u6 fun u7=>
 Ca Tryz.prog 113 [(u7.τ 8),(u7.τ 9)] 10 u7 fun s=>
 Φ .normal s
theorem W112_rs (τ:Nat → AV) (H:Heap):resV Tryz.prog τ H [] = ob (some []) fun vs=>some (.tup vs):=by kernel_rfl
theorem W112_eq:EqW Tryz.prog Tryz.f112 W112:=fun _ _=>by kernel_rfl
theorem W112_S:SpW Tryz.prog 112 11 [] W112:=spW Tryz.func112 Tryz.ntmps112 W112_eq
-- 113 "penance/steps.walk"
def W113_b1 (Φ:EP) (s:St):Prop:=
 V 4 false s fun s=>
 Φ .ret s
def W113_k2 (Φ:EP) (s:St):Prop:=
 V 4 true s fun s=>
 Φ .ret s
def W113_b3 (Φ:EP) (L0:SP) (s:St):Prop:=
 V 4 false s fun s=>
 Φ .ret s
def W113_b4 (Φ:EP) (L0:SP) (s:St):Prop:=
 J 35 .add false 26 1 s fun s=>
 M 26 35 s fun s=>
 L0 s
def W113_b7 (Φ:EP) (L0:SP) (s:St):Prop:=
 M 28 26 s fun s=>
 M 6 28 s fun s=>
 L 29 11 2 true s fun s=>
 M 30 6 s fun s=>
 Ca Tryz.prog 137 [(s.τ 29),(s.τ 30)] 31 s fun s=>
 M 32 1 s fun s=>
 Ca Tryz.prog 113 [(s.τ 31),(s.τ 32)] 33 s fun s=>
 Q 34 33 s fun s=>
 If 34 s (W113_b3 Φ L0 s) (W113_b4 Φ L0 s)
def W113_l8 (Φ:EP) (L0:SP) (s:St):Prop:=
 B 27 .lss false 26 25 s fun s=>
 If 27 s (W113_b7 Φ L0 s) (W113_k2 Φ s)
def W113_k9 (Φ:EP) (s:St):Prop:=
 M 25 5 s fun s=>
 I 26 0 s fun s=>
 @sLoop s ⟨fun L0 s=>W113_l8 Φ L0 s⟩
def W113_b10 (Φ:EP) (s:St):Prop:=
 M 21 5 s fun s=>
 @sOp (some 22) (xMin (s.τ 21) (.int .i64 1) s.H) s<|.mk fun s=>
 M 5 22 s fun s=>
 W113_k9 Φ s
def W113_b11 (Φ:EP) (s:St):Prop:=
 I 5 0 s fun s=>
 W113_k9 Φ s
def W113_b12 (Φ:EP) (s:St):Prop:=
 J 24 .eql false 17 11 s fun s=>
 M 23 24 s fun s=>
 If 23 s (W113_k9 Φ s) (W113_b11 Φ s)
def W113_k13 (Φ:EP) (s:St):Prop:=
 If 18 s (W113_b10 Φ s) (W113_b12 Φ s)
def W113_b14 (Φ:EP) (s:St):Prop:=
 J 20 .eql false 17 7 s fun s=>
 M 18 20 s fun s=>
 W113_k13 Φ s
def W113_b15 (Φ:EP) (s:St):Prop:=
 F 11 0 2 s fun s=>
 F 12 8 11 s fun s=>
 L 13 1 12 false s fun s=>
 N 14 13 s fun s=>
 M 5 14 s fun s=>
 F 15 0 2 s fun s=>
 F 16 0 15 s fun s=>
 L 17 1 16 false s fun s=>
 J 19 .eql false 17 12 s fun s=>
 M 18 19 s fun s=>
 If 18 s (W113_k13 Φ s) (W113_b14 Φ s)
def W113 (Φ:EP) (s:St):Prop:=
 Y 2 140 0 s fun s=>
 V 4 false s fun s=>
 M 7 1 s fun s=>
 L 8 11 2 true s fun s=>
 @sCall Tryz.prog (s.τ 7) [(s.τ 8)] (some 9) s<|.mk fun s=>
 Q 10 9 s fun s=>
 If 10 s (W113_b1 Φ s) (W113_b15 Φ s)
theorem W113_rs (τ:Nat → AV) (H:Heap):resV Tryz.prog τ H [.tmp 4] = some (τ 4):=by kernel_rfl
theorem W113_eq:EqW Tryz.prog Tryz.f113 W113:=fun _ _=>by kernel_rfl
theorem W113_S:SpW Tryz.prog 113 36 [.tmp 4] W113:=spW Tryz.func113 Tryz.ntmps113 W113_eq
-- 114 "penance/term.Waits"
def W114_k2 (Φ:EP) (s:St):Prop:=
 L 16 1 3 false s fun s=>
 Ca Tryz.prog 33 [(s.τ 16)] 17 s fun s=>
 M 2 17 s fun s=>
 Φ .ret s
def W114_b3 (Φ:EP) (s:St):Prop:=
 L 11 1 3 false s fun s=>
 F 12 1 4 s fun s=>
 L 13 1 12 false s fun s=>
 Lt 14 1 1 [.int .i64 0] [(0,(s.τ 13))] s fun s=>
 @sOp (some 15) (xApp Tryz.prog 3 1 8 (some 15) (s.τ 11) (s.τ 14) s.H) s<|.mk fun s=>
 U 1 3 15 s fun s=>
 Φ .normal s
def W114_r4 (Φ:EP) (s:St):Prop:=
 Z 4 35 z9 s fun s=>
 U 9 4 7 s fun s=>
 F 8 0 4 s fun s=>
 L 9 1 8 false s fun s=>
 J 10 .eql false 9 14 s fun s=>
 @sIf (s.τ 10) ⟨W114_b3 Φ s⟩ ⟨Φ .normal s⟩
def W114 (Φ:EP) (s:St):Prop:=
 Y 1 35 0 s fun s=>
 @sOp (some 2) (xMov (.nils) s.H) s<|.mk fun s=>
 Z 3 25 [.nils] s fun s=>
 L 5 9 1 true s fun s=>
 Ca Tryz.prog 138 [(s.τ 5)] 6 s fun s=>
 @sRange Tryz.prog (s.τ 6) [7] s ⟨fun Φ s=>W114_r4 Φ s⟩ ⟨(blkK 0 (thenK (W114_k2 Φ) Φ))⟩
theorem W114_rs (τ:Nat → AV) (H:Heap):resV Tryz.prog τ H [.tmp 2] = some (τ 2):=by kernel_rfl
theorem W114_eq:EqW Tryz.prog Tryz.f114 W114:=fun _ _=>by kernel_rfl
theorem W114_S:SpW Tryz.prog 114 18 [.tmp 2] W114:=spW Tryz.func114 Tryz.ntmps114 W114_eq
-- 115 "penance/expr.sum"
def W115_b1 (Φ:EP) (s:St):Prop:=
 I 4 0 s fun s=>
 I 5 8 s fun s=>
 Φ .ret s
def W115_b2 (Φ:EP) (s:St):Prop:=
 M 24 0 s fun s=>
 M 25 1 s fun s=>
 B 26 .add false 24 25 s fun s=>
 M 4 26 s fun s=>
 I 5 0 s fun s=>
 Φ .ret s
def W115 (Φ:EP) (s:St):Prop:=
 I 4 0 s fun s=>
 I 5 0 s fun s=>
 M 6 1 s fun s=>
 J 7 .gtr false 6 0 s fun s=>
 M 8 7 s fun s=>
 gm 9 0 8 true s fun s=>
 gm 10 1 8 true s fun s=>
 go 11 8 true s (fun s=>(xBin .sub false (.int .i64 9223372036854775807) (s.τ 10) s.H)) fun s=>
 go 12 8 true s (fun s=>(xBin .gtr false (s.τ 9) (s.τ 11) s.H)) fun s=>
 A 13 8 12 s fun s=>
 M 14 13 s fun s=>
 gm 15 1 14 false s fun s=>
 go 16 14 false s (fun s=>(xBin .lss false (s.τ 15) (.int .i64 0) s.H)) fun s=>
 gm 17 16 14 false s fun s=>
 gm 18 0 17 true s fun s=>
 gm 19 1 17 true s fun s=>
 go 20 17 true s (fun s=>(xBin .sub false (.int .i64 (-9223372036854775808)) (s.τ 19) s.H)) fun s=>
 go 21 17 true s (fun s=>(xBin .lss false (s.τ 18) (s.τ 20) s.H)) fun s=>
 go 22 14 false s (fun s=>(xPick (s.τ 17) (s.τ 21) (.bool false) s.H)) fun s=>
 O 23 14 22 s fun s=>
 If 23 s (W115_b1 Φ s) (W115_b2 Φ s)
theorem W115_rs (τ:Nat → AV) (H:Heap):resV Tryz.prog τ H [.tmp 4,.tmp 5] = ob (ob (some (τ 4)) fun v=>ob (ob (some (τ 5)) fun v=>ob (some []) fun vs=>some (v :: vs)) fun vs=>some (v :: vs)) fun vs=>some (.tup vs):=by kernel_rfl
theorem W115_eq:EqW Tryz.prog Tryz.f115 W115:=fun _ _=>by kernel_rfl
theorem W115_S:SpW Tryz.prog 115 27 [.tmp 4,.tmp 5] W115:=spW Tryz.func115 Tryz.ntmps115 W115_eq
-- 116 "penance/stacks.ownExpr"
def W116 (Φ:EP) (s:St):Prop:=
 Y 1 33 0 s fun s=>
 Z 2 33 z4 s fun s=>
 F 3 3 1 s fun s=>
 L 4 1 3 false s fun s=>
 Ca Tryz.prog 139 [(s.τ 4),(.func 116 [])] 5 s fun s=>
 F 6 3 1 s fun s=>
 U 1 6 5 s fun s=>
 L 7 4 1 true s fun s=>
 U 4 2 7 s fun s=>
 Φ .ret s
theorem W116_rs (τ:Nat → AV) (H:Heap):resV Tryz.prog τ H [.cell 2 33] = rdV H 4 true (τ 2):=by kernel_rfl
theorem W116_eq:EqW Tryz.prog Tryz.f116 W116:=fun _ _=>by kernel_rfl
theorem W116_S:SpW Tryz.prog 116 8 [.cell 2 33] W116:=spW Tryz.func116 Tryz.ntmps116 W116_eq
-- 117 "penance/penanceref2.bit"
def W117_b1 (Φ:EP) (s:St):Prop:=
 I 2 1 s fun s=>
 I 3 0 s fun s=>
 Φ .ret s
def W117_b2 (Φ:EP) (s:St):Prop:=
 I 2 0 s fun s=>
 I 3 0 s fun s=>
 Φ .ret s
def W117 (Φ:EP) (s:St):Prop:=
 I 2 0 s fun s=>
 I 3 0 s fun s=>
 M 4 0 s fun s=>
 If 4 s (W117_b1 Φ s) (W117_b2 Φ s)
theorem W117_rs (τ:Nat → AV) (H:Heap):resV Tryz.prog τ H [.tmp 2,.tmp 3] = ob (ob (some (τ 2)) fun v=>ob (ob (some (τ 3)) fun v=>ob (some []) fun vs=>some (v :: vs)) fun vs=>some (v :: vs)) fun vs=>some (.tup vs):=by kernel_rfl
theorem W117_eq:EqW Tryz.prog Tryz.f117 W117:=fun _ _=>by kernel_rfl
theorem W117_S:SpW Tryz.prog 117 5 [.tmp 2,.tmp 3] W117:=spW Tryz.func117 Tryz.ntmps117 W117_eq
-- 118 "penance/penanceref2.compare"
def W118_b2 (Φ:EP) (s:St):Prop:=
 M 11 1 s fun s=>
 M 12 2 s fun s=>
 B 13 .eql false 11 12 s fun s=>
 Ca Tryz.prog 117 [(s.τ 13)] 14 s fun s=>
 E 15 14 0 s fun s=>
 E 16 14 1 s fun s=>
 M 6 15 s fun s=>
 M 7 16 s fun s=>
 Φ .ret s
def W118_b4 (Φ:EP) (s:St):Prop:=
 M 19 1 s fun s=>
 M 20 2 s fun s=>
 B 21 .neq false 19 20 s fun s=>
 Ca Tryz.prog 117 [(s.τ 21)] 22 s fun s=>
 E 23 22 0 s fun s=>
 E 24 22 1 s fun s=>
 M 6 23 s fun s=>
 M 7 24 s fun s=>
 Φ .ret s
def W118_b6 (Φ:EP) (s:St):Prop:=
 M 27 1 s fun s=>
 M 28 2 s fun s=>
 B 29 .lss false 27 28 s fun s=>
 Ca Tryz.prog 117 [(s.τ 29)] 30 s fun s=>
 E 31 30 0 s fun s=>
 E 32 30 1 s fun s=>
 M 6 31 s fun s=>
 M 7 32 s fun s=>
 Φ .ret s
def W118_b8 (Φ:EP) (s:St):Prop:=
 M 35 1 s fun s=>
 M 36 2 s fun s=>
 B 37 .leq false 35 36 s fun s=>
 Ca Tryz.prog 117 [(s.τ 37)] 38 s fun s=>
 E 39 38 0 s fun s=>
 E 40 38 1 s fun s=>
 M 6 39 s fun s=>
 M 7 40 s fun s=>
 Φ .ret s
def W118_b10 (Φ:EP) (s:St):Prop:=
 M 43 1 s fun s=>
 M 44 2 s fun s=>
 B 45 .gtr false 43 44 s fun s=>
 Ca Tryz.prog 117 [(s.τ 45)] 46 s fun s=>
 E 47 46 0 s fun s=>
 E 48 46 1 s fun s=>
 M 6 47 s fun s=>
 M 7 48 s fun s=>
 Φ .ret s
def W118_b12 (Φ:EP) (s:St):Prop:=
 M 49 1 s fun s=>
 M 50 2 s fun s=>
 B 51 .geq false 49 50 s fun s=>
 Ca Tryz.prog 117 [(s.τ 51)] 52 s fun s=>
 E 53 52 0 s fun s=>
 E 54 52 1 s fun s=>
 M 6 53 s fun s=>
 M 7 54 s fun s=>
 Φ .ret s
def W118_b13 (Φ:EP) (s:St):Prop:=
 J 42 .eql false 8 14 s fun s=>
 M 41 42 s fun s=>
 If 41 s (W118_b10 Φ s) (W118_b12 Φ s)
def W118_b14 (Φ:EP) (s:St):Prop:=
 J 34 .eql false 8 13 s fun s=>
 M 33 34 s fun s=>
 If 33 s (W118_b8 Φ s) (W118_b13 Φ s)
def W118_b15 (Φ:EP) (s:St):Prop:=
 J 26 .eql false 8 12 s fun s=>
 M 25 26 s fun s=>
 If 25 s (W118_b6 Φ s) (W118_b14 Φ s)
def W118_b16 (Φ:EP) (s:St):Prop:=
 J 18 .eql false 8 11 s fun s=>
 M 17 18 s fun s=>
 If 17 s (W118_b4 Φ s) (W118_b15 Φ s)
def W118 (Φ:EP) (s:St):Prop:=
 I 6 0 s fun s=>
 I 7 0 s fun s=>
 M 8 0 s fun s=>
 J 10 .eql false 8 10 s fun s=>
 M 9 10 s fun s=>
 If 9 s (W118_b2 Φ s) (W118_b16 Φ s)
theorem W118_rs (τ:Nat → AV) (H:Heap):resV Tryz.prog τ H [.tmp 6,.tmp 7] = ob (ob (some (τ 6)) fun v=>ob (ob (some (τ 7)) fun v=>ob (some []) fun vs=>some (v :: vs)) fun vs=>some (v :: vs)) fun vs=>some (.tup vs):=by kernel_rfl
theorem W118_eq:EqW Tryz.prog Tryz.f118 W118:=fun _ _=>by kernel_rfl
theorem W118_S:SpW Tryz.prog 118 55 [.tmp 6,.tmp 7] W118:=spW Tryz.func118 Tryz.ntmps118 W118_eq
-- 119 "penance/penanceref2.reckon"
def W119_b1 (Φ:EP) (s:St):Prop:=
 I 6 0 s fun s=>
 I 7 8 s fun s=>
 Φ .ret s
def W119_b2 (Φ:EP) (s:St):Prop:=
 M 28 8 s fun s=>
 M 6 28 s fun s=>
 I 7 0 s fun s=>
 Φ .ret s
def W119_b8 (Φ:EP) (s:St):Prop:=
 M 13 1 s fun s=>
 M 14 2 s fun s=>
 B 15 .add false 13 14 s fun s=>
 M 8 15 s fun s=>
 M 16 1 s fun s=>
 J 17 .geq false 16 0 s fun s=>
 M 18 2 s fun s=>
 J 19 .geq false 18 0 s fun s=>
 B 20 .eql true 17 19 s fun s=>
 M 21 20 s fun s=>
 gm 22 8 21 true s fun s=>
 go 23 21 true s (fun s=>(xBin .geq false (s.τ 22) (.int .i64 0) s.H)) fun s=>
 gm 24 1 21 true s fun s=>
 go 25 21 true s (fun s=>(xBin .geq false (s.τ 24) (.int .i64 0) s.H)) fun s=>
 go 26 21 true s (fun s=>(xBin .neq true (s.τ 23) (s.τ 25) s.H)) fun s=>
 A 27 21 26 s fun s=>
 If 27 s (W119_b1 Φ s) (W119_b2 Φ s)
def W119_b9 (Φ:EP) (s:St):Prop:=
 I 6 0 s fun s=>
 I 7 8 s fun s=>
 Φ .ret s
def W119_b10 (Φ:EP) (s:St):Prop:=
 M 46 9 s fun s=>
 M 6 46 s fun s=>
 I 7 0 s fun s=>
 Φ .ret s
def W119_b16 (Φ:EP) (s:St):Prop:=
 M 31 1 s fun s=>
 M 32 2 s fun s=>
 B 33 .sub false 31 32 s fun s=>
 M 9 33 s fun s=>
 M 34 1 s fun s=>
 J 35 .geq false 34 0 s fun s=>
 M 36 2 s fun s=>
 J 37 .geq false 36 0 s fun s=>
 B 38 .neq true 35 37 s fun s=>
 M 39 38 s fun s=>
 gm 40 9 39 true s fun s=>
 go 41 39 true s (fun s=>(xBin .geq false (s.τ 40) (.int .i64 0) s.H)) fun s=>
 gm 42 1 39 true s fun s=>
 go 43 39 true s (fun s=>(xBin .geq false (s.τ 42) (.int .i64 0) s.H)) fun s=>
 go 44 39 true s (fun s=>(xBin .neq true (s.τ 41) (s.τ 43) s.H)) fun s=>
 A 45 39 44 s fun s=>
 If 45 s (W119_b9 Φ s) (W119_b10 Φ s)
def W119_b18 (Φ:EP) (s:St):Prop:=
 M 49 1 s fun s=>
 M 50 2 s fun s=>
 Ca Tryz.prog 140 [(s.τ 49),(s.τ 50)] 51 s fun s=>
 E 52 51 0 s fun s=>
 E 53 51 1 s fun s=>
 M 6 52 s fun s=>
 M 7 53 s fun s=>
 Φ .ret s
def W119_b19 (Φ:EP) (s:St):Prop:=
 I 6 0 s fun s=>
 I 7 9 s fun s=>
 Φ .ret s
def W119_b20 (Φ:EP) (s:St):Prop:=
 I 6 0 s fun s=>
 I 7 0 s fun s=>
 Φ .ret s
def W119_b21 (Φ:EP) (s:St):Prop:=
 I 6 0 s fun s=>
 I 7 8 s fun s=>
 Φ .ret s
def W119_b22 (Φ:EP) (s:St):Prop:=
 M 74 1 s fun s=>
 M 75 2 s fun s=>
 B 76 .rem false 74 75 s fun s=>
 M 6 76 s fun s=>
 I 7 0 s fun s=>
 Φ .ret s
def W119_b23 (Φ:EP) (s:St):Prop:=
 M 77 1 s fun s=>
 M 78 2 s fun s=>
 B 79 .quo false 77 78 s fun s=>
 M 6 79 s fun s=>
 I 7 0 s fun s=>
 Φ .ret s
def W119_b24 (Φ:EP) (s:St):Prop:=
 M 72 0 s fun s=>
 J 73 .eql false 72 7 s fun s=>
 M 71 73 s fun s=>
 If 71 s (W119_b22 Φ s) (W119_b23 Φ s)
def W119_b27 (Φ:EP) (s:St):Prop:=
 M 65 2 s fun s=>
 J 66 .eql false 65 (-1) s fun s=>
 M 67 66 s fun s=>
 gm 68 1 67 true s fun s=>
 go 69 67 true s (fun s=>(xBin .eql false (s.τ 68) (.int .i64 (-9223372036854775808)) s.H)) fun s=>
 A 70 67 69 s fun s=>
 M 64 70 s fun s=>
 If 64 s (W119_b21 Φ s) (W119_b24 Φ s)
def W119_b30 (Φ:EP) (s:St):Prop:=
 M 58 2 s fun s=>
 J 59 .eql false 58 (-1) s fun s=>
 M 60 59 s fun s=>
 gm 61 0 60 true s fun s=>
 go 62 60 true s (fun s=>(xBin .eql false (s.τ 61) (.int .i64 7) s.H)) fun s=>
 A 63 60 62 s fun s=>
 M 57 63 s fun s=>
 If 57 s (W119_b20 Φ s) (W119_b27 Φ s)
def W119_b31 (Φ:EP) (s:St):Prop:=
 M 55 2 s fun s=>
 J 56 .eql false 55 0 s fun s=>
 M 54 56 s fun s=>
 If 54 s (W119_b19 Φ s) (W119_b30 Φ s)
def W119_b32 (Φ:EP) (s:St):Prop:=
 J 48 .eql false 10 5 s fun s=>
 M 47 48 s fun s=>
 If 47 s (W119_b18 Φ s) (W119_b31 Φ s)
def W119_b33 (Φ:EP) (s:St):Prop:=
 J 30 .eql false 10 9 s fun s=>
 M 29 30 s fun s=>
 If 29 s (W119_b16 Φ s) (W119_b32 Φ s)
def W119 (Φ:EP) (s:St):Prop:=
 I 6 0 s fun s=>
 I 7 0 s fun s=>
 M 10 0 s fun s=>
 J 12 .eql false 10 8 s fun s=>
 M 11 12 s fun s=>
 If 11 s (W119_b8 Φ s) (W119_b33 Φ s)
theorem W119_rs (τ:Nat → AV) (H:Heap):resV Tryz.prog τ H [.tmp 6,.tmp 7] = ob (ob (some (τ 6)) fun v=>ob (ob (some (τ 7)) fun v=>ob (some []) fun vs=>some (v :: vs)) fun vs=>some (v :: vs)) fun vs=>some (.tup vs):=by kernel_rfl
theorem W119_eq:EqW Tryz.prog Tryz.f119 W119:=fun _ _=>by kernel_rfl
theorem W119_S:SpW Tryz.prog 119 80 [.tmp 6,.tmp 7] W119:=spW Tryz.func119 Tryz.ntmps119 W119_eq
-- 120 "penance/penanceref6.Push"
def W120 (Φ:EP) (s:St):Prop:=
 Y 5 35 2 s fun s=>
 @sOp (some 6) (xMov (.nils) s.H) s<|.mk fun s=>
 M 7 0 s fun u1=>
 M 8 1 u1 fun u2=>
 @sOp (some 9) (xRow 9 35 9 0 z9 [] u2.H) u2<|.mk fun u3=>
 M 10 0 u3 fun u4=>
 M 11 1 u4 fun u5=>
 @sChk (compat ([9] ++ occL [],[9] ++ occL []) (occ (u5.τ 10),[])) <| .mk <|
 X 12 1 10 11 u5 fun u6=>
 @sChk (compat ([9] ++ occL [],[9] ++ occL []) (occ (u6.τ 12),[])) <| .mk <|
 L 13 1 12 false u6 fun u7=>
 @sOp (some 14) (xApp Tryz.prog 35 9 120 (some 14) (u7.τ 9) (u7.τ 13) u7.H) u7<|.mk fun u8=>
 @sChk (compat ([9] ++ occL [],[9] ++ occL []) (occ (u8.τ 5),[])) <| .mk <|
 @sChk (compat ([14] ++ (occ (u7.τ 9) ++ occ (u7.τ 13)),[14] ++ occ (u7.τ 9)) (occ (u8.τ 5),[])) <| .mk <|
 L 15 9 5 true u8 fun u9=>
 @sChk (compat ([9] ++ occL [],[9] ++ occL []) ([16] ++ occL [(u9.τ 15)],[16] ++ occL [(u9.τ 15)])) <| .mk <|
 k3 (u5.τ 10) ([16] ++ occL [(u9.τ 15)],[16] ++ occL [(u9.τ 15)]) <|
 k3 (u6.τ 12) ([16] ++ occL [(u9.τ 15)],[16] ++ occL [(u9.τ 15)]) <|
 @sChk (compat ([14] ++ (occ (u7.τ 9) ++ occ (u7.τ 13)),[14] ++ occ (u7.τ 9)) ([16] ++ occL [(u9.τ 15)],[16] ++ occL [(u9.τ 15)])) <| .mk <|
 Lt 16 9 1 z9 [(0,(u9.τ 15))] u9 fun u10=>
 @sOp (some 17) (xApp Tryz.prog 35 9 120 (some 17) (u10.τ 14) (u10.τ 16) u10.H) u10<|.mk fun u11=>
 C0 Tryz.prog 141 [(u11.τ 7),(u11.τ 8),(u11.τ 17)] 18 u11 fun u12=>
 M 6 18 u12 fun s=>
 Φ .ret s
theorem W120_rs (τ:Nat → AV) (H:Heap):resV Tryz.prog τ H [.tmp 6] = some (τ 6):=by kernel_rfl
theorem W120_eq:EqW Tryz.prog Tryz.f120 W120:=fun _ _=>by kernel_rfl
theorem W120_S:SpW Tryz.prog 120 19 [.tmp 6] W120:=spW Tryz.func120 Tryz.ntmps120 W120_eq
-- 121 "penance/penanceref6.Reverse"
def W121_k2 (Φ:EP) (s:St):Prop:=
 L 35 9 6 true s fun u1=>
 M 36 0 u1 fun u2=>
 M 37 1 u2 fun u3=>
 k3 (s.τ 6) (cfp 38 141 [(u3.τ 36),(u3.τ 37),(.nils)]) <|
 C0 Tryz.prog 141 [(u3.τ 36),(u3.τ 37),(.nils)] 38 u3 fun u4=>
 U 9 4 35 u4 fun u5=>
 M 5 38 u5 fun s=>
 Φ .ret s
def W121_k3 (Φ:EP) (L0:SP) (s:St):Prop:=
 M 15 7 s fun s=>
 J 16 .add false 15 1 s fun s=>
 M 7 16 s fun s=>
 L0 s
def W121_b4 (Φ:EP) (L0:SP) (s:St):Prop:=
 M 19 0 s fun s=>
 M 20 1 s fun s=>
 X 21 1 19 20 s fun s=>
 L 22 1 21 false s fun s=>
 @sOp (some 23) (xIx 9 (s.τ 22) (.int .i64 0) s.H) s<|.mk fun s=>
 L 24 9 23 true s fun s=>
 U 9 6 24 s fun s=>
 W121_k3 Φ L0 s
def W121_b5 (Φ:EP) (L0:SP) (s:St):Prop:=
 M 25 0 s fun s=>
 M 26 1 s fun s=>
 X 27 1 25 26 s fun s=>
 L 28 1 27 false s fun s=>
 M 29 7 s fun s=>
 X 30 9 28 29 s fun s=>
 L 31 9 30 true s fun s=>
 L 32 9 6 true s fun s=>
 Lt 33 9 2 z9 [(0,(s.τ 31)),(1,(s.τ 32))] s fun s=>
 Bd 34 z9 [(0,1,(.int .i64 12)),(8,1,(s.τ 33))] s fun s=>
 U 9 6 34 s fun s=>
 W121_k3 Φ L0 s
def W121_b6 (Φ:EP) (L0:SP) (s:St):Prop:=
 M 17 7 s fun s=>
 J 18 .eql false 17 0 s fun s=>
 If 18 s (W121_b4 Φ L0 s) (W121_b5 Φ L0 s)
def W121_l7 (Φ:EP) (L0:SP) (s:St):Prop:=
 M 8 7 s fun s=>
 M 9 0 s fun s=>
 M 10 1 s fun s=>
 X 11 1 9 10 s fun s=>
 L 12 1 11 false s fun s=>
 N 13 12 s fun s=>
 B 14 .lss false 8 13 s fun s=>
 If 14 s (W121_b6 Φ L0 s) (W121_k2 Φ s)
def W121 (Φ:EP) (s:St):Prop:=
 Z 4 35 z9 s fun s=>
 @sOp (some 5) (xMov (.nils) s.H) s<|.mk fun s=>
 Z 6 35 z9 s fun s=>
 I 7 0 s fun s=>
 @sLoop s ⟨fun L0 s=>W121_l7 Φ L0 s⟩
theorem W121_rs (τ:Nat → AV) (H:Heap):resV Tryz.prog τ H [.cell 4 35,.tmp 5] = ob (ob (rdV H 9 true (τ 4)) fun v=>ob (ob (some (τ 5)) fun v=>ob (some []) fun vs=>some (v :: vs)) fun vs=>some (v :: vs)) fun vs=>some (.tup vs):=by kernel_rfl
theorem W121_eq:EqW Tryz.prog Tryz.f121 W121:=fun _ _=>by kernel_rfl
theorem W121_S:SpW Tryz.prog 121 39 [.cell 4 35,.tmp 5] W121:=spW Tryz.func121 Tryz.ntmps121 W121_eq
-- 122 "penance/penanceref6.Accept"
def W122 (Φ:EP) (s:St):Prop:=
 @sOp (some 4) (xMov (.nils) s.H) s<|.mk fun s=>
 M 5 0 s fun s=>
 M 6 1 s fun s=>
 Ca Tryz.prog 141 [(s.τ 5),(s.τ 6),(.nils)] 7 s fun s=>
 M 4 7 s fun s=>
 Φ .ret s
theorem W122_rs (τ:Nat → AV) (H:Heap):resV Tryz.prog τ H [.tmp 4] = some (τ 4):=by kernel_rfl
theorem W122_eq:EqW Tryz.prog Tryz.f122 W122:=fun _ _=>by kernel_rfl
theorem W122_S:SpW Tryz.prog 122 8 [.tmp 4] W122:=spW Tryz.func122 Tryz.ntmps122 W122_eq
-- 123 "penance/penanceref6.Merge"
def W123_b2 (Φ:EP) (s:St):Prop:=
 M 10 0 s fun s=>
 Ca Tryz.prog 141 [(s.τ 10),(.int .i64 (-1)),(.nils)] 11 s fun s=>
 M 6 11 s fun s=>
 Φ .ret s
def W123_b5 (Φ:EP) (s:St):Prop:=
 M 12 0 s fun u1=>
 M 13 2 u1 fun u2=>
 @sOp (some 14) (xRow 14 35 9 0 z9 [] u2.H) u2<|.mk fun u3=>
 M 15 0 u3 fun u4=>
 M 16 2 u4 fun u5=>
 @sChk (compat ([14] ++ occL [],[14] ++ occL []) (occ (u5.τ 15),[])) <| .mk <|
 X 17 1 15 16 u5 fun u6=>
 @sChk (compat ([14] ++ occL [],[14] ++ occL []) (occ (u6.τ 17),[])) <| .mk <|
 L 18 1 17 false u6 fun u7=>
 @sOp (some 19) (xApp Tryz.prog 35 9 120 (some 19) (u7.τ 14) (u7.τ 18) u7.H) u7<|.mk fun u8=>
 M 20 0 u8 fun u9=>
 M 21 1 u9 fun u10=>
 @sChk (compat ([14] ++ occL [],[14] ++ occL []) (occ (u10.τ 20),[])) <| .mk <|
 @sChk (compat ([19] ++ (occ (u7.τ 14) ++ occ (u7.τ 18)),[19] ++ occ (u7.τ 14)) (occ (u10.τ 20),[])) <| .mk <|
 X 22 1 20 21 u10 fun u11=>
 @sChk (compat ([14] ++ occL [],[14] ++ occL []) (occ (u11.τ 22),[])) <| .mk <|
 @sChk (compat ([19] ++ (occ (u7.τ 14) ++ occ (u7.τ 18)),[19] ++ occ (u7.τ 14)) (occ (u11.τ 22),[])) <| .mk <|
 L 23 1 22 false u11 fun u12=>
 @sOp (some 24) (xApp Tryz.prog 35 9 120 (some 24) (u12.τ 19) (u12.τ 23) u12.H) u12<|.mk fun u13=>
 C0 Tryz.prog 141 [(u13.τ 12),(u13.τ 13),(u13.τ 24)] 25 u13 fun u14=>
 M 26 1 u14 fun u15=>
 C0 Tryz.prog 141 [(u15.τ 25),(u15.τ 26),(.nils)] 27 u15 fun u16=>
 M 6 27 u16 fun s=>
 Φ .ret s
def W123 (Φ:EP) (s:St):Prop:=
 @sOp (some 6) (xMov (.nils) s.H) s<|.mk fun s=>
 M 7 1 s fun s=>
 M 8 2 s fun s=>
 B 9 .eql false 7 8 s fun s=>
 If 9 s (W123_b2 Φ s) (W123_b5 Φ s)
theorem W123_rs (τ:Nat → AV) (H:Heap):resV Tryz.prog τ H [.tmp 6] = some (τ 6):=by kernel_rfl
theorem W123_eq:EqW Tryz.prog Tryz.f123 W123:=fun _ _=>by kernel_rfl
theorem W123_S:SpW Tryz.prog 123 28 [.tmp 6] W123:=spW Tryz.func123 Tryz.ntmps123 W123_eq
-- 127 "penance/penanceref4.settle"
def W127_k1 (Φ:EP) (s:St):Prop:=
 M 98 5 s fun s=>
 M 2 98 s fun s=>
 Φ .ret s
def W127_k2 (Φ:EP) (L0:SP) (L1:SP) (s:St):Prop:=
 M 29 7 s fun s=>
 J 30 .add false 29 1 s fun s=>
 M 7 30 s fun s=>
 L1 s
def W127_b5 (Φ:EP) (L0:SP) (L1:SP) (s:St):Prop:=
 M 66 5 s fun s=>
 @sOp (some 67) (xNil (s.τ 66) s.H) s<|.mk fun s=>
 F 68 1 67 s fun s=>
 L 69 1 68 false s fun s=>
 M 70 7 s fun s=>
 M 71 5 s fun s=>
 @sOp (some 72) (xNil (s.τ 71) s.H) s<|.mk fun s=>
 F 73 2 72 s fun s=>
 L 74 1 73 false s fun s=>
 M 75 7 s fun s=>
 M 76 5 s fun s=>
 @sOp (some 77) (xNil (s.τ 76) s.H) s<|.mk fun s=>
 F 78 1 77 s fun s=>
 L 79 1 78 false s fun s=>
 M 80 7 s fun s=>
 X 81 1 79 80 s fun s=>
 L 82 1 81 false s fun s=>
 M 83 82 s fun s=>
 gm 84 8 83 false s fun s=>
 O 85 83 84 s fun s=>
 M 86 5 s fun s=>
 @sOp (some 87) (xNil (s.τ 86) s.H) s<|.mk fun s=>
 F 88 2 87 s fun s=>
 L 89 1 88 false s fun s=>
 M 90 7 s fun s=>
 X 91 1 89 90 s fun s=>
 L 92 1 91 false s fun s=>
 M 93 92 s fun s=>
 gm 94 9 93 false s fun s=>
 O 95 93 94 s fun s=>
 X 96 1 69 70 s fun s=>
 U 1 96 85 s fun s=>
 X 97 1 74 75 s fun s=>
 U 1 97 95 s fun s=>
 V 6 true s fun s=>
 W127_k2 Φ L0 L1 s
def W127_b26 (Φ:EP) (L0:SP) (L1:SP) (s:St):Prop:=
 M 32 5 s fun s=>
 F 33 2 1 s fun s=>
 L 34 1 33 false s fun s=>
 M 35 7 s fun s=>
 X 36 9 34 35 s fun s=>
 F 37 1 36 s fun s=>
 L 38 8 37 true s fun s=>
 Ca Tryz.prog 142 [(s.τ 32),(s.τ 38)] 39 s fun s=>
 M 31 39 s fun s=>
 E 40 31 0 s fun s=>
 E 41 31 1 s fun s=>
 M 8 40 s fun s=>
 M 9 41 s fun s=>
 M 42 8 s fun s=>
 M 43 42 s fun s=>
 gm 44 5 43 true s fun s=>
 go 45 43 true s (fun s=>(xNil (s.τ 44) s.H)) fun s=>
 gf 46 1 45 43 true s fun s=>
 gl 47 1 46 43 false true s fun s=>
 gm 48 7 43 true s fun s=>
 go 49 43 true s (fun s=>(xIx 1 (s.τ 47) (s.τ 48) s.H)) fun s=>
 gl 50 1 49 43 false true s fun s=>
 go 51 43 true s (fun s=>(xNot (s.τ 50) s.H)) fun s=>
 A 52 43 51 s fun s=>
 M 53 52 s fun s=>
 gm 54 9 53 false s fun s=>
 gm 55 54 53 false s fun s=>
 gm 56 5 55 true s fun s=>
 go 57 55 true s (fun s=>(xNil (s.τ 56) s.H)) fun s=>
 gf 58 2 57 55 true s fun s=>
 gl 59 1 58 55 false true s fun s=>
 gm 60 7 55 true s fun s=>
 go 61 55 true s (fun s=>(xIx 1 (s.τ 59) (s.τ 60) s.H)) fun s=>
 gl 62 1 61 55 false true s fun s=>
 go 63 55 true s (fun s=>(xNot (s.τ 62) s.H)) fun s=>
 go 64 53 false s (fun s=>(xPick (s.τ 55) (s.τ 63) (.bool false) s.H)) fun s=>
 O 65 53 64 s fun s=>
 If 65 s (W127_b5 Φ L0 L1 s) (W127_k2 Φ L0 L1 s)
def W127_l27 (Φ:EP) (L0:SP) (L1:SP) (s:St):Prop:=
 M 25 7 s fun s=>
 M 26 4 s fun s=>
 N 27 26 s fun s=>
 B 28 .lss false 25 27 s fun s=>
 If 28 s (W127_b26 Φ L0 L1 s) (L0 s)
def W127_b28 (Φ:EP) (L0:SP) (s:St):Prop:=
 V 6 false s fun s=>
 I 7 0 s fun s=>
 @sLoop s ⟨fun L1 s=>W127_l27 Φ L0 L1 s⟩
def W127_l29 (Φ:EP) (L0:SP) (s:St):Prop:=
 M 24 6 s fun s=>
 If 24 s (W127_b28 Φ L0 s) (W127_k1 Φ s)
def W127 (Φ:EP) (s:St):Prop:=
 Y 1 76 0 s fun s=>
 @sOp (some 2) (xMov (.nilp) s.H) s<|.mk fun s=>
 L 11 3 1 true s fun s=>
 Ca Tryz.prog 65 [(s.τ 11)] 12 s fun s=>
 M 10 12 s fun s=>
 E 13 10 0 s fun s=>
 E 14 10 1 s fun s=>
 M 3 13 s fun s=>
 M 4 14 s fun s=>
 M 15 4 s fun u1=>
 M 16 4 u1 fun u2=>
 N 17 16 u2 fun u3=>
 @sOp (some 18) (xMks 18 4 1 1 [.bool false] (u3.τ 17) (u3.τ 17) u3.H) u3<|.mk fun u4=>
 M 19 4 u4 fun u5=>
 @sChk (compat ([18],[18]) (occ (u5.τ 19),[])) <| .mk <|
 N 20 19 u5 fun u6=>
 k1 (u2.τ 16) 21 <|
 k2 ([18],[18]) 21 <|
 @sOp (some 21) (xMks 21 4 1 1 [.bool false] (u6.τ 20) (u6.τ 20) u6.H) u6<|.mk fun u7=>
 Bd 22 [.nils,.nils,.nils] [(0,1,(u7.τ 15)),(1,1,(u7.τ 18)),(2,1,(u7.τ 21))] u7 fun u8=>
 Y 23 180 22 u8 fun u9=>
 M 5 23 u9 fun s=>
 V 6 true s fun s=>
 @sLoop s ⟨fun L0 s=>W127_l29 Φ L0 s⟩
theorem W127_rs (τ:Nat → AV) (H:Heap):resV Tryz.prog τ H [.tmp 2] = some (τ 2):=by kernel_rfl
theorem W127_eq:EqW Tryz.prog Tryz.f127 W127:=fun _ _=>by kernel_rfl
theorem W127_S:SpW Tryz.prog 127 99 [.tmp 2] W127:=spW Tryz.func127 Tryz.ntmps127 W127_eq
-- 128 "(*penance/penanceref4.may).front"
def W128_b1 (Φ:EP) (s:St):Prop:=
 M 38 2 s fun s=>
 M 39 6 s fun s=>
 X 40 1 38 39 s fun s=>
 @sOp none (xStore 1 (s.τ 40) (.bool true) s.H) s<|.mk fun s=>
 Φ .normal s
def W128_b3 (Φ:EP) (s:St):Prop:=
 M 29 0 s fun s=>
 @sOp (some 30) (xNil (s.τ 29) s.H) s<|.mk fun s=>
 F 31 0 30 s fun s=>
 L 32 1 31 false s fun s=>
 F 33 1 4 s fun s=>
 L 34 1 33 false s fun s=>
 C0 Tryz.prog 67 [(s.τ 32),(s.τ 34)] 35 s fun s=>
 M 6 35 s fun s=>
 M 36 6 s fun s=>
 J 37 .geq false 36 0 s fun s=>
 @sIf (s.τ 37) ⟨W128_b1 Φ s⟩ ⟨Φ .normal s⟩
def W128_b5 (Φ:EP) (s:St):Prop:=
 M 60 0 s fun s=>
 F 61 7 4 s fun s=>
 L 62 1 61 false s fun s=>
 @sOp (some 63) (xIx 8 (s.τ 62) (.int .i64 1) s.H) s<|.mk fun s=>
 L 64 8 63 true s fun s=>
 M 65 2 s fun s=>
 Ca Tryz.prog 128 [(s.τ 60),(s.τ 64),(s.τ 65)] 66 s fun s=>
 Φ .normal s
def W128_b8 (Φ:EP) (s:St):Prop:=
 M 43 0 s fun s=>
 F 44 7 4 s fun s=>
 L 45 1 44 false s fun s=>
 @sOp (some 46) (xIx 8 (s.τ 45) (.int .i64 0) s.H) s<|.mk fun s=>
 L 47 8 46 true s fun s=>
 M 48 2 s fun s=>
 Ca Tryz.prog 128 [(s.τ 43),(s.τ 47),(s.τ 48)] 49 s fun s=>
 M 51 0 s fun s=>
 F 52 7 4 s fun s=>
 L 53 1 52 false s fun s=>
 @sOp (some 54) (xIx 8 (s.τ 53) (.int .i64 0) s.H) s<|.mk fun s=>
 L 55 8 54 true s fun s=>
 Ca Tryz.prog 142 [(s.τ 51),(s.τ 55)] 56 s fun s=>
 M 50 56 s fun s=>
 E 57 50 0 s fun s=>
 E 58 50 1 s fun s=>
 M 7 57 s fun s=>
 M 8 58 s fun s=>
 M 59 7 s fun s=>
 @sIf (s.τ 59) ⟨W128_b5 Φ s⟩ ⟨Φ .normal s⟩
def W128_b10 (Φ:EP) (L0:SP) (s:St):Prop:=
 M 19 0 s fun s=>
 F 20 7 4 s fun s=>
 L 21 1 20 false s fun s=>
 M 22 9 s fun s=>
 X 23 8 21 22 s fun s=>
 L 24 8 23 true s fun s=>
 M 25 2 s fun s=>
 Ca Tryz.prog 128 [(s.τ 19),(s.τ 24),(s.τ 25)] 26 s fun s=>
 M 17 9 s fun s=>
 J 18 .add false 17 1 s fun s=>
 M 9 18 s fun s=>
 L0 s
def W128_l11 (Φ:EP) (L0:SP) (s:St):Prop:=
 M 12 9 s fun s=>
 F 13 7 4 s fun s=>
 L 14 1 13 false s fun s=>
 N 15 14 s fun s=>
 B 16 .lss false 12 15 s fun s=>
 @sIf (s.τ 16) ⟨W128_b10 Φ L0 s⟩ ⟨Φ .normal s⟩
def W128_b12 (Φ:EP) (s:St):Prop:=
 I 9 0 s fun s=>
 @sLoop s ⟨fun L0 s=>W128_l11 Φ L0 s⟩
def W128_b13 (Φ:EP) (s:St):Prop:=
 J 42 .eql false 11 12 s fun s=>
 M 41 42 s fun s=>
 If 41 s (W128_b8 Φ s) (W128_b12 Φ s)
def W128 (Φ:EP) (s:St):Prop:=
 Y 4 80 1 s fun s=>
 F 10 0 4 s fun s=>
 L 11 1 10 false s fun s=>
 J 28 .eql false 11 13 s fun s=>
 M 27 28 s fun s=>
 If 27 s (W128_b3 Φ s) (W128_b13 Φ s)
theorem W128_rs (τ:Nat → AV) (H:Heap):resV Tryz.prog τ H [] = ob (some []) fun vs=>some (.tup vs):=by kernel_rfl
theorem W128_eq:EqW Tryz.prog Tryz.f128 W128:=fun _ _=>by kernel_rfl
theorem W128_S:SpW Tryz.prog 128 67 [] W128:=spW Tryz.func128 Tryz.ntmps128 W128_eq
-- 129 "(penance/penancelaw2.Raw).Make"
def W129_b2 (Φ:EP) (s:St):Prop:=
 Lt 23 1 8 [.int .i64 0] [(0,(.int .i64 0)),(1,(.int .i64 1)),(2,(.int .i64 2)),(3,(.int .i64 7)),(4,(.int .i64 99)),(5,(.int .i64 999999999999999999)),(6,(.int .i64 5)),(7,(.int .i64 3))] s fun s=>
 F 24 1 2 s fun s=>
 L 25 1 24 false s fun s=>
 Ca Tryz.prog 143 [(s.τ 25),(.int .i64 8)] 26 s fun s=>
 X 27 1 23 26 s fun s=>
 L 28 1 27 false s fun s=>
 Bd 29 z4 [(0,1,(.int .i64 1)),(1,1,(s.τ 28))] s fun s=>
 U 4 4 29 s fun s=>
 Φ .ret s
def W129_b4 (Φ:EP) (s:St):Prop:=
 M 38 1 s fun s=>
 F 39 1 2 s fun s=>
 L 40 1 39 false s fun s=>
 M 41 1 s fun s=>
 N 42 41 s fun s=>
 Ca Tryz.prog 143 [(s.τ 40),(s.τ 42)] 43 s fun s=>
 X 44 1 38 43 s fun s=>
 L 45 1 44 false s fun s=>
 Bd 46 z4 [(0,1,(.int .i64 2)),(2,1,(s.τ 45))] s fun s=>
 U 4 4 46 s fun s=>
 Φ .ret s
def W129_b6 (Φ:EP) (s:St):Prop:=
 F 50 1 2 s fun s=>
 L 51 1 50 false s fun s=>
 Ca Tryz.prog 143 [(s.τ 51),(.int .i64 3)] 52 s fun s=>
 Bd 53 z4 [(0,1,(.int .i64 2)),(1,1,(s.τ 52))] s fun s=>
 U 4 4 53 s fun s=>
 Φ .ret s
def W129_b8 (Φ:EP) (s:St):Prop:=
 L 57 3 2 true s fun s=>
 M 58 1 s fun s=>
 Ca Tryz.prog 144 [(s.τ 57),(.int .i64 0),(s.τ 58)] 59 s fun s=>
 Lt 60 4 1 z4 [(0,(s.τ 59))] s fun s=>
 Bd 61 z4 [(0,1,(.int .i64 3)),(3,1,(s.τ 60))] s fun s=>
 U 4 4 61 s fun s=>
 Φ .ret s
def W129_b10 (Φ:EP) (s:St):Prop:=
 L 65 3 2 true s fun s=>
 M 66 1 s fun s=>
 Ca Tryz.prog 144 [(s.τ 65),(.int .i64 0),(s.τ 66)] 67 s fun s=>
 Lt 68 4 1 z4 [(0,(s.τ 67))] s fun s=>
 Bd 69 z4 [(0,1,(.int .i64 4)),(3,1,(s.τ 68))] s fun s=>
 U 4 4 69 s fun s=>
 Φ .ret s
def W129_b13 (Φ:EP) (s:St):Prop:=
 M 9 5 s fun u1=>
 @sOp (some 10) (xBin .add false (.int .i64 5) (u1.τ 9) u1.H) u1<|.mk fun u2=>
 J 11 .sub false 10 11 u2 fun u3=>
 L 12 3 2 true u3 fun u4=>
 M 13 1 u4 fun u5=>
 C0 Tryz.prog 144 [(u5.τ 12),(.int .i64 0),(u5.τ 13)] 14 u5 fun u6=>
 @sChk (compat (cfp 14 144 [(u5.τ 12),(.int .i64 0),(u5.τ 13)]) (occ (u6.τ 2),[])) <| .mk <|
 L 15 3 2 true u6 fun u7=>
 M 16 1 u7 fun u8=>
 C0 Tryz.prog 144 [(u8.τ 15),(.int .i64 1),(u8.τ 16)] 17 u8 fun u9=>
 Lt 18 4 2 z4 [(0,(u9.τ 14)),(1,(u9.τ 17))] u9 fun u10=>
 Bd 19 z4 [(0,1,(u10.τ 11)),(3,1,(u10.τ 18))] u10 fun u11=>
 U 4 4 19 u11 fun s=>
 Φ .ret s
def W129_b14 (Φ:EP) (s:St):Prop:=
 M 63 5 s fun s=>
 J 64 .eql false 63 10 s fun s=>
 M 62 64 s fun s=>
 If 62 s (W129_b10 Φ s) (W129_b13 Φ s)
def W129_b15 (Φ:EP) (s:St):Prop:=
 M 55 5 s fun s=>
 J 56 .eql false 55 9 s fun s=>
 M 54 56 s fun s=>
 If 54 s (W129_b8 Φ s) (W129_b14 Φ s)
def W129_b16 (Φ:EP) (s:St):Prop:=
 M 48 5 s fun s=>
 J 49 .lss false 48 9 s fun s=>
 M 47 49 s fun s=>
 If 47 s (W129_b6 Φ s) (W129_b15 Φ s)
def W129_b20 (Φ:EP) (s:St):Prop:=
 M 31 5 s fun s=>
 J 32 .lss false 31 9 s fun s=>
 M 33 32 s fun s=>
 gm 34 1 33 true s fun s=>
 go 35 33 true s (fun s=>(xLen (s.τ 34) s.H)) fun s=>
 go 36 33 true s (fun s=>(xBin .gtr false (s.τ 35) (.int .i64 0) s.H)) fun s=>
 A 37 33 36 s fun s=>
 M 30 37 s fun s=>
 If 30 s (W129_b4 Φ s) (W129_b16 Φ s)
def W129 (Φ:EP) (s:St):Prop:=
 Y 2 176 0 s fun s=>
 Z 4 33 z4 s fun s=>
 F 6 0 2 s fun s=>
 L 7 1 6 false s fun s=>
 Ca Tryz.prog 143 [(s.τ 7),(.int .i64 24)] 8 s fun s=>
 M 5 8 s fun s=>
 M 21 5 s fun s=>
 J 22 .lss false 21 4 s fun s=>
 M 20 22 s fun s=>
 If 20 s (W129_b2 Φ s) (W129_b20 Φ s)
theorem W129_rs (τ:Nat → AV) (H:Heap):resV Tryz.prog τ H [.cell 4 33] = rdV H 4 true (τ 4):=by kernel_rfl
theorem W129_eq:EqW Tryz.prog Tryz.f129 W129:=fun _ _=>by kernel_rfl
theorem W129_S:SpW Tryz.prog 129 70 [.cell 4 33] W129:=spW Tryz.func129 Tryz.ntmps129 W129_eq
-- 130 "slices.Clone[[]penance/api.Expr,penance/api.Expr]"
def W130_b1 (Φ:EP) (s:St):Prop:=
 @sOp (some 2) (xMov (.nils) s.H) s<|.mk fun s=>
 Φ .ret s
def W130_b2 (Φ:EP) (s:St):Prop:=
 @sOp (some 5) (xRow 5 33 4 0 z4 [] s.H) s<|.mk fun s=>
 M 6 0 s fun s=>
 @sOp (some 7) (xApp Tryz.prog 33 4 56 (some 7) (s.τ 5) (s.τ 6) s.H) s<|.mk fun s=>
 M 2 7 s fun s=>
 Φ .ret s
def W130 (Φ:EP) (s:St):Prop:=
 @sOp (some 2) (xMov (.nils) s.H) s<|.mk fun s=>
 M 3 0 s fun s=>
 @sNil false (s.τ 3) (some 4) s<|.mk fun s=>
 If 4 s (W130_b1 Φ s) (W130_b2 Φ s)
theorem W130_rs (τ:Nat → AV) (H:Heap):resV Tryz.prog τ H [.tmp 2] = some (τ 2):=by kernel_rfl
theorem W130_eq:EqW Tryz.prog Tryz.f130 W130:=fun _ _=>by kernel_rfl
theorem W130_S:SpW Tryz.prog 130 8 [.tmp 2] W130:=spW Tryz.func130 Tryz.ntmps130 W130_eq
-- 131 "slices.Clone[[][]penance/api.Term,[]penance/api.Term]"
def W131_b1 (Φ:EP) (s:St):Prop:=
 @sOp (some 2) (xMov (.nils) s.H) s<|.mk fun s=>
 Φ .ret s
def W131_b2 (Φ:EP) (s:St):Prop:=
 @sLit (some 5) (xRow 5 27 1 0 [.nils] [] s.H) (xLitR 1 0 [.nils] [] s.H) s<|.mk fun s=>
 M 6 0 s fun s=>
 @sOp (some 7) (xApp Tryz.prog 27 1 24 (some 7) (s.τ 5) (s.τ 6) s.H) s<|.mk fun s=>
 M 2 7 s fun s=>
 Φ .ret s
def W131 (Φ:EP) (s:St):Prop:=
 @sOp (some 2) (xMov (.nils) s.H) s<|.mk fun s=>
 M 3 0 s fun s=>
 @sNil false (s.τ 3) (some 4) s<|.mk fun s=>
 If 4 s (W131_b1 Φ s) (W131_b2 Φ s)
theorem W131_rs (τ:Nat → AV) (H:Heap):resV Tryz.prog τ H [.tmp 2] = some (τ 2):=by kernel_rfl
theorem W131_eq:EqW Tryz.prog Tryz.f131 W131:=fun _ _=>by kernel_rfl
theorem W131_S:SpW Tryz.prog 131 8 [.tmp 2] W131:=spW Tryz.func131 Tryz.ntmps131 W131_eq
-- 132 "penance/lex.Key"
def W132 (Φ:EP) (s:St):Prop:=
 V 2 false s fun s=>
 Ca Tryz.prog 146 [] 3 s fun s=>
 M 4 0 s fun s=>
 Ca Tryz.prog 145 [(s.τ 3),(s.τ 4)] 5 s fun s=>
 M 2 5 s fun s=>
 Φ .ret s
theorem W132_rs (τ:Nat → AV) (H:Heap):resV Tryz.prog τ H [.tmp 2] = some (τ 2):=by kernel_rfl
theorem W132_eq:EqW Tryz.prog Tryz.f132 W132:=fun _ _=>by kernel_rfl
theorem W132_S:SpW Tryz.prog 132 6 [.tmp 2] W132:=spW Tryz.func132 Tryz.ntmps132 W132_eq
-- 133 "penance/lex.small"
def W133 (Φ:EP) (s:St):Prop:=
 V 2 false s fun s=>
 M 3 0 s fun s=>
 @sOp (some 4) (xBin .geq false (s.τ 3) (.int .u8 97) s.H) s<|.mk fun s=>
 M 5 4 s fun s=>
 gm 6 0 5 true s fun s=>
 go 7 5 true s (fun s=>(xBin .leq false (s.τ 6) (.int .u8 122) s.H)) fun s=>
 A 8 5 7 s fun s=>
 M 2 8 s fun s=>
 Φ .ret s
theorem W133_rs (τ:Nat → AV) (H:Heap):resV Tryz.prog τ H [.tmp 2] = some (τ 2):=by kernel_rfl
theorem W133_eq:EqW Tryz.prog Tryz.f133 W133:=fun _ _=>by kernel_rfl
theorem W133_S:SpW Tryz.prog 133 9 [.tmp 2] W133:=spW Tryz.func133 Tryz.ntmps133 W133_eq
-- 134 "penance/lex.inner"
def W134 (Φ:EP) (s:St):Prop:=
 V 2 false s fun s=>
 M 3 0 s fun s=>
 Ca Tryz.prog 133 [(s.τ 3)] 4 s fun s=>
 M 5 4 s fun s=>
 gm 6 0 5 false s fun s=>
 @sGrd (guardOf (s.τ 5) false) (some 7) s ⟨fun s K=>@sCall Tryz.prog (.func 147 []) [(s.τ 6)] (some 7) s ⟨K⟩⟩<|.mk fun s=>
 O 8 5 7 s fun s=>
 M 9 8 s fun s=>
 gm 10 0 9 false s fun s=>
 go 11 9 false s (fun s=>(xBin .eql false (s.τ 10) (.int .u8 95) s.H)) fun s=>
 O 12 9 11 s fun s=>
 M 2 12 s fun s=>
 Φ .ret s
theorem W134_rs (τ:Nat → AV) (H:Heap):resV Tryz.prog τ H [.tmp 2] = some (τ 2):=by kernel_rfl
theorem W134_eq:EqW Tryz.prog Tryz.f134 W134:=fun _ _=>by kernel_rfl
theorem W134_S:SpW Tryz.prog 134 13 [.tmp 2] W134:=spW Tryz.func134 Tryz.ntmps134 W134_eq
-- 135 "penance/expr.all"
def W135 (Φ:EP) (s:St):Prop:=
 Y 1 33 0 s fun s=>
 @sOp (some 2) (xMov (.nilf) s.H) s<|.mk fun s=>
 @sOp (some 3) (xMkf 148 [(s.τ 1)] s.H) s<|.mk fun s=>
 M 2 3 s fun s=>
 Φ .ret s
theorem W135_rs (τ:Nat → AV) (H:Heap):resV Tryz.prog τ H [.tmp 2] = some (τ 2):=by kernel_rfl
theorem W135_eq:EqW Tryz.prog Tryz.f135 W135:=fun _ _=>by kernel_rfl
theorem W135_S:SpW Tryz.prog 135 4 [.tmp 2] W135:=spW Tryz.func135 Tryz.ntmps135 W135_eq
-- 136 "penance/expr.children"
def W136_b1 (Φ:EP) (s:St):Prop:=
 I 2 0 s fun s=>
 Φ .ret s
def W136_b2 (Φ:EP) (s:St):Prop:=
 I 2 1 s fun s=>
 Φ .ret s
def W136_b3 (Φ:EP) (s:St):Prop:=
 I 2 2 s fun s=>
 Φ .ret s
def W136_b6 (Φ:EP) (s:St):Prop:=
 M 11 0 s fun s=>
 J 12 .eql false 11 3 s fun s=>
 M 13 12 s fun s=>
 gm 14 0 13 false s fun s=>
 go 15 13 false s (fun s=>(xBin .eql false (s.τ 14) (.int .i64 4) s.H)) fun s=>
 O 16 13 15 s fun s=>
 M 10 16 s fun s=>
 If 10 s (W136_b2 Φ s) (W136_b3 Φ s)
def W136 (Φ:EP) (s:St):Prop:=
 I 2 0 s fun s=>
 M 4 0 s fun s=>
 J 5 .eql false 4 1 s fun s=>
 M 6 5 s fun s=>
 gm 7 0 6 false s fun s=>
 go 8 6 false s (fun s=>(xBin .eql false (s.τ 7) (.int .i64 2) s.H)) fun s=>
 O 9 6 8 s fun s=>
 M 3 9 s fun s=>
 If 3 s (W136_b1 Φ s) (W136_b6 Φ s)
theorem W136_rs (τ:Nat → AV) (H:Heap):resV Tryz.prog τ H [.tmp 2] = some (τ 2):=by kernel_rfl
theorem W136_eq:EqW Tryz.prog Tryz.f136 W136:=fun _ _=>by kernel_rfl
theorem W136_S:SpW Tryz.prog 136 17 [.tmp 2] W136:=spW Tryz.func136 Tryz.ntmps136 W136_eq
-- 137 "(penance/steps.place).below"
def W137_k1 (Φ:EP) (s:St):Prop:=
 L 31 11 5 true s fun s=>
 U 11 4 31 s fun s=>
 Φ .ret s
def W137_b3 (Φ:EP) (s:St):Prop:=
 F 25 0 5 s fun s=>
 L 26 9 25 true s fun s=>
 Ca Tryz.prog 114 [(s.τ 26)] 27 s fun s=>
 N 28 27 s fun s=>
 J 29 .gtr false 28 0 s fun s=>
 F 30 10 5 s fun s=>
 U 1 30 29 s fun s=>
 W137_k1 Φ s
def W137 (Φ:EP) (s:St):Prop:=
 Y 2 140 0 s fun s=>
 Z 4 140 [.int .i64 0,.int .i64 0,.int .i64 0,.str ⟨#[]⟩,.int .i64 0,.int .i64 0,.str ⟨#[]⟩,.nils,.nils,.nils,.bool false] s fun s=>
 F 6 0 2 s fun u1=>
 F 7 8 6 u1 fun u2=>
 L 8 1 7 false u2 fun u3=>
 M 9 1 u3 fun u4=>
 X 10 9 8 9 u4 fun u5=>
 L 11 9 10 true u5 fun u6=>
 F 12 9 2 u6 fun u7=>
 L 13 1 12 false u7 fun u8=>
 k3 (s.τ 2) (cfp 14 33 [(u8.τ 13)]) <|
 k3 (u1.τ 6) (cfp 14 33 [(u8.τ 13)]) <|
 k3 (u2.τ 7) (cfp 14 33 [(u8.τ 13)]) <|
 k3 (u4.τ 8) (cfp 14 33 [(u8.τ 13)]) <|
 k3 (u5.τ 10) (cfp 14 33 [(u8.τ 13)]) <|
 C0 Tryz.prog 33 [(u8.τ 13)] 14 u8 fun u9=>
 M 15 1 u9 fun u10=>
 k3 (s.τ 2) ([16] ++ occL [(u10.τ 15)],[16] ++ occL [(u10.τ 15)]) <|
 k3 (u1.τ 6) ([16] ++ occL [(u10.τ 15)],[16] ++ occL [(u10.τ 15)]) <|
 k3 (u2.τ 7) ([16] ++ occL [(u10.τ 15)],[16] ++ occL [(u10.τ 15)]) <|
 k3 (u4.τ 8) ([16] ++ occL [(u10.τ 15)],[16] ++ occL [(u10.τ 15)]) <|
 k3 (u5.τ 10) ([16] ++ occL [(u10.τ 15)],[16] ++ occL [(u10.τ 15)]) <|
 k3 (u6.τ 2) ([16] ++ occL [(u10.τ 15)],[16] ++ occL [(u10.τ 15)]) <|
 k3 (u7.τ 12) ([16] ++ occL [(u10.τ 15)],[16] ++ occL [(u10.τ 15)]) <|
 @sChk (compat (cfp 14 33 [(u8.τ 13)]) ([16] ++ occL [(u10.τ 15)],[16] ++ occL [(u10.τ 15)])) <| .mk <|
 Lt 16 1 1 [.int .i64 0] [(0,(u10.τ 15))] u10 fun u11=>
 k3 (s.τ 2) ([17] ++ (occ (u11.τ 14) ++ occ (u11.τ 16)),[17] ++ occ (u11.τ 14)) <|
 k3 (u1.τ 6) ([17] ++ (occ (u11.τ 14) ++ occ (u11.τ 16)),[17] ++ occ (u11.τ 14)) <|
 k3 (u2.τ 7) ([17] ++ (occ (u11.τ 14) ++ occ (u11.τ 16)),[17] ++ occ (u11.τ 14)) <|
 k3 (u4.τ 8) ([17] ++ (occ (u11.τ 14) ++ occ (u11.τ 16)),[17] ++ occ (u11.τ 14)) <|
 k3 (u5.τ 10) ([17] ++ (occ (u11.τ 14) ++ occ (u11.τ 16)),[17] ++ occ (u11.τ 14)) <|
 @sOp (some 17) (xApp Tryz.prog 3 1 8 (some 17) (u11.τ 14) (u11.τ 16) u11.H) u11<|.mk fun u12=>
 @sChk (compat (cfp 14 33 [(u8.τ 13)]) (occ (u12.τ 2),[])) <| .mk <|
 @sChk (compat ([16] ++ occL [(u10.τ 15)],[16] ++ occL [(u10.τ 15)]) (occ (u12.τ 2),[])) <| .mk <|
 @sChk (compat ([17] ++ (occ (u11.τ 14) ++ occ (u11.τ 16)),[17] ++ occ (u11.τ 14)) (occ (u12.τ 2),[])) <| .mk <|
 F 18 10 2 u12 fun u13=>
 @sChk (compat (cfp 14 33 [(u8.τ 13)]) (occ (u13.τ 18),[])) <| .mk <|
 @sChk (compat ([16] ++ occL [(u10.τ 15)],[16] ++ occL [(u10.τ 15)]) (occ (u13.τ 18),[])) <| .mk <|
 @sChk (compat ([17] ++ (occ (u11.τ 14) ++ occ (u11.τ 16)),[17] ++ occ (u11.τ 14)) (occ (u13.τ 18),[])) <| .mk <|
 L 19 1 18 false u13 fun u14=>
 Bd 20 [.int .i64 0,.int .i64 0,.int .i64 0,.str ⟨#[]⟩,.int .i64 0,.int .i64 0,.str ⟨#[]⟩,.nils,.nils,.nils,.bool false] [(0,9,(u14.τ 11)),(9,1,(u14.τ 17)),(10,1,(u14.τ 19))] u14 fun u15=>
 k1 (s.τ 2) 5 <|
 k1 (u1.τ 6) 5 <|
 k1 (u2.τ 7) 5 <|
 k1 (u4.τ 8) 5 <|
 k1 (u5.τ 10) 5 <|
 k1 (u6.τ 2) 5 <|
 k1 (u7.τ 12) 5 <|
 k2 (cfp 14 33 [(u8.τ 13)]) 5 <|
 k2 ([16] ++ occL [(u10.τ 15)],[16] ++ occL [(u10.τ 15)]) 5 <|
 k2 ([17] ++ (occ (u11.τ 14) ++ occ (u11.τ 16)),[17] ++ occ (u11.τ 14)) 5 <|
 k1 (u12.τ 2) 5 <|
 k1 (u13.τ 18) 5 <|
 Z 5 140 [.int .i64 0,.int .i64 0,.int .i64 0,.str ⟨#[]⟩,.int .i64 0,.int .i64 0,.str ⟨#[]⟩,.nils,.nils,.nils,.bool false] u15 fun u16=>
 U 11 5 20 u16 fun s=>
 F 21 0 2 s fun s=>
 F 22 0 21 s fun s=>
 L 23 1 22 false s fun s=>
 J 24 .eql false 23 7 s fun s=>
 If 24 s (W137_b3 Φ s) (W137_k1 Φ s)
theorem W137_rs (τ:Nat → AV) (H:Heap):resV Tryz.prog τ H [.cell 4 140] = rdV H 11 true (τ 4):=by kernel_rfl
theorem W137_eq:EqW Tryz.prog Tryz.f137 W137:=fun _ _=>by kernel_rfl
theorem W137_S:SpW Tryz.prog 137 32 [.cell 4 140] W137:=spW Tryz.func137 Tryz.ntmps137 W137_eq
-- 138 "penance/term.active"
def W138 (Φ:EP) (s:St):Prop:=
 Y 1 35 0 s fun s=>
 @sOp (some 2) (xMov (.nilf) s.H) s<|.mk fun s=>
 @sOp (some 3) (xMkf 150 [(s.τ 1)] s.H) s<|.mk fun s=>
 M 2 3 s fun s=>
 Φ .ret s
theorem W138_rs (τ:Nat → AV) (H:Heap):resV Tryz.prog τ H [.tmp 2] = some (τ 2):=by kernel_rfl
theorem W138_eq:EqW Tryz.prog Tryz.f138 W138:=fun _ _=>by kernel_rfl
theorem W138_S:SpW Tryz.prog 138 4 [.tmp 2] W138:=spW Tryz.func138 Tryz.ntmps138 W138_eq
-- 139 "penance/stacks.mapped[penance/api.Expr]"
def W139_k2 (Φ:EP) (s:St):Prop:=
 M 22 5 s fun s=>
 N 23 22 s fun s=>
 M 8 23 s fun s=>
 M 24 5 s fun s=>
 M 25 8 s fun s=>
 M 26 8 s fun s=>
 @sOp (some 27) (xSl3 4 (s.τ 24) (s.τ 25) (s.τ 26) (frz s.H (s.τ 24))) s<|.mk fun s=>
 Ca Tryz.prog 130 [(s.τ 27)] 28 s fun s=>
 M 4 28 s fun s=>
 Φ .ret s
def W139_b4 (Φ:EP) (L0:SP) (s:St):Prop:=
 X 13 4 9 11 s fun s=>
 L 14 4 13 true s fun s=>
 Z 7 33 z4 s fun s=>
 U 4 7 14 s fun s=>
 M 15 5 s fun s=>
 M 16 1 s fun s=>
 L 17 4 7 true s fun s=>
 @sCall Tryz.prog (s.τ 16) [(s.τ 17)] (some 18) s<|.mk fun s=>
 Lt 19 4 1 z4 [(0,(s.τ 18))] s fun s=>
 @sOp (some 20) (xApp Tryz.prog 33 4 56 (some 20) (s.τ 15) (s.τ 19) s.H) s<|.mk fun s=>
 M 5 20 s fun s=>
 J 21 .add false 11 1 s fun s=>
 M 11 21 s fun s=>
 L0 s
def W139_l5 (Φ:EP) (L0:SP) (s:St):Prop:=
 B 12 .lss false 11 10 s fun s=>
 If 12 s (W139_b4 Φ L0 s) (W139_k2 Φ s)
def W139 (Φ:EP) (s:St):Prop:=
 @sOp (some 4) (xMov (.nils) s.H) s<|.mk fun s=>
 @sOp (some 5) (xMov (.nils) s.H) s<|.mk fun s=>
 M 9 0 s fun s=>
 N 10 9 s fun s=>
 I 11 0 s fun s=>
 @sLoop s ⟨fun L0 s=>W139_l5 Φ L0 s⟩
theorem W139_rs (τ:Nat → AV) (H:Heap):resV Tryz.prog τ H [.tmp 4] = some (τ 4):=by kernel_rfl
theorem W139_eq:EqW Tryz.prog Tryz.f139 W139:=fun _ _=>by kernel_rfl
theorem W139_S:SpW Tryz.prog 139 29 [.tmp 4] W139:=spW Tryz.func139 Tryz.ntmps139 W139_eq
-- 140 "penance/penanceref2.times"
def W140_b1 (Φ:EP) (s:St):Prop:=
 I 4 0 s fun s=>
 I 5 0 s fun s=>
 Φ .ret s
def W140_b2 (Φ:EP) (s:St):Prop:=
 I 4 0 s fun s=>
 I 5 8 s fun s=>
 Φ .ret s
def W140_b3 (Φ:EP) (s:St):Prop:=
 M 37 6 s fun s=>
 M 4 37 s fun s=>
 I 5 0 s fun s=>
 Φ .ret s
def W140_b16 (Φ:EP) (s:St):Prop:=
 M 13 0 s fun s=>
 M 14 1 s fun s=>
 B 15 .mul false 13 14 s fun s=>
 M 6 15 s fun s=>
 M 16 6 s fun s=>
 M 17 1 s fun s=>
 B 18 .quo false 16 17 s fun s=>
 M 19 0 s fun s=>
 B 20 .neq false 18 19 s fun s=>
 M 21 20 s fun s=>
 gm 22 0 21 false s fun s=>
 go 23 21 false s (fun s=>(xBin .eql false (s.τ 22) (.int .i64 (-1)) s.H)) fun s=>
 gm 24 23 21 false s fun s=>
 gm 25 1 24 true s fun s=>
 go 26 24 true s (fun s=>(xBin .eql false (s.τ 25) (.int .i64 (-9223372036854775808)) s.H)) fun s=>
 go 27 21 false s (fun s=>(xPick (s.τ 24) (s.τ 26) (.bool false) s.H)) fun s=>
 O 28 21 27 s fun s=>
 M 29 28 s fun s=>
 gm 30 1 29 false s fun s=>
 go 31 29 false s (fun s=>(xBin .eql false (s.τ 30) (.int .i64 (-1)) s.H)) fun s=>
 gm 32 31 29 false s fun s=>
 gm 33 0 32 true s fun s=>
 go 34 32 true s (fun s=>(xBin .eql false (s.τ 33) (.int .i64 (-9223372036854775808)) s.H)) fun s=>
 go 35 29 false s (fun s=>(xPick (s.τ 32) (s.τ 34) (.bool false) s.H)) fun s=>
 O 36 29 35 s fun s=>
 If 36 s (W140_b2 Φ s) (W140_b3 Φ s)
def W140 (Φ:EP) (s:St):Prop:=
 I 4 0 s fun s=>
 I 5 0 s fun s=>
 M 7 0 s fun s=>
 J 8 .eql false 7 0 s fun s=>
 M 9 8 s fun s=>
 gm 10 1 9 false s fun s=>
 go 11 9 false s (fun s=>(xBin .eql false (s.τ 10) (.int .i64 0) s.H)) fun s=>
 O 12 9 11 s fun s=>
 If 12 s (W140_b1 Φ s) (W140_b16 Φ s)
theorem W140_rs (τ:Nat → AV) (H:Heap):resV Tryz.prog τ H [.tmp 4,.tmp 5] = ob (ob (some (τ 4)) fun v=>ob (ob (some (τ 5)) fun v=>ob (some []) fun vs=>some (v :: vs)) fun vs=>some (v :: vs)) fun vs=>some (.tup vs):=by kernel_rfl
theorem W140_eq:EqW Tryz.prog Tryz.f140 W140:=fun _ _=>by kernel_rfl
theorem W140_S:SpW Tryz.prog 140 38 [.tmp 4,.tmp 5] W140:=spW Tryz.func140 Tryz.ntmps140 W140_eq
-- 141 "penance/penanceref6.copied"
def W141_k1 (Φ:EP) (s:St):Prop:=
 M 30 7 s fun s=>
 M 6 30 s fun s=>
 Φ .ret s
def W141_k2 (Φ:EP) (L0:SP) (s:St):Prop:=
 M 24 7 s fun s=>
 @sOp (some 25) (xRow 25 35 9 0 z9 [] s.H) s<|.mk fun s=>
 M 26 9 s fun s=>
 @sOp (some 27) (xApp Tryz.prog 35 9 120 (some 27) (s.τ 25) (s.τ 26) s.H) s<|.mk fun s=>
 @sLit (some 28) (xLit 1 1 [.nils] [(0,(s.τ 27))] s.H) (xLitR 1 1 [.nils] [(0,(s.τ 27))] s.H) s<|.mk fun s=>
 @sOp (some 29) (xApp Tryz.prog 27 1 24 (some 29) (s.τ 24) (s.τ 28) s.H) s<|.mk fun s=>
 M 7 29 s fun s=>
 M 14 8 s fun s=>
 J 15 .add false 14 1 s fun s=>
 M 8 15 s fun s=>
 L0 s
def W141_b3 (Φ:EP) (L0:SP) (s:St):Prop:=
 M 23 2 s fun s=>
 M 9 23 s fun s=>
 W141_k2 Φ L0 s
def W141_b4 (Φ:EP) (L0:SP) (s:St):Prop:=
 M 16 0 s fun s=>
 M 17 8 s fun s=>
 X 18 1 16 17 s fun s=>
 L 19 1 18 false s fun s=>
 M 9 19 s fun s=>
 M 20 8 s fun s=>
 M 21 1 s fun s=>
 B 22 .eql false 20 21 s fun s=>
 If 22 s (W141_b3 Φ L0 s) (W141_k2 Φ L0 s)
def W141_l5 (Φ:EP) (L0:SP) (s:St):Prop:=
 M 10 8 s fun s=>
 M 11 0 s fun s=>
 N 12 11 s fun s=>
 B 13 .lss false 10 12 s fun s=>
 If 13 s (W141_b4 Φ L0 s) (W141_k1 Φ s)
def W141 (Φ:EP) (s:St):Prop:=
 @sOp (some 6) (xMov (.nils) s.H) s<|.mk fun s=>
 @sOp (some 7) (xMov (.nils) s.H) s<|.mk fun s=>
 I 8 0 s fun s=>
 @sLoop s ⟨fun L0 s=>W141_l5 Φ L0 s⟩
theorem W141_rs (τ:Nat → AV) (H:Heap):resV Tryz.prog τ H [.tmp 6] = some (τ 6):=by kernel_rfl
theorem W141_eq:EqW Tryz.prog Tryz.f141 W141:=fun _ _=>by kernel_rfl
theorem W141_S:SpW Tryz.prog 141 31 [.tmp 6] W141:=spW Tryz.func141 Tryz.ntmps141 W141_eq
-- 142 "(*penance/penanceref4.may).both"
def W142_b1 (Φ:EP) (s:St):Prop:=
 V 4 false s fun s=>
 V 5 false s fun s=>
 Φ .ret s
def W142_b2 (Φ:EP) (s:St):Prop:=
 V 4 false s fun s=>
 V 5 true s fun s=>
 Φ .ret s
def W142_b3 (Φ:EP) (s:St):Prop:=
 V 4 true s fun s=>
 V 5 true s fun s=>
 Φ .ret s
def W142_b6 (Φ:EP) (s:St):Prop:=
 @sOp (some 45) (xIxA 2 1 (s.τ 6) (.int .i64 0) s.H) s<|.mk fun s=>
 L 46 1 45 false s fun s=>
 M 47 46 s fun s=>
 go 48 47 false s (fun s=>(xIxA 2 1 (s.τ 7) (.int .i64 0) s.H)) fun s=>
 gl 49 1 48 47 false false s fun s=>
 O 50 47 49 s fun s=>
 M 4 50 s fun s=>
 V 5 false s fun s=>
 Φ .ret s
def W142_b11 (Φ:EP) (s:St):Prop:=
 @sOp (some 54) (xIxA 2 1 (s.τ 6) (.int .i64 0) s.H) s<|.mk fun s=>
 L 55 1 54 false s fun s=>
 M 56 55 s fun s=>
 go 57 56 false s (fun s=>(xIxA 2 1 (s.τ 6) (.int .i64 1) s.H)) fun s=>
 gl 58 1 57 56 false false s fun s=>
 O 59 56 58 s fun s=>
 @sOp (some 60) (xIxA 2 1 (s.τ 7) (.int .i64 0) s.H) s<|.mk fun s=>
 L 61 1 60 false s fun s=>
 M 62 61 s fun s=>
 go 63 62 false s (fun s=>(xIxA 2 1 (s.τ 7) (.int .i64 1) s.H)) fun s=>
 gl 64 1 63 62 false false s fun s=>
 O 65 62 64 s fun s=>
 M 4 59 s fun s=>
 M 5 65 s fun s=>
 Φ .ret s
def W142_b16 (Φ:EP) (s:St):Prop:=
 @sOp (some 68) (xIxA 2 1 (s.τ 6) (.int .i64 0) s.H) s<|.mk fun s=>
 L 69 1 68 false s fun s=>
 M 70 69 s fun s=>
 go 71 70 true s (fun s=>(xIxA 2 1 (s.τ 6) (.int .i64 1) s.H)) fun s=>
 gl 72 1 71 70 false true s fun s=>
 A 73 70 72 s fun s=>
 @sOp (some 74) (xIxA 2 1 (s.τ 7) (.int .i64 0) s.H) s<|.mk fun s=>
 L 75 1 74 false s fun s=>
 M 76 75 s fun s=>
 go 77 76 false s (fun s=>(xIxA 2 1 (s.τ 7) (.int .i64 1) s.H)) fun s=>
 gl 78 1 77 76 false false s fun s=>
 O 79 76 78 s fun s=>
 M 4 73 s fun s=>
 M 5 79 s fun s=>
 Φ .ret s
def W142_b25 (Φ:EP) (s:St):Prop:=
 @sOp (some 82) (xIxA 2 1 (s.τ 6) (.int .i64 0) s.H) s<|.mk fun s=>
 L 83 1 82 false s fun s=>
 M 84 83 s fun s=>
 go 85 84 true s (fun s=>(xIxA 2 1 (s.τ 6) (.int .i64 1) s.H)) fun s=>
 gl 86 1 85 84 false true s fun s=>
 A 87 84 86 s fun s=>
 @sOp (some 88) (xIxA 2 1 (s.τ 7) (.int .i64 0) s.H) s<|.mk fun s=>
 L 89 1 88 false s fun s=>
 M 90 89 s fun s=>
 go 91 90 false s (fun s=>(xIxA 2 1 (s.τ 6) (.int .i64 0) s.H)) fun s=>
 gl 92 1 91 90 false false s fun s=>
 gm 93 92 90 false s fun s=>
 go 94 93 true s (fun s=>(xIxA 2 1 (s.τ 7) (.int .i64 1) s.H)) fun s=>
 gl 95 1 94 93 false true s fun s=>
 go 96 90 false s (fun s=>(xPick (s.τ 93) (s.τ 95) (.bool false) s.H)) fun s=>
 O 97 90 96 s fun s=>
 M 4 87 s fun s=>
 M 5 97 s fun s=>
 Φ .ret s
def W142_b41 (Φ:EP) (s:St):Prop:=
 M 100 0 s fun s=>
 @sOp (some 101) (xNil (s.τ 100) s.H) s<|.mk fun s=>
 F 102 0 101 s fun s=>
 L 103 1 102 false s fun s=>
 F 104 1 3 s fun s=>
 L 105 1 104 false s fun s=>
 C0 Tryz.prog 67 [(s.τ 103),(s.τ 105)] 106 s fun s=>
 M 9 106 s fun s=>
 M 107 9 s fun s=>
 J 108 .geq false 107 0 s fun s=>
 M 109 108 s fun s=>
 gm 110 0 109 true s fun s=>
 go 111 109 true s (fun s=>(xNil (s.τ 110) s.H)) fun s=>
 gf 112 1 111 109 true s fun s=>
 gl 113 1 112 109 false true s fun s=>
 gm 114 9 109 true s fun s=>
 go 115 109 true s (fun s=>(xIx 1 (s.τ 113) (s.τ 114) s.H)) fun s=>
 gl 116 1 115 109 false true s fun s=>
 A 117 109 116 s fun s=>
 M 118 9 s fun s=>
 J 119 .geq false 118 0 s fun s=>
 M 120 119 s fun s=>
 gm 121 0 120 true s fun s=>
 go 122 120 true s (fun s=>(xNil (s.τ 121) s.H)) fun s=>
 gf 123 2 122 120 true s fun s=>
 gl 124 1 123 120 false true s fun s=>
 gm 125 9 120 true s fun s=>
 go 126 120 true s (fun s=>(xIx 1 (s.τ 124) (s.τ 125) s.H)) fun s=>
 gl 127 1 126 120 false true s fun s=>
 A 128 120 127 s fun s=>
 M 4 117 s fun s=>
 M 5 128 s fun s=>
 Φ .ret s
def W142_b42 (Φ:EP) (s:St):Prop:=
 V 4 true s fun s=>
 V 5 false s fun s=>
 Φ .ret s
def W142_b43 (Φ:EP) (s:St):Prop:=
 J 99 .eql false 36 13 s fun s=>
 M 98 99 s fun s=>
 If 98 s (W142_b41 Φ s) (W142_b42 Φ s)
def W142_b44 (Φ:EP) (s:St):Prop:=
 J 81 .eql false 36 12 s fun s=>
 M 80 81 s fun s=>
 If 80 s (W142_b25 Φ s) (W142_b43 Φ s)
def W142_b45 (Φ:EP) (s:St):Prop:=
 J 67 .eql false 36 11 s fun s=>
 M 66 67 s fun s=>
 If 66 s (W142_b16 Φ s) (W142_b44 Φ s)
def W142_k46 (Φ:EP) (s:St):Prop:=
 If 51 s (W142_b11 Φ s) (W142_b45 Φ s)
def W142_b47 (Φ:EP) (s:St):Prop:=
 J 53 .eql false 36 10 s fun s=>
 M 51 53 s fun s=>
 W142_k46 Φ s
def W142_b48 (Φ:EP) (s:St):Prop:=
 J 52 .eql false 36 9 s fun s=>
 M 51 52 s fun s=>
 If 51 s (W142_k46 Φ s) (W142_b47 Φ s)
def W142_b49 (Φ:EP) (s:St):Prop:=
 J 44 .eql false 36 7 s fun s=>
 M 43 44 s fun s=>
 If 43 s (W142_b6 Φ s) (W142_b48 Φ s)
def W142_b50 (Φ:EP) (s:St):Prop:=
 J 42 .eql false 36 4 s fun s=>
 M 41 42 s fun s=>
 If 41 s (W142_b3 Φ s) (W142_b49 Φ s)
def W142_b51 (Φ:EP) (s:St):Prop:=
 J 40 .eql false 36 8 s fun s=>
 M 39 40 s fun s=>
 If 39 s (W142_b2 Φ s) (W142_b50 Φ s)
def W142_k52 (Φ:EP) (s:St):Prop:=
 F 35 0 3 s fun s=>
 L 36 1 35 false s fun s=>
 J 38 .eql false 36 1 s fun s=>
 M 37 38 s fun s=>
 If 37 s (W142_b1 Φ s) (W142_b51 Φ s)
def W142_b54 (Φ:EP) (L0:SP) (s:St):Prop:=
 M 22 8 s fun s=>
 M 23 8 s fun s=>
 M 24 0 s fun s=>
 F 25 7 3 s fun s=>
 L 26 1 25 false s fun s=>
 M 27 8 s fun s=>
 X 28 8 26 27 s fun s=>
 L 29 8 28 true s fun s=>
 Ca Tryz.prog 142 [(s.τ 24),(s.τ 29)] 30 s fun s=>
 M 21 30 s fun s=>
 E 31 21 0 s fun s=>
 E 32 21 1 s fun s=>
 @sOp (some 33) (xIxA 2 1 (s.τ 6) (s.τ 22) s.H) s<|.mk fun s=>
 U 1 33 31 s fun s=>
 @sOp (some 34) (xIxA 2 1 (s.τ 7) (s.τ 23) s.H) s<|.mk fun s=>
 U 1 34 32 s fun s=>
 M 19 8 s fun s=>
 J 20 .add false 19 1 s fun s=>
 M 8 20 s fun s=>
 L0 s
def W142_l57 (Φ:EP) (L0:SP) (s:St):Prop:=
 M 10 8 s fun s=>
 F 11 7 3 s fun s=>
 L 12 1 11 false s fun s=>
 N 13 12 s fun s=>
 B 14 .lss false 10 13 s fun s=>
 M 15 14 s fun s=>
 gm 16 8 15 true s fun s=>
 go 17 15 true s (fun s=>(xBin .lss false (s.τ 16) (.int .i64 2) s.H)) fun s=>
 A 18 15 17 s fun s=>
 If 18 s (W142_b54 Φ L0 s) (W142_k52 Φ s)
def W142 (Φ:EP) (s:St):Prop:=
 Y 3 80 1 s fun s=>
 V 4 false s fun s=>
 V 5 false s fun s=>
 Z 6 198 [.bool false,.bool false] s fun s=>
 Z 7 198 [.bool false,.bool false] s fun s=>
 I 8 0 s fun s=>
 @sLoop s ⟨fun L0 s=>W142_l57 Φ L0 s⟩
theorem W142_rs (τ:Nat → AV) (H:Heap):resV Tryz.prog τ H [.tmp 4,.tmp 5] = ob (ob (some (τ 4)) fun v=>ob (ob (some (τ 5)) fun v=>ob (some []) fun vs=>some (v :: vs)) fun vs=>some (v :: vs)) fun vs=>some (.tup vs):=by kernel_rfl
theorem W142_eq:EqW Tryz.prog Tryz.f142 W142:=fun _ _=>by kernel_rfl
theorem W142_S:SpW Tryz.prog 142 129 [.tmp 4,.tmp 5] W142:=spW Tryz.func142 Tryz.ntmps142 W142_eq
-- 143 "penance/penancelaw2.within"
def W143_k1 (Φ:EP) (s:St):Prop:=
 M 14 5 s fun s=>
 M 4 14 s fun s=>
 Φ .ret s
def W143_b2 (Φ:EP) (s:St):Prop:=
 M 11 5 s fun s=>
 M 12 1 s fun s=>
 B 13 .add false 11 12 s fun s=>
 M 5 13 s fun s=>
 W143_k1 Φ s
def W143 (Φ:EP) (s:St):Prop:=
 I 4 0 s fun s=>
 M 6 0 s fun s=>
 M 7 1 s fun s=>
 B 8 .rem false 6 7 s fun s=>
 M 5 8 s fun s=>
 M 9 5 s fun s=>
 J 10 .lss false 9 0 s fun s=>
 If 10 s (W143_b2 Φ s) (W143_k1 Φ s)
theorem W143_rs (τ:Nat → AV) (H:Heap):resV Tryz.prog τ H [.tmp 4] = some (τ 4):=by kernel_rfl
theorem W143_eq:EqW Tryz.prog Tryz.f143 W143:=fun _ _=>by kernel_rfl
theorem W143_S:SpW Tryz.prog 143 15 [.tmp 4] W143:=spW Tryz.func143 Tryz.ntmps143 W143_eq
-- 144 "(penance/penancelaw2.Raw).part"
def W144_b2 (Φ:EP) (s:St):Prop:=
 F 12 2 3 s fun s=>
 L 13 1 12 false s fun s=>
 M 14 1 s fun s=>
 X 15 3 13 14 s fun s=>
 L 16 3 15 true s fun s=>
 M 17 2 s fun s=>
 Ca Tryz.prog 129 [(s.τ 16),(s.τ 17)] 18 s fun s=>
 U 4 6 18 s fun s=>
 Φ .ret s
def W144_b4 (Φ:EP) (s:St):Prop:=
 F 19 1 3 s fun s=>
 L 20 1 19 false s fun s=>
 M 21 1 s fun s=>
 B 22 .add false 20 21 s fun s=>
 Ca Tryz.prog 143 [(s.τ 22),(.int .i64 5)] 23 s fun s=>
 Bd 24 z4 [(0,1,(.int .i64 1)),(1,1,(s.τ 23))] s fun s=>
 U 4 6 24 s fun s=>
 Φ .ret s
def W144 (Φ:EP) (s:St):Prop:=
 Y 3 176 0 s fun s=>
 Z 6 33 z4 s fun s=>
 M 7 1 s fun s=>
 F 8 2 3 s fun s=>
 L 9 1 8 false s fun s=>
 N 10 9 s fun s=>
 B 11 .lss false 7 10 s fun s=>
 If 11 s (W144_b2 Φ s) (W144_b4 Φ s)
theorem W144_rs (τ:Nat → AV) (H:Heap):resV Tryz.prog τ H [.cell 6 33] = rdV H 4 true (τ 6):=by kernel_rfl
theorem W144_eq:EqW Tryz.prog Tryz.f144 W144:=fun _ _=>by kernel_rfl
theorem W144_S:SpW Tryz.prog 144 25 [.cell 6 33] W144:=spW Tryz.func144 Tryz.ntmps144 W144_eq
-- 145 "slices.Contains[[]string,string]"
def W145 (Φ:EP) (s:St):Prop:=
 V 4 false s fun s=>
 M 5 0 s fun s=>
 M 6 1 s fun s=>
 Ca Tryz.prog 152 [(s.τ 5),(s.τ 6)] 7 s fun s=>
 J 8 .geq false 7 0 s fun s=>
 M 4 8 s fun s=>
 Φ .ret s
theorem W145_rs (τ:Nat → AV) (H:Heap):resV Tryz.prog τ H [.tmp 4] = some (τ 4):=by kernel_rfl
theorem W145_eq:EqW Tryz.prog Tryz.f145 W145:=fun _ _=>by kernel_rfl
theorem W145_S:SpW Tryz.prog 145 9 [.tmp 4] W145:=spW Tryz.func145 Tryz.ntmps145 W145_eq
-- 146 "penance/lex.words"
def W146 (Φ:EP) (s:St):Prop:=
 @sOp (some 0) (xMov (.nils) s.H) s<|.mk fun s=>
 Lt 1 1 16 [.str ⟨#[]⟩] [(0,(.str ⟨#[118,97,114]⟩)),(1,(.str ⟨#[115,116,97,99,107]⟩)),(2,(.str ⟨#[112,114,111,99]⟩)),(3,(.str ⟨#[115,107,105,112]⟩)),(4,(.str ⟨#[100,111]⟩)),(5,(.str ⟨#[112,117,115,104]⟩)),(6,(.str ⟨#[114,101,118,101,114,115,101]⟩)),(7,(.str ⟨#[97,99,99,101,112,116]⟩)),(8,(.str ⟨#[109,101,114,103,101]⟩)),(9,(.str ⟨#[98,108,111,99,107]⟩)),(10,(.str ⟨#[101,120,105,116]⟩)),(11,(.str ⟨#[105,102]⟩)),(12,(.str ⟨#[101,108,115,101]⟩)),(13,(.str ⟨#[99,104,111,111,115,101]⟩)),(14,(.str ⟨#[112,97,114]⟩)),(15,(.str ⟨#[99,97,108,108]⟩))] s fun s=>
 M 0 1 s fun s=>
 Φ .ret s
theorem W146_rs (τ:Nat → AV) (H:Heap):resV Tryz.prog τ H [.tmp 0] = some (τ 0):=by kernel_rfl
theorem W146_eq:EqW Tryz.prog Tryz.f146 W146:=fun _ _=>by kernel_rfl
theorem W146_S:SpW Tryz.prog 146 2 [.tmp 0] W146:=spW Tryz.func146 Tryz.ntmps146 W146_eq
end Go.Proofs.YtnngddgaobhkiaaGreat
set_option maxRecDepth 100000
namespace Go.Proofs.YtnngddgaobhkiaaGreat
open Go Go.Am
-- 147 "penance/lex.digit"
def W147 (Φ:EP) (s:St):Prop:=
 V 2 false s fun s=>
 M 3 0 s fun s=>
 @sOp (some 4) (xBin .geq false (s.τ 3) (.int .u8 48) s.H) s<|.mk fun s=>
 M 5 4 s fun s=>
 gm 6 0 5 true s fun s=>
 go 7 5 true s (fun s=>(xBin .leq false (s.τ 6) (.int .u8 57) s.H)) fun s=>
 A 8 5 7 s fun s=>
 M 2 8 s fun s=>
 Φ .ret s
theorem W147_rs (τ:Nat → AV) (H:Heap):resV Tryz.prog τ H [.tmp 2] = some (τ 2):=by kernel_rfl
theorem W147_eq:EqW Tryz.prog Tryz.f147 W147:=fun _ _=>by kernel_rfl
theorem W147_S:SpW Tryz.prog 147 9 [.tmp 2] W147:=spW Tryz.func147 Tryz.ntmps147 W147_eq
-- 148 "penance/expr.all$1"
def W148 (Φ:EP) (s:St):Prop:=
 L 3 4 1 true s fun s=>
 M 4 0 s fun s=>
 Ca Tryz.prog 149 [(s.τ 3),(s.τ 4)] 5 s fun s=>
 Φ .normal s
theorem W148_rs (τ:Nat → AV) (H:Heap):resV Tryz.prog τ H [] = ob (some []) fun vs=>some (.tup vs):=by kernel_rfl
theorem W148_eq:EqW Tryz.prog Tryz.f148 W148:=fun _ _=>by kernel_rfl
theorem W148_S:SpW Tryz.prog 148 6 [] W148:=spW Tryz.func148 Tryz.ntmps148 W148_eq
-- 149 "penance/expr.walk"
def W149_b1 (Φ:EP) (s:St):Prop:=
 V 4 false s fun s=>
 Φ .ret s
def W149_k2 (Φ:EP) (s:St):Prop:=
 V 4 true s fun s=>
 Φ .ret s
def W149_b3 (Φ:EP) (L0:SP) (s:St):Prop:=
 V 4 false s fun s=>
 Φ .ret s
def W149_b4 (Φ:EP) (L0:SP) (s:St):Prop:=
 J 22 .add false 14 1 s fun s=>
 M 14 22 s fun s=>
 L0 s
def W149_b6 (Φ:EP) (L0:SP) (s:St):Prop:=
 X 16 4 12 14 s fun s=>
 L 17 4 16 true s fun s=>
 Z 6 33 z4 s fun s=>
 U 4 6 17 s fun s=>
 L 18 4 6 true s fun s=>
 M 19 1 s fun s=>
 Ca Tryz.prog 149 [(s.τ 18),(s.τ 19)] 20 s fun s=>
 Q 21 20 s fun s=>
 If 21 s (W149_b3 Φ L0 s) (W149_b4 Φ L0 s)
def W149_l7 (Φ:EP) (L0:SP) (s:St):Prop:=
 B 15 .lss false 14 13 s fun s=>
 If 15 s (W149_b6 Φ L0 s) (W149_k2 Φ s)
def W149_b8 (Φ:EP) (s:St):Prop:=
 F 11 3 2 s fun s=>
 L 12 1 11 false s fun s=>
 N 13 12 s fun s=>
 I 14 0 s fun s=>
 @sLoop s ⟨fun L0 s=>W149_l7 Φ L0 s⟩
def W149 (Φ:EP) (s:St):Prop:=
 Y 2 33 0 s fun s=>
 V 4 false s fun s=>
 M 7 1 s fun s=>
 L 8 4 2 true s fun s=>
 @sCall Tryz.prog (s.τ 7) [(s.τ 8)] (some 9) s<|.mk fun s=>
 Q 10 9 s fun s=>
 If 10 s (W149_b1 Φ s) (W149_b8 Φ s)
theorem W149_rs (τ:Nat → AV) (H:Heap):resV Tryz.prog τ H [.tmp 4] = some (τ 4):=by kernel_rfl
theorem W149_eq:EqW Tryz.prog Tryz.f149 W149:=fun _ _=>by kernel_rfl
theorem W149_S:SpW Tryz.prog 149 23 [.tmp 4] W149:=spW Tryz.func149 Tryz.ntmps149 W149_eq
-- 150 "penance/term.active$1"
def W150 (Φ:EP) (s:St):Prop:=
 L 3 9 1 true s fun s=>
 M 4 0 s fun s=>
 Ca Tryz.prog 151 [(s.τ 3),(s.τ 4)] 5 s fun s=>
 Φ .normal s
theorem W150_rs (τ:Nat → AV) (H:Heap):resV Tryz.prog τ H [] = ob (some []) fun vs=>some (.tup vs):=by kernel_rfl
theorem W150_eq:EqW Tryz.prog Tryz.f150 W150:=fun _ _=>by kernel_rfl
theorem W150_S:SpW Tryz.prog 150 6 [] W150:=spW Tryz.func150 Tryz.ntmps150 W150_eq
-- 151 "penance/term.walk"
def W151_b1 (Φ:EP) (s:St):Prop:=
 V 4 false s fun s=>
 Φ .ret s
def W151_k2 (Φ:EP) (s:St):Prop:=
 V 4 true s fun s=>
 Φ .ret s
def W151_b3 (Φ:EP) (L0:SP) (s:St):Prop:=
 V 4 false s fun s=>
 Φ .ret s
def W151_b4 (Φ:EP) (L0:SP) (s:St):Prop:=
 J 36 .add false 28 1 s fun s=>
 M 28 36 s fun s=>
 L0 s
def W151_b6 (Φ:EP) (L0:SP) (s:St):Prop:=
 X 30 9 26 28 s fun s=>
 L 31 9 30 true s fun s=>
 Z 7 35 z9 s fun s=>
 U 9 7 31 s fun s=>
 L 32 9 7 true s fun s=>
 M 33 1 s fun s=>
 Ca Tryz.prog 151 [(s.τ 32),(s.τ 33)] 34 s fun s=>
 Q 35 34 s fun s=>
 If 35 s (W151_b3 Φ L0 s) (W151_b4 Φ L0 s)
def W151_l7 (Φ:EP) (L0:SP) (s:St):Prop:=
 B 29 .lss false 28 27 s fun s=>
 If 29 s (W151_b6 Φ L0 s) (W151_k2 Φ s)
def W151_k8 (Φ:EP) (s:St):Prop:=
 M 26 5 s fun s=>
 N 27 26 s fun s=>
 I 28 0 s fun s=>
 @sLoop s ⟨fun L0 s=>W151_l7 Φ L0 s⟩
def W151_b9 (Φ:EP) (s:St):Prop:=
 M 18 5 s fun s=>
 M 19 5 s fun s=>
 N 20 19 s fun s=>
 @sOp (some 21) (xMin (s.τ 20) (.int .i64 1) s.H) s<|.mk fun s=>
 @sOp (some 22) (xSlc 9 (s.τ 18) none (some (s.τ 21)) s.H) s<|.mk fun s=>
 M 5 22 s fun s=>
 W151_k8 Φ s
def W151_b10 (Φ:EP) (s:St):Prop:=
 V 4 true s fun s=>
 Φ .ret s
def W151_k11 (Φ:EP) (s:St):Prop:=
 If 23 s (W151_k8 Φ s) (W151_b10 Φ s)
def W151_b12 (Φ:EP) (s:St):Prop:=
 J 25 .eql false 15 7 s fun s=>
 M 23 25 s fun s=>
 W151_k11 Φ s
def W151_b13 (Φ:EP) (s:St):Prop:=
 J 24 .eql false 15 11 s fun s=>
 M 23 24 s fun s=>
 If 23 s (W151_k11 Φ s) (W151_b12 Φ s)
def W151_b14 (Φ:EP) (s:St):Prop:=
 F 12 8 2 s fun s=>
 L 13 1 12 false s fun s=>
 M 5 13 s fun s=>
 F 14 0 2 s fun s=>
 L 15 1 14 false s fun s=>
 J 17 .eql false 15 12 s fun s=>
 M 16 17 s fun s=>
 If 16 s (W151_b9 Φ s) (W151_b13 Φ s)
def W151 (Φ:EP) (s:St):Prop:=
 Y 2 35 0 s fun s=>
 V 4 false s fun s=>
 M 8 1 s fun s=>
 L 9 9 2 true s fun s=>
 @sCall Tryz.prog (s.τ 8) [(s.τ 9)] (some 10) s<|.mk fun s=>
 Q 11 10 s fun s=>
 If 11 s (W151_b1 Φ s) (W151_b14 Φ s)
theorem W151_rs (τ:Nat → AV) (H:Heap):resV Tryz.prog τ H [.tmp 4] = some (τ 4):=by kernel_rfl
theorem W151_eq:EqW Tryz.prog Tryz.f151 W151:=fun _ _=>by kernel_rfl
theorem W151_S:SpW Tryz.prog 151 37 [.tmp 4] W151:=spW Tryz.func151 Tryz.ntmps151 W151_eq
-- 152 "slices.Index[[]string,string]"
def W152_k1 (Φ:EP) (s:St):Prop:=
 I 4 (-1) s fun s=>
 Φ .ret s
def W152_b2 (Φ:EP) (L0:SP) (s:St):Prop:=
 M 17 5 s fun s=>
 M 4 17 s fun s=>
 Φ .ret s
def W152_b3 (Φ:EP) (L0:SP) (s:St):Prop:=
 J 18 .add false 8 1 s fun s=>
 M 8 18 s fun s=>
 L0 s
def W152_b4 (Φ:EP) (L0:SP) (s:St):Prop:=
 M 10 8 s fun s=>
 M 5 10 s fun s=>
 M 11 1 s fun s=>
 M 12 0 s fun s=>
 M 13 5 s fun s=>
 X 14 1 12 13 s fun s=>
 L 15 1 14 false s fun s=>
 B 16 .eql false 11 15 s fun s=>
 If 16 s (W152_b2 Φ L0 s) (W152_b3 Φ L0 s)
def W152_l5 (Φ:EP) (L0:SP) (s:St):Prop:=
 B 9 .lss false 8 7 s fun s=>
 If 9 s (W152_b4 Φ L0 s) (W152_k1 Φ s)
def W152 (Φ:EP) (s:St):Prop:=
 I 4 0 s fun s=>
 M 6 0 s fun s=>
 N 7 6 s fun s=>
 I 8 0 s fun s=>
 @sLoop s ⟨fun L0 s=>W152_l5 Φ L0 s⟩
theorem W152_rs (τ:Nat → AV) (H:Heap):resV Tryz.prog τ H [.tmp 4] = some (τ 4):=by kernel_rfl
theorem W152_eq:EqW Tryz.prog Tryz.f152 W152:=fun _ _=>by kernel_rfl
theorem W152_S:SpW Tryz.prog 152 19 [.tmp 4] W152:=spW Tryz.func152 Tryz.ntmps152 W152_eq
end Go.Proofs.YtnngddgaobhkiaaGreat
