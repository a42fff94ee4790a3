import Derived.Test.YtnngddgaobhkiaaGreatGA6
import Derived.Test.YtnngddgaobhkiaaGreatProg
import Derived.KernelRfl
set_option linter.unusedVariables false
set_option maxRecDepth 100000
namespace Go.Proofs.YtnngddgaobhkiaaGreat
open Go Go.Am
-- 75 "penance/term.Norm$1"
def W75 (Φ:EP) (s:St):Prop:=
 @sOp (some 1) (xBox 1 35 (s.τ 0) s.H) s<|.mk fun s=>
 @sOp (some 2) (xMov (.bool false) s.H) s<|.mk fun s=>
 @sFl 3 0 1 s<|.mk fun s=>
 @sLd 4 1 3 false s<|.mk fun s=>
 @sOp (some 5) (xBin .eql false (s.τ 4) (.int .i64 0) s.H) s<|.mk fun s=>
 @sMv 2 5 s<|.mk fun s=>
 Φ .ret s
theorem W75_rs (τ:Nat → AV) (H:Heap):resV Tryz.prog τ H [.tmp 2] = some (τ 2):=by kernel_rfl
theorem W75_eq (Φ:EP) (s:St):awp Tryz.prog (Tryz.f75.body.getD .skip) Φ s = W75 Φ s:=by kernel_rfl
theorem W75_S {args:List AV} {r:AV} (hl:args.length ≤ 6) (h:∀ vs,W75 (retK Tryz.prog [.tmp 2] r) ⟨Am.look (argT 0 args),hls [] vs,noG⟩):Am.Spec Tryz.prog 75 args r:=.of_W (W:=W75) Tryz.func75 (by kernel_rfl) (by kernel_rfl) (by kernel_rfl) Tryz.ntmps75 W75_eq (by kernel_rfl) hl h
-- 76 "penance/term.own"
def W76_k3 (Φ:EP) (s:St):Prop:=
 @sMv 23 3 s<|.mk fun u1=>
 @sCall0 Tryz.prog (.func 82 []) [(u1.τ 23)] (some 24) u1<|.mk fun u2=>
 @sChk (compat (cfp 24 82 [(u1.τ 23)]) (occ (u2.τ 1),[])) <| .mk <|
 @sFl 25 4 1 u2<|.mk fun u3=>
 @sChk (compat (cfp 24 82 [(u1.τ 23)]) (occ (u3.τ 25),[])) <| .mk <|
 @sLd 26 4 25 true u3<|.mk fun u4=>
 @sCall0 Tryz.prog (.func 101 []) [(u4.τ 26)] (some 27) u4<|.mk fun u5=>
 @sChk (compat (cfp 27 101 [(u4.τ 26)]) (occ (u5.τ 1),[])) <| .mk <|
 @sFl 28 8 1 u5<|.mk fun u6=>
 @sOp none (xStore 1 (u6.τ 28) (u6.τ 24) u6.H) u6<|.mk fun u7=>
 @sFl 29 4 1 u7<|.mk fun u8=>
 @sOp none (xStore 4 (u8.τ 29) (u8.τ 27) u8.H) u8<|.mk fun s=>
 @sLd 30 9 1 true s<|.mk fun s=>
 @sOp none (xStore 9 (s.τ 2) (s.τ 30) s.H) s<|.mk fun s=>
 Φ .ret s
def W76_b5 (Φ:EP) (L0:SP) (s:St):Prop:=
 @sOp (some 15) (xIx 9 (s.τ 11) (s.τ 13) s.H) s<|.mk fun s=>
 @sLd 16 9 15 true s<|.mk fun s=>
 @sOp (some 5) (xAlloc 5 35 [.int .i64 0,.int .i64 0,.int .i64 0,.str ⟨#[]⟩,.int .i64 0,.int .i64 0,.str ⟨#[]⟩,.nils,.nils] s.H) s<|.mk fun s=>
 @sOp none (xStore 9 (s.τ 5) (s.τ 16) s.H) s<|.mk fun s=>
 @sMv 17 3 s<|.mk fun s=>
 @sLd 18 9 5 true s<|.mk fun s=>
 @sCall Tryz.prog (.func 76 []) [(s.τ 18)] (some 19) s<|.mk fun s=>
 @sOp (some 20) (xLit 9 1 [.int .i64 0,.int .i64 0,.int .i64 0,.str ⟨#[]⟩,.int .i64 0,.int .i64 0,.str ⟨#[]⟩,.nils,.nils] [(0,(s.τ 19))] s.H) s<|.mk fun s=>
 @sOp (some 21) (xApp Tryz.prog 35 9 120 (some 21) (s.τ 17) (s.τ 20) s.H) s<|.mk fun s=>
 @sMv 3 21 s<|.mk fun s=>
 @sOp (some 22) (xBin .add false (s.τ 13) (.int .i64 1) s.H) s<|.mk fun s=>
 @sMv 13 22 s<|.mk fun s=>
 L0 s
def W76_l6 (Φ:EP) (L0:SP) (s:St):Prop:=
 @sOp (some 14) (xBin .lss false (s.τ 13) (s.τ 12) s.H) s<|.mk fun s=>
 @sIf (s.τ 14) ⟨W76_b5 Φ L0 s⟩ ⟨W76_k3 Φ s⟩
def W76 (Φ:EP) (s:St):Prop:=
 @sOp (some 1) (xBox 1 35 (s.τ 0) s.H) s<|.mk fun s=>
 @sOp (some 2) (xAlloc 2 35 [.int .i64 0,.int .i64 0,.int .i64 0,.str ⟨#[]⟩,.int .i64 0,.int .i64 0,.str ⟨#[]⟩,.nils,.nils] s.H) s<|.mk fun s=>
 @sFl 6 8 1 s<|.mk fun s=>
 @sLd 7 1 6 false s<|.mk fun s=>
 @sOp (some 8) (xLen (s.τ 7) s.H) s<|.mk fun s=>
 @sOp (some 9) (xMks 9 35 9 120 [.int .i64 0,.int .i64 0,.int .i64 0,.str ⟨#[]⟩,.int .i64 0,.int .i64 0,.str ⟨#[]⟩,.nils,.nils] (.int .i64 0) (s.τ 8) s.H) s<|.mk fun s=>
 @sMv 3 9 s<|.mk fun s=>
 @sFl 10 8 1 s<|.mk fun s=>
 @sLd 11 1 10 false s<|.mk fun s=>
 @sOp (some 12) (xLen (s.τ 11) s.H) s<|.mk fun s=>
 @sOp (some 13) (xMov (.int .i64 0) s.H) s<|.mk fun s=>
 @sLoop s ⟨fun L0 s=>W76_l6 Φ L0 s⟩
theorem W76_rs (τ:Nat → AV) (H:Heap):resV Tryz.prog τ H [.cell 2 35] = rdV H 9 true (τ 2):=by kernel_rfl
theorem W76_eq (Φ:EP) (s:St):awp Tryz.prog (Tryz.f76.body.getD .skip) Φ s = W76 Φ s:=by kernel_rfl
theorem W76_S {args:List AV} {r:AV} (hl:args.length ≤ 31) (h:∀ vs,W76 (retK Tryz.prog [.cell 2 35] r) ⟨Am.look (argT 0 args),hls [] vs,noG⟩):Am.Spec Tryz.prog 76 args r:=.of_W (W:=W76) Tryz.func76 (by kernel_rfl) (by kernel_rfl) (by kernel_rfl) Tryz.ntmps76 W76_eq (by kernel_rfl) hl h
-- 77 "penance/stacks.own"
def W77 (Φ:EP) (s:St):Prop:=
 @sOp (some 2) (xMov (.nils) s.H) s<|.mk fun s=>
 @sMv 3 0 s<|.mk fun s=>
 @sCall Tryz.prog (.func 102 []) [(s.τ 3),(.func 103 [])] (some 4) s<|.mk fun s=>
 @sMv 2 4 s<|.mk fun s=>
 Φ .ret s
theorem W77_rs (τ:Nat → AV) (H:Heap):resV Tryz.prog τ H [.tmp 2] = some (τ 2):=by kernel_rfl
theorem W77_eq (Φ:EP) (s:St):awp Tryz.prog (Tryz.f77.body.getD .skip) Φ s = W77 Φ s:=by kernel_rfl
theorem W77_S {args:List AV} {r:AV} (hl:args.length ≤ 5) (h:∀ vs,W77 (retK Tryz.prog [.tmp 2] r) ⟨Am.look (argT 0 args),hls [] vs,noG⟩):Am.Spec Tryz.prog 77 args r:=.of_W (W:=W77) Tryz.func77 (by kernel_rfl) (by kernel_rfl) (by kernel_rfl) Tryz.ntmps77 W77_eq (by kernel_rfl) hl h
-- 78 "penance/stacks.is"
def W78 (Φ:EP) (s:St):Prop:=
 @sOp (some 4) (xMov (.bool false) s.H) s<|.mk fun s=>
 @sMv 5 1 s<|.mk fun s=>
 @sOp (some 6) (xBin .geq false (s.τ 5) (.int .i64 0) s.H) s<|.mk fun s=>
 @sMv 7 6 s<|.mk fun s=>
 @sGm 8 1 7 true s<|.mk fun s=>
 @sGm 9 0 7 true s<|.mk fun s=>
 @sGo 10 7 true s (fun s=>(xLen (s.τ 9) s.H))<|.mk fun s=>
 @sGo 11 7 true s (fun s=>(xBin .lss false (s.τ 8) (s.τ 10) s.H))<|.mk fun s=>
 @sOp (some 12) (xPick (s.τ 7) (s.τ 11) (.bool false) s.H) s<|.mk fun s=>
 @sMv 4 12 s<|.mk fun s=>
 Φ .ret s
theorem W78_rs (τ:Nat → AV) (H:Heap):resV Tryz.prog τ H [.tmp 4] = some (τ 4):=by kernel_rfl
theorem W78_eq (Φ:EP) (s:St):awp Tryz.prog (Tryz.f78.body.getD .skip) Φ s = W78 Φ s:=by kernel_rfl
theorem W78_S {args:List AV} {r:AV} (hl:args.length ≤ 13) (h:∀ vs,W78 (retK Tryz.prog [.tmp 4] r) ⟨Am.look (argT 0 args),hls [] vs,noG⟩):Am.Spec Tryz.prog 78 args r:=.of_W (W:=W78) Tryz.func78 (by kernel_rfl) (by kernel_rfl) (by kernel_rfl) Tryz.ntmps78 W78_eq (by kernel_rfl) hl h
-- 79 "penance/penanceref2.Same"
def W79_b1 (Φ:EP) (s:St):Prop:=
 @sOp (some 4) (xMov (.bool false) s.H) s<|.mk fun s=>
 Φ .ret s
def W79_k2 (Φ:EP) (s:St):Prop:=
 @sOp (some 4) (xMov (.bool true) s.H) s<|.mk fun s=>
 Φ .ret s
def W79_b3 (Φ:EP) (L0:SP) (s:St):Prop:=
 @sOp (some 4) (xMov (.bool false) s.H) s<|.mk fun s=>
 Φ .ret s
def W79_b4 (Φ:EP) (L0:SP) (s:St):Prop:=
 @sMv 39 5 s<|.mk fun s=>
 @sOp (some 40) (xBin .add false (s.τ 39) (.int .i64 1) s.H) s<|.mk fun s=>
 @sMv 5 40 s<|.mk fun s=>
 L0 s
def W79_b6 (Φ:EP) (L0:SP) (s:St):Prop:=
 @sFl 41 3 2 s<|.mk fun s=>
 @sLd 42 1 41 false s<|.mk fun s=>
 @sMv 43 5 s<|.mk fun s=>
 @sOp (some 44) (xIx 4 (s.τ 42) (s.τ 43) s.H) s<|.mk fun s=>
 @sLd 45 4 44 true s<|.mk fun s=>
 @sFl 46 3 3 s<|.mk fun s=>
 @sLd 47 1 46 false s<|.mk fun s=>
 @sMv 48 5 s<|.mk fun s=>
 @sOp (some 49) (xIx 4 (s.τ 47) (s.τ 48) s.H) s<|.mk fun s=>
 @sLd 50 4 49 true s<|.mk fun s=>
 @sCall0 Tryz.prog (.func 79 []) [(s.τ 45),(s.τ 50)] (some 51) s<|.mk fun s=>
 @sOp (some 52) (xNot (s.τ 51) s.H) s<|.mk fun s=>
 @sIf (s.τ 52) ⟨W79_b3 Φ L0 s⟩ ⟨W79_b4 Φ L0 s⟩
def W79_l7 (Φ:EP) (L0:SP) (s:St):Prop:=
 @sMv 34 5 s<|.mk fun s=>
 @sFl 35 3 2 s<|.mk fun s=>
 @sLd 36 1 35 false s<|.mk fun s=>
 @sOp (some 37) (xLen (s.τ 36) s.H) s<|.mk fun s=>
 @sOp (some 38) (xBin .lss false (s.τ 34) (s.τ 37) s.H) s<|.mk fun s=>
 @sIf (s.τ 38) ⟨W79_b6 Φ L0 s⟩ ⟨W79_k2 Φ s⟩
def W79_b8 (Φ:EP) (s:St):Prop:=
 @sOp (some 5) (xMov (.int .i64 0) s.H) s<|.mk fun s=>
 @sLoop s ⟨fun L0 s=>W79_l7 Φ L0 s⟩
def W79 (Φ:EP) (s:St):Prop:=
 @sOp (some 2) (xBox 2 33 (s.τ 0) s.H) s<|.mk fun s=>
 @sOp (some 3) (xBox 3 33 (s.τ 1) s.H) s<|.mk fun s=>
 @sOp (some 4) (xMov (.bool false) s.H) s<|.mk fun s=>
 @sFl 6 0 2 s<|.mk fun s=>
 @sLd 7 1 6 false s<|.mk fun s=>
 @sFl 8 0 3 s<|.mk fun s=>
 @sLd 9 1 8 false s<|.mk fun s=>
 @sOp (some 10) (xBin .neq false (s.τ 7) (s.τ 9) s.H) s<|.mk fun s=>
 @sMv 11 10 s<|.mk fun s=>
 @sGf 12 1 2 11 false s<|.mk fun s=>
 @sGl 13 1 12 11 false false s<|.mk fun s=>
 @sGf 14 1 3 11 false s<|.mk fun s=>
 @sGl 15 1 14 11 false false s<|.mk fun s=>
 @sGo 16 11 false s (fun s=>(xBin .neq false (s.τ 13) (s.τ 15) s.H))<|.mk fun s=>
 @sOp (some 17) (xPick (s.τ 11) (.bool true) (s.τ 16) s.H) s<|.mk fun s=>
 @sMv 18 17 s<|.mk fun s=>
 @sGf 19 2 2 18 false s<|.mk fun s=>
 @sGl 20 1 19 18 false false s<|.mk fun s=>
 @sGf 21 2 3 18 false s<|.mk fun s=>
 @sGl 22 1 21 18 false false s<|.mk fun s=>
 @sGo 23 18 false s (fun s=>(xBin .neq false (s.τ 20) (s.τ 22) s.H))<|.mk fun s=>
 @sOp (some 24) (xPick (s.τ 18) (.bool true) (s.τ 23) s.H) s<|.mk fun s=>
 @sMv 25 24 s<|.mk fun s=>
 @sGf 26 3 2 25 false s<|.mk fun s=>
 @sGl 27 1 26 25 false false s<|.mk fun s=>
 @sGo 28 25 false s (fun s=>(xLen (s.τ 27) s.H))<|.mk fun s=>
 @sGf 29 3 3 25 false s<|.mk fun s=>
 @sGl 30 1 29 25 false false s<|.mk fun s=>
 @sGo 31 25 false s (fun s=>(xLen (s.τ 30) s.H))<|.mk fun s=>
 @sGo 32 25 false s (fun s=>(xBin .neq false (s.τ 28) (s.τ 31) s.H))<|.mk fun s=>
 @sOp (some 33) (xPick (s.τ 25) (.bool true) (s.τ 32) s.H) s<|.mk fun s=>
 @sIf (s.τ 33) ⟨W79_b1 Φ s⟩ ⟨W79_b8 Φ s⟩
theorem W79_rs (τ:Nat → AV) (H:Heap):resV Tryz.prog τ H [.tmp 4] = some (τ 4):=by kernel_rfl
theorem W79_eq (Φ:EP) (s:St):awp Tryz.prog (Tryz.f79.body.getD .skip) Φ s = W79 Φ s:=by kernel_rfl
theorem W79_S {args:List AV} {r:AV} (hl:args.length ≤ 53) (h:∀ vs,W79 (retK Tryz.prog [.tmp 4] r) ⟨Am.look (argT 0 args),hls [] vs,noG⟩):Am.Spec Tryz.prog 79 args r:=.of_W (W:=W79) Tryz.func79 (by kernel_rfl) (by kernel_rfl) (by kernel_rfl) Tryz.ntmps79 W79_eq (by kernel_rfl) hl h
-- 80 "penance/run.nodes"
def W80 (Φ:EP) (s:St):Prop:=
 @sOp (some 1) (xBox 1 35 (s.τ 0) s.H) s<|.mk fun s=>
 @sOp (some 2) (xMov (.nilf) s.H) s<|.mk fun s=>
 @sOp (some 3) (xMkf 105 [(s.τ 1)] s.H) s<|.mk fun s=>
 @sMv 2 3 s<|.mk fun s=>
 Φ .ret s
theorem W80_rs (τ:Nat → AV) (H:Heap):resV Tryz.prog τ H [.tmp 2] = some (τ 2):=by kernel_rfl
theorem W80_eq (Φ:EP) (s:St):awp Tryz.prog (Tryz.f80.body.getD .skip) Φ s = W80 Φ s:=by kernel_rfl
theorem W80_S {args:List AV} {r:AV} (hl:args.length ≤ 4) (h:∀ vs,W80 (retK Tryz.prog [.tmp 2] r) ⟨Am.look (argT 0 args),hls [] vs,noG⟩):Am.Spec Tryz.prog 80 args r:=.of_W (W:=W80) Tryz.func80 (by kernel_rfl) (by kernel_rfl) (by kernel_rfl) Tryz.ntmps80 W80_eq (by kernel_rfl) hl h
-- 81 "(penance/term.bounds).right"
def W81_b1 (Φ:EP) (s:St):Prop:=
 @sOp (some 6) (xMov (.bool false) s.H) s<|.mk fun s=>
 Φ .ret s
def W81_b2 (Φ:EP) (s:St):Prop:=
 @sOp (some 6) (xMov (.bool false) s.H) s<|.mk fun s=>
 Φ .ret s
def W81_k3 (Φ:EP) (s:St):Prop:=
 @sOp (some 6) (xMov (.bool true) s.H) s<|.mk fun s=>
 Φ .ret s
def W81_b4 (Φ:EP) (L0:SP) (s:St):Prop:=
 @sOp (some 6) (xMov (.bool false) s.H) s<|.mk fun s=>
 Φ .ret s
def W81_b5 (Φ:EP) (L0:SP) (s:St):Prop:=
 @sOp (some 93) (xBin .add false (s.τ 79) (.int .i64 1) s.H) s<|.mk fun s=>
 @sMv 79 93 s<|.mk fun s=>
 L0 s
def W81_b10 (Φ:EP) (L0:SP) (s:St):Prop:=
 @sOp (some 81) (xIx 9 (s.τ 77) (s.τ 79) s.H) s<|.mk fun s=>
 @sLd 82 9 81 true s<|.mk fun s=>
 @sOp (some 10) (xAlloc 10 35 [.int .i64 0,.int .i64 0,.int .i64 0,.str ⟨#[]⟩,.int .i64 0,.int .i64 0,.str ⟨#[]⟩,.nils,.nils] s.H) s<|.mk fun s=>
 @sOp none (xStore 9 (s.τ 10) (s.τ 82) s.H) s<|.mk fun s=>
 @sLd 83 3 3 true s<|.mk fun s=>
 @sLd 84 9 10 true s<|.mk fun s=>
 @sMv 85 2 s<|.mk fun s=>
 @sMv 86 85 s<|.mk fun s=>
 @sGf 87 0 4 86 false s<|.mk fun s=>
 @sGl 88 1 87 86 false false s<|.mk fun s=>
 @sGo 89 86 false s (fun s=>(xBin .eql false (s.τ 88) (.int .i64 3) s.H))<|.mk fun s=>
 @sOp (some 90) (xPick (s.τ 86) (.bool true) (s.τ 89) s.H) s<|.mk fun s=>
 @sCall Tryz.prog (.func 81 []) [(s.τ 83),(s.τ 84),(s.τ 90)] (some 91) s<|.mk fun s=>
 @sOp (some 92) (xNot (s.τ 91) s.H) s<|.mk fun s=>
 @sIf (s.τ 92) ⟨W81_b4 Φ L0 s⟩ ⟨W81_b5 Φ L0 s⟩
def W81_l11 (Φ:EP) (L0:SP) (s:St):Prop:=
 @sOp (some 80) (xBin .lss false (s.τ 79) (s.τ 78) s.H) s<|.mk fun s=>
 @sIf (s.τ 80) ⟨W81_b10 Φ L0 s⟩ ⟨W81_k3 Φ s⟩
def W81_b12 (Φ:EP) (s:St):Prop:=
 @sFl 76 8 4 s<|.mk fun s=>
 @sLd 77 1 76 false s<|.mk fun s=>
 @sOp (some 78) (xLen (s.τ 77) s.H) s<|.mk fun s=>
 @sOp (some 79) (xMov (.int .i64 0) s.H) s<|.mk fun s=>
 @sLoop s ⟨fun L0 s=>W81_l11 Φ L0 s⟩
def W81_k13 (Φ:EP) (s:St):Prop:=
 @sLd 73 5 8 true s<|.mk fun s=>
 @sOp (some 74) (xBuild [.bool false,.bool false,.bool false,.bool false,.bool false] [(0,1,(.bool true)),(1,1,(.bool true)),(2,1,(.bool true)),(3,1,(.bool true)),(4,1,(.bool true))] s.H) s<|.mk fun s=>
 @sOp (some 75) (xEq true [(0,.bool),(1,.bool),(2,.bool),(3,.bool),(4,.bool)] (s.τ 73) (s.τ 74) s.H) s<|.mk fun s=>
 @sIf (s.τ 75) ⟨W81_b2 Φ s⟩ ⟨W81_b12 Φ s⟩
def W81_b15 (Φ:EP) (s:St):Prop:=
 @sFl 67 4 4 s<|.mk fun s=>
 @sLd 68 4 67 true s<|.mk fun s=>
 @sFl 69 0 3 s<|.mk fun s=>
 @sLd 70 1 69 false s<|.mk fun s=>
 @sCall Tryz.prog (.func 111 []) [(s.τ 68),(s.τ 70)] (some 71) s<|.mk fun s=>
 @sOp (some 72) (xIxA 5 1 (s.τ 8) (.int .i64 4) s.H) s<|.mk fun s=>
 @sOp none (xStore 1 (s.τ 72) (s.τ 71) s.H) s<|.mk fun s=>
 W81_k13 Φ s
def W81_k16 (Φ:EP) (s:St):Prop:=
 @sFl 65 3 7 s<|.mk fun s=>
 @sLd 66 1 65 false s<|.mk fun s=>
 @sIf (s.τ 66) ⟨W81_b15 Φ s⟩ ⟨W81_k13 Φ s⟩
def W81_b18 (Φ:EP) (s:St):Prop:=
 @sFl 61 3 4 s<|.mk fun s=>
 @sLd 62 1 61 false s<|.mk fun s=>
 @sCall Tryz.prog (.func 110 []) [(s.τ 62)] (some 63) s<|.mk fun s=>
 @sOp (some 64) (xIxA 5 1 (s.τ 8) (.int .i64 3) s.H) s<|.mk fun s=>
 @sOp none (xStore 1 (s.τ 64) (s.τ 63) s.H) s<|.mk fun s=>
 W81_k16 Φ s
def W81_b23 (Φ:EP) (s:St):Prop:=
 @sCall0 Tryz.prog (.func 107 []) [] (some 29) s<|.mk fun u1=>
 @sChk (compat (cfp 29 107 []) (occ (u1.τ 4),[])) <| .mk <|
 @sFl 30 0 4 u1<|.mk fun u2=>
 @sChk (compat (cfp 29 107 []) (occ (u2.τ 30),[])) <| .mk <|
 @sLd 31 1 30 false u2<|.mk fun u3=>
 @sOp (some 32) (xIx 5 (u3.τ 29) (u3.τ 31) u3.H) u3<|.mk fun u4=>
 @sLd 33 5 32 true u4<|.mk fun u5=>
 @sChk (compat (cfp 29 107 []) ([7],[7])) <| .mk <|
 @sChk (compat (occ (u1.τ 4),[]) ([7],[7])) <| .mk <|
 @sChk (compat (occ (u2.τ 30),[]) ([7],[7])) <| .mk <|
 @sChk (compat (occ (u3.τ 29),[]) ([7],[7])) <| .mk <|
 @sChk (compat (occ (u4.τ 32),[]) ([7],[7])) <| .mk <|
 @sOp (some 7) (xAlloc 7 166 [.int .i64 0,.int .i64 0,.bool false,.bool false,.int .i64 0] u5.H) u5<|.mk fun u6=>
 @sOp none (xStore 5 (u6.τ 7) (u6.τ 33) u6.H) u6<|.mk fun s=>
 @sLd 34 3 3 true s<|.mk fun u1=>
 @sFl 35 0 7 u1<|.mk fun u2=>
 @sLd 36 1 35 false u2<|.mk fun u3=>
 @sFl 37 1 4 u3<|.mk fun u4=>
 @sLd 38 1 37 false u4<|.mk fun u5=>
 @sCall0 Tryz.prog (.func 108 []) [(u5.τ 34),(u5.τ 36),(u5.τ 38)] (some 39) u5<|.mk fun u6=>
 @sChk (compat (cfp 39 108 [(u5.τ 34),(u5.τ 36),(u5.τ 38)]) (occ (u6.τ 3),[])) <| .mk <|
 @sLd 40 3 3 true u6<|.mk fun u7=>
 @sChk (compat (cfp 39 108 [(u5.τ 34),(u5.τ 36),(u5.τ 38)]) (occ (u7.τ 7),[])) <| .mk <|
 @sFl 41 1 7 u7<|.mk fun u8=>
 @sChk (compat (cfp 39 108 [(u5.τ 34),(u5.τ 36),(u5.τ 38)]) (occ (u8.τ 41),[])) <| .mk <|
 @sLd 42 1 41 false u8<|.mk fun u9=>
 @sChk (compat (cfp 39 108 [(u5.τ 34),(u5.τ 36),(u5.τ 38)]) (occ (u9.τ 4),[])) <| .mk <|
 @sFl 43 2 4 u9<|.mk fun u10=>
 @sChk (compat (cfp 39 108 [(u5.τ 34),(u5.τ 36),(u5.τ 38)]) (occ (u10.τ 43),[])) <| .mk <|
 @sLd 44 1 43 false u10<|.mk fun u11=>
 @sCall0 Tryz.prog (.func 108 []) [(u11.τ 40),(u11.τ 42),(u11.τ 44)] (some 45) u11<|.mk fun u12=>
 @sChk (compat (cfp 39 108 [(u5.τ 34),(u5.τ 36),(u5.τ 38)]) (occ (u12.τ 4),[])) <| .mk <|
 @sChk (compat (cfp 45 108 [(u11.τ 40),(u11.τ 42),(u11.τ 44)]) (occ (u12.τ 4),[])) <| .mk <|
 @sFl 46 8 4 u12<|.mk fun u13=>
 @sChk (compat (cfp 39 108 [(u5.τ 34),(u5.τ 36),(u5.τ 38)]) (occ (u13.τ 46),[])) <| .mk <|
 @sChk (compat (cfp 45 108 [(u11.τ 40),(u11.τ 42),(u11.τ 44)]) (occ (u13.τ 46),[])) <| .mk <|
 @sLd 47 1 46 false u13<|.mk fun u14=>
 @sChk (compat (cfp 39 108 [(u5.τ 34),(u5.τ 36),(u5.τ 38)]) (occ (u14.τ 47),[])) <| .mk <|
 @sChk (compat (cfp 45 108 [(u11.τ 40),(u11.τ 42),(u11.τ 44)]) (occ (u14.τ 47),[])) <| .mk <|
 @sOp (some 48) (xLen (u14.τ 47) u14.H) u14<|.mk fun u15=>
 @sChk (compat (cfp 39 108 [(u5.τ 34),(u5.τ 36),(u5.τ 38)]) (occ (u15.τ 7),[])) <| .mk <|
 @sChk (compat (cfp 45 108 [(u11.τ 40),(u11.τ 42),(u11.τ 44)]) (occ (u15.τ 7),[])) <| .mk <|
 @sFl 49 4 7 u15<|.mk fun u16=>
 @sChk (compat (cfp 39 108 [(u5.τ 34),(u5.τ 36),(u5.τ 38)]) (occ (u16.τ 49),[])) <| .mk <|
 @sChk (compat (cfp 45 108 [(u11.τ 40),(u11.τ 42),(u11.τ 44)]) (occ (u16.τ 49),[])) <| .mk <|
 @sLd 50 1 49 false u16<|.mk fun u17=>
 @sOp (some 51) (xBin .eql false (u17.τ 48) (u17.τ 50) u17.H) u17<|.mk fun u18=>
 @sChk (compat (cfp 39 108 [(u5.τ 34),(u5.τ 36),(u5.τ 38)]) (occ (u18.τ 4),[])) <| .mk <|
 @sChk (compat (cfp 45 108 [(u11.τ 40),(u11.τ 42),(u11.τ 44)]) (occ (u18.τ 4),[])) <| .mk <|
 @sFl 52 3 4 u18<|.mk fun u19=>
 @sChk (compat (cfp 39 108 [(u5.τ 34),(u5.τ 36),(u5.τ 38)]) (occ (u19.τ 52),[])) <| .mk <|
 @sChk (compat (cfp 45 108 [(u11.τ 40),(u11.τ 42),(u11.τ 44)]) (occ (u19.τ 52),[])) <| .mk <|
 @sLd 53 1 52 false u19<|.mk fun u20=>
 @sOp (some 54) (xBin .eql false (u20.τ 53) (.str ⟨#[]⟩) u20.H) u20<|.mk fun u21=>
 @sChk (compat (cfp 39 108 [(u5.τ 34),(u5.τ 36),(u5.τ 38)]) (occ (u21.τ 4),[])) <| .mk <|
 @sChk (compat (cfp 45 108 [(u11.τ 40),(u11.τ 42),(u11.τ 44)]) (occ (u21.τ 4),[])) <| .mk <|
 @sFl 55 4 4 u21<|.mk fun u22=>
 @sChk (compat (cfp 39 108 [(u5.τ 34),(u5.τ 36),(u5.τ 38)]) (occ (u22.τ 55),[])) <| .mk <|
 @sChk (compat (cfp 45 108 [(u11.τ 40),(u11.τ 42),(u11.τ 44)]) (occ (u22.τ 55),[])) <| .mk <|
 @sLd 56 4 55 true u22<|.mk fun u23=>
 @sChk (compat (occ (u12.τ 4),[]) (cfp 57 109 [(u23.τ 56)])) <| .mk <|
 @sChk (compat (occ (u13.τ 46),[]) (cfp 57 109 [(u23.τ 56)])) <| .mk <|
 @sChk (compat (occ (u14.τ 47),[]) (cfp 57 109 [(u23.τ 56)])) <| .mk <|
 @sChk (compat (occ (u15.τ 7),[]) (cfp 57 109 [(u23.τ 56)])) <| .mk <|
 @sChk (compat (occ (u16.τ 49),[]) (cfp 57 109 [(u23.τ 56)])) <| .mk <|
 @sChk (compat (occ (u18.τ 4),[]) (cfp 57 109 [(u23.τ 56)])) <| .mk <|
 @sChk (compat (occ (u19.τ 52),[]) (cfp 57 109 [(u23.τ 56)])) <| .mk <|
 @sCall0 Tryz.prog (.func 109 []) [(u23.τ 56)] (some 57) u23<|.mk fun u24=>
 @sOp (some 58) (xBuild [.bool false,.bool false,.bool false,.bool false,.bool false] [(0,1,(u24.τ 39)),(1,1,(u24.τ 45)),(2,1,(u24.τ 51)),(3,1,(u24.τ 54)),(4,1,(u24.τ 57))] u24.H) u24<|.mk fun u25=>
 @sChk (compat (occ (s.τ 3),[]) ([8],[8])) <| .mk <|
 @sChk (compat (occ (u1.τ 7),[]) ([8],[8])) <| .mk <|
 @sChk (compat (occ (u2.τ 35),[]) ([8],[8])) <| .mk <|
 @sChk (compat (occ (u3.τ 4),[]) ([8],[8])) <| .mk <|
 @sChk (compat (occ (u4.τ 37),[]) ([8],[8])) <| .mk <|
 @sChk (compat (cfp 39 108 [(u5.τ 34),(u5.τ 36),(u5.τ 38)]) ([8],[8])) <| .mk <|
 @sChk (compat (occ (u6.τ 3),[]) ([8],[8])) <| .mk <|
 @sChk (compat (occ (u7.τ 7),[]) ([8],[8])) <| .mk <|
 @sChk (compat (occ (u8.τ 41),[]) ([8],[8])) <| .mk <|
 @sChk (compat (occ (u9.τ 4),[]) ([8],[8])) <| .mk <|
 @sChk (compat (occ (u10.τ 43),[]) ([8],[8])) <| .mk <|
 @sChk (compat (cfp 45 108 [(u11.τ 40),(u11.τ 42),(u11.τ 44)]) ([8],[8])) <| .mk <|
 @sChk (compat (occ (u12.τ 4),[]) ([8],[8])) <| .mk <|
 @sChk (compat (occ (u13.τ 46),[]) ([8],[8])) <| .mk <|
 @sChk (compat (occ (u14.τ 47),[]) ([8],[8])) <| .mk <|
 @sChk (compat (occ (u15.τ 7),[]) ([8],[8])) <| .mk <|
 @sChk (compat (occ (u16.τ 49),[]) ([8],[8])) <| .mk <|
 @sChk (compat (occ (u18.τ 4),[]) ([8],[8])) <| .mk <|
 @sChk (compat (occ (u19.τ 52),[]) ([8],[8])) <| .mk <|
 @sChk (compat (occ (u21.τ 4),[]) ([8],[8])) <| .mk <|
 @sChk (compat (occ (u22.τ 55),[]) ([8],[8])) <| .mk <|
 @sChk (compat (cfp 57 109 [(u23.τ 56)]) ([8],[8])) <| .mk <|
 @sOp (some 8) (xAlloc 8 168 [.bool false,.bool false,.bool false,.bool false,.bool false] u25.H) u25<|.mk fun u26=>
 @sOp none (xStore 5 (u26.τ 8) (u26.τ 58) u26.H) u26<|.mk fun s=>
 @sFl 59 2 7 s<|.mk fun s=>
 @sLd 60 1 59 false s<|.mk fun s=>
 @sIf (s.τ 60) ⟨W81_b18 Φ s⟩ ⟨W81_k16 Φ s⟩
def W81 (Φ:EP) (s:St):Prop:=
 @sOp (some 3) (xBox 3 133 (s.τ 0) s.H) s<|.mk fun s=>
 @sOp (some 4) (xBox 4 35 (s.τ 1) s.H) s<|.mk fun s=>
 @sOp (some 6) (xMov (.bool false) s.H) s<|.mk fun s=>
 @sFl 11 0 4 s<|.mk fun u1=>
 @sLd 12 1 11 false u1<|.mk fun u2=>
 @sOp (some 13) (xBin .lss false (u2.τ 12) (.int .i64 0) u2.H) u2<|.mk fun u3=>
 @sMv 14 13 u3<|.mk fun u4=>
 @sGf 15 0 4 14 false u4<|.mk fun u5=>
 @sGl 16 1 15 14 false false u5<|.mk fun u6=>
 @sChk (compat (occ (u4.τ 4),[]) (cfp 17 107 [])) <| .mk <|
 @sChk (compat (occ (u5.τ 15),[]) (cfp 17 107 [])) <| .mk <|
 @sGrd (guardOf (u6.τ 14) false) (some 17) u6 ⟨fun s K=>@sCall0 Tryz.prog (.func 107 []) [] (some 17) s ⟨K⟩⟩<|.mk fun u7=>
 @sGo 18 14 false u7 (fun s=>(xLen (s.τ 17) s.H))<|.mk fun u8=>
 @sGo 19 14 false u8 (fun s=>(xBin .geq false (s.τ 16) (s.τ 18) s.H))<|.mk fun u9=>
 @sOp (some 20) (xPick (u9.τ 14) (.bool true) (u9.τ 19) u9.H) u9<|.mk fun u10=>
 @sMv 21 20 u10<|.mk fun u11=>
 @sGm 22 2 21 false u11<|.mk fun u12=>
 @sGm 23 22 21 false u12<|.mk fun u13=>
 @sGf 24 0 4 23 true u13<|.mk fun u14=>
 @sGl 25 1 24 23 false true u14<|.mk fun u15=>
 @sGo 26 23 true u15 (fun s=>(xBin .eql false (s.τ 25) (.int .i64 14) s.H))<|.mk fun u16=>
 @sGo 27 21 false u16 (fun s=>(xPick (s.τ 23) (s.τ 26) (.bool false) s.H))<|.mk fun u17=>
 @sOp (some 28) (xPick (u17.τ 21) (.bool true) (u17.τ 27) u17.H) u17<|.mk fun s=>
 @sIf (s.τ 28) ⟨W81_b1 Φ s⟩ ⟨W81_b23 Φ s⟩
theorem W81_rs (τ:Nat → AV) (H:Heap):resV Tryz.prog τ H [.tmp 6] = some (τ 6):=by kernel_rfl
theorem W81_eq (Φ:EP) (s:St):awp Tryz.prog (Tryz.f81.body.getD .skip) Φ s = W81 Φ s:=by kernel_rfl
theorem W81_S {args:List AV} {r:AV} (hl:args.length ≤ 94) (h:∀ vs,W81 (retK Tryz.prog [.tmp 6] r) ⟨Am.look (argT 0 args),hls [] vs,noG⟩):Am.Spec Tryz.prog 81 args r:=.of_W (W:=W81) Tryz.func81 (by kernel_rfl) (by kernel_rfl) (by kernel_rfl) Tryz.ntmps81 W81_eq (by kernel_rfl) hl h
-- 82 "slices.Clone[[]penance/api.Term,penance/api.Term]"
def W82_b1 (Φ:EP) (s:St):Prop:=
 @sOp (some 2) (xMov (.nils) s.H) s<|.mk fun s=>
 Φ .ret s
def W82_b2 (Φ:EP) (s:St):Prop:=
 @sOp (some 5) (xRow 5 35 9 0 [.int .i64 0,.int .i64 0,.int .i64 0,.str ⟨#[]⟩,.int .i64 0,.int .i64 0,.str ⟨#[]⟩,.nils,.nils] [] s.H) s<|.mk fun s=>
 @sMv 6 0 s<|.mk fun s=>
 @sOp (some 7) (xApp Tryz.prog 35 9 120 (some 7) (s.τ 5) (s.τ 6) s.H) s<|.mk fun s=>
 @sMv 2 7 s<|.mk fun s=>
 Φ .ret s
def W82 (Φ:EP) (s:St):Prop:=
 @sOp (some 2) (xMov (.nils) s.H) s<|.mk fun s=>
 @sMv 3 0 s<|.mk fun s=>
 @sNil false (s.τ 3) (some 4) s<|.mk fun s=>
 @sIf (s.τ 4) ⟨W82_b1 Φ s⟩ ⟨W82_b2 Φ s⟩
theorem W82_rs (τ:Nat → AV) (H:Heap):resV Tryz.prog τ H [.tmp 2] = some (τ 2):=by kernel_rfl
theorem W82_eq (Φ:EP) (s:St):awp Tryz.prog (Tryz.f82.body.getD .skip) Φ s = W82 Φ s:=by kernel_rfl
theorem W82_S {args:List AV} {r:AV} (hl:args.length ≤ 8) (h:∀ vs,W82 (retK Tryz.prog [.tmp 2] r) ⟨Am.look (argT 0 args),hls [] vs,noG⟩):Am.Spec Tryz.prog 82 args r:=.of_W (W:=W82) Tryz.func82 (by kernel_rfl) (by kernel_rfl) (by kernel_rfl) Tryz.ntmps82 W82_eq (by kernel_rfl) hl h
-- 83 "penance/steps.places"
def W83 (Φ:EP) (s:St):Prop:=
 @sOp (some 1) (xBox 1 35 (s.τ 0) s.H) s<|.mk fun s=>
 @sOp (some 2) (xMov (.nilf) s.H) s<|.mk fun s=>
 @sOp (some 3) (xMkf 112 [(s.τ 1)] s.H) s<|.mk fun s=>
 @sMv 2 3 s<|.mk fun s=>
 Φ .ret s
theorem W83_rs (τ:Nat → AV) (H:Heap):resV Tryz.prog τ H [.tmp 2] = some (τ 2):=by kernel_rfl
theorem W83_eq (Φ:EP) (s:St):awp Tryz.prog (Tryz.f83.body.getD .skip) Φ s = W83 Φ s:=by kernel_rfl
theorem W83_S {args:List AV} {r:AV} (hl:args.length ≤ 4) (h:∀ vs,W83 (retK Tryz.prog [.tmp 2] r) ⟨Am.look (argT 0 args),hls [] vs,noG⟩):Am.Spec Tryz.prog 83 args r:=.of_W (W:=W83) Tryz.func83 (by kernel_rfl) (by kernel_rfl) (by kernel_rfl) Tryz.ntmps83 W83_eq (by kernel_rfl) hl h
-- 84 "slices.Clone[[]penance/api.Step,penance/api.Step]"
def W84_b1 (Φ:EP) (s:St):Prop:=
 @sOp (some 2) (xMov (.nils) s.H) s<|.mk fun s=>
 Φ .ret s
def W84_b2 (Φ:EP) (s:St):Prop:=
 @sOp (some 5) (xRow 5 60 3 0 [.int .i64 0,.nils,.int .i64 0] [] s.H) s<|.mk fun s=>
 @sMv 6 0 s<|.mk fun s=>
 @sOp (some 7) (xApp Tryz.prog 60 3 40 (some 7) (s.τ 5) (s.τ 6) s.H) s<|.mk fun s=>
 @sMv 2 7 s<|.mk fun s=>
 Φ .ret s
def W84 (Φ:EP) (s:St):Prop:=
 @sOp (some 2) (xMov (.nils) s.H) s<|.mk fun s=>
 @sMv 3 0 s<|.mk fun s=>
 @sNil false (s.τ 3) (some 4) s<|.mk fun s=>
 @sIf (s.τ 4) ⟨W84_b1 Φ s⟩ ⟨W84_b2 Φ s⟩
theorem W84_rs (τ:Nat → AV) (H:Heap):resV Tryz.prog τ H [.tmp 2] = some (τ 2):=by kernel_rfl
theorem W84_eq (Φ:EP) (s:St):awp Tryz.prog (Tryz.f84.body.getD .skip) Φ s = W84 Φ s:=by kernel_rfl
theorem W84_S {args:List AV} {r:AV} (hl:args.length ≤ 8) (h:∀ vs,W84 (retK Tryz.prog [.tmp 2] r) ⟨Am.look (argT 0 args),hls [] vs,noG⟩):Am.Spec Tryz.prog 84 args r:=.of_W (W:=W84) Tryz.func84 (by kernel_rfl) (by kernel_rfl) (by kernel_rfl) Tryz.ntmps84 W84_eq (by kernel_rfl) hl h
-- 85 "penance/expr.truth"
def W85_b1 (Φ:EP) (s:St):Prop:=
 @sOp (some 2) (xMov (.int .i64 1) s.H) s<|.mk fun s=>
 Φ .ret s
def W85_b2 (Φ:EP) (s:St):Prop:=
 @sOp (some 2) (xMov (.int .i64 0) s.H) s<|.mk fun s=>
 Φ .ret s
def W85 (Φ:EP) (s:St):Prop:=
 @sOp (some 2) (xMov (.int .i64 0) s.H) s<|.mk fun s=>
 @sMv 3 0 s<|.mk fun s=>
 @sIf (s.τ 3) ⟨W85_b1 Φ s⟩ ⟨W85_b2 Φ s⟩
theorem W85_rs (τ:Nat → AV) (H:Heap):resV Tryz.prog τ H [.tmp 2] = some (τ 2):=by kernel_rfl
theorem W85_eq (Φ:EP) (s:St):awp Tryz.prog (Tryz.f85.body.getD .skip) Φ s = W85 Φ s:=by kernel_rfl
theorem W85_S {args:List AV} {r:AV} (hl:args.length ≤ 4) (h:∀ vs,W85 (retK Tryz.prog [.tmp 2] r) ⟨Am.look (argT 0 args),hls [] vs,noG⟩):Am.Spec Tryz.prog 85 args r:=.of_W (W:=W85) Tryz.func85 (by kernel_rfl) (by kernel_rfl) (by kernel_rfl) Tryz.ntmps85 W85_eq (by kernel_rfl) hl h
-- 86 "penance/expr.times"
def W86_b1 (Φ:EP) (s:St):Prop:=
 @sOp (some 4) (xMov (.int .i64 0) s.H) s<|.mk fun s=>
 @sOp (some 5) (xMov (.int .i64 0) s.H) s<|.mk fun s=>
 Φ .ret s
def W86_b2 (Φ:EP) (s:St):Prop:=
 @sOp (some 4) (xMov (.int .i64 0) s.H) s<|.mk fun s=>
 @sOp (some 5) (xMov (.int .i64 8) s.H) s<|.mk fun s=>
 Φ .ret s
def W86_b3 (Φ:EP) (s:St):Prop:=
 @sMv 25 0 s<|.mk fun s=>
 @sMv 26 1 s<|.mk fun s=>
 @sOp (some 27) (xBin .mul false (s.τ 25) (s.τ 26) s.H) s<|.mk fun s=>
 @sMv 4 27 s<|.mk fun s=>
 @sOp (some 5) (xMov (.int .i64 0) s.H) s<|.mk fun s=>
 Φ .ret s
def W86_b6 (Φ:EP) (s:St):Prop:=
 @sMv 19 0 s<|.mk fun s=>
 @sOp (some 20) (xBin .eql false (s.τ 19) (.int .i64 (-9223372036854775808)) s.H) s<|.mk fun s=>
 @sMv 21 20 s<|.mk fun s=>
 @sGm 22 1 21 false s<|.mk fun s=>
 @sGo 23 21 false s (fun s=>(xBin .eql false (s.τ 22) (.int .i64 (-9223372036854775808)) s.H))<|.mk fun s=>
 @sOp (some 24) (xPick (s.τ 21) (.bool true) (s.τ 23) s.H) s<|.mk fun s=>
 @sIf (s.τ 24) ⟨W86_b2 Φ s⟩ ⟨W86_b3 Φ s⟩
def W86_b7 (Φ:EP) (s:St):Prop:=
 @sMv 36 6 s<|.mk fun s=>
 @sMv 4 36 s<|.mk fun s=>
 @sOp (some 5) (xMov (.int .i64 0) s.H) s<|.mk fun s=>
 Φ .ret s
def W86_b8 (Φ:EP) (s:St):Prop:=
 @sOp (some 4) (xMov (.int .i64 0) s.H) s<|.mk fun s=>
 @sOp (some 5) (xMov (.int .i64 8) s.H) s<|.mk fun s=>
 Φ .ret s
def W86_b9 (Φ:EP) (s:St):Prop:=
 @sMv 28 0 s<|.mk fun s=>
 @sMv 29 1 s<|.mk fun s=>
 @sOp (some 30) (xBin .mul false (s.τ 28) (s.τ 29) s.H) s<|.mk fun s=>
 @sMv 6 30 s<|.mk fun s=>
 @sMv 31 6 s<|.mk fun s=>
 @sMv 32 1 s<|.mk fun s=>
 @sOp (some 33) (xBin .quo false (s.τ 31) (s.τ 32) s.H) s<|.mk fun s=>
 @sMv 34 0 s<|.mk fun s=>
 @sOp (some 35) (xBin .eql false (s.τ 33) (s.τ 34) s.H) s<|.mk fun s=>
 @sIf (s.τ 35) ⟨W86_b7 Φ s⟩ ⟨W86_b8 Φ s⟩
def W86_b12 (Φ:EP) (s:St):Prop:=
 @sMv 13 0 s<|.mk fun s=>
 @sOp (some 14) (xBin .eql false (s.τ 13) (.int .i64 (-1)) s.H) s<|.mk fun s=>
 @sMv 15 14 s<|.mk fun s=>
 @sGm 16 1 15 false s<|.mk fun s=>
 @sGo 17 15 false s (fun s=>(xBin .eql false (s.τ 16) (.int .i64 (-1)) s.H))<|.mk fun s=>
 @sOp (some 18) (xPick (s.τ 15) (.bool true) (s.τ 17) s.H) s<|.mk fun s=>
 @sIf (s.τ 18) ⟨W86_b6 Φ s⟩ ⟨W86_b9 Φ s⟩
def W86 (Φ:EP) (s:St):Prop:=
 @sOp (some 4) (xMov (.int .i64 0) s.H) s<|.mk fun s=>
 @sOp (some 5) (xMov (.int .i64 0) s.H) s<|.mk fun s=>
 @sMv 7 0 s<|.mk fun s=>
 @sOp (some 8) (xBin .eql false (s.τ 7) (.int .i64 0) s.H) s<|.mk fun s=>
 @sMv 9 8 s<|.mk fun s=>
 @sGm 10 1 9 false s<|.mk fun s=>
 @sGo 11 9 false s (fun s=>(xBin .eql false (s.τ 10) (.int .i64 0) s.H))<|.mk fun s=>
 @sOp (some 12) (xPick (s.τ 9) (.bool true) (s.τ 11) s.H) s<|.mk fun s=>
 @sIf (s.τ 12) ⟨W86_b1 Φ s⟩ ⟨W86_b12 Φ s⟩
theorem W86_rs (τ:Nat → AV) (H:Heap):resV Tryz.prog τ H [.tmp 4,.tmp 5] = ob (ob (some (τ 4)) fun v=>ob (ob (some (τ 5)) fun v=>ob (some []) fun vs=>some (v :: vs)) fun vs=>some (v :: vs)) fun vs=>some (.tup vs):=by kernel_rfl
theorem W86_eq (Φ:EP) (s:St):awp Tryz.prog (Tryz.f86.body.getD .skip) Φ s = W86 Φ s:=by kernel_rfl
theorem W86_S {args:List AV} {r:AV} (hl:args.length ≤ 37) (h:∀ vs,W86 (retK Tryz.prog [.tmp 4,.tmp 5] r) ⟨Am.look (argT 0 args),hls [] vs,noG⟩):Am.Spec Tryz.prog 86 args r:=.of_W (W:=W86) Tryz.func86 (by kernel_rfl) (by kernel_rfl) (by kernel_rfl) Tryz.ntmps86 W86_eq (by kernel_rfl) hl h
-- 87 "penance/expr.two"
def W87_b2 (Φ:EP) (s:St):Prop:=
 @sMv 11 1 s<|.mk fun s=>
 @sMv 12 2 s<|.mk fun s=>
 @sCall Tryz.prog (.func 86 []) [(s.τ 11),(s.τ 12)] (some 13) s<|.mk fun s=>
 @sOp (some 14) (xExt (s.τ 13) 0 s.H) s<|.mk fun s=>
 @sOp (some 15) (xExt (s.τ 13) 1 s.H) s<|.mk fun s=>
 @sMv 6 14 s<|.mk fun s=>
 @sMv 7 15 s<|.mk fun s=>
 Φ .ret s
def W87_b4 (Φ:EP) (s:St):Prop:=
 @sMv 18 1 s<|.mk fun s=>
 @sMv 19 2 s<|.mk fun s=>
 @sCall Tryz.prog (.func 115 []) [(s.τ 18),(s.τ 19)] (some 20) s<|.mk fun s=>
 @sOp (some 21) (xExt (s.τ 20) 0 s.H) s<|.mk fun s=>
 @sOp (some 22) (xExt (s.τ 20) 1 s.H) s<|.mk fun s=>
 @sMv 6 21 s<|.mk fun s=>
 @sMv 7 22 s<|.mk fun s=>
 Φ .ret s
def W87_b5 (Φ:EP) (s:St):Prop:=
 @sOp (some 6) (xMov (.int .i64 0) s.H) s<|.mk fun s=>
 @sOp (some 7) (xMov (.int .i64 8) s.H) s<|.mk fun s=>
 Φ .ret s
def W87_b6 (Φ:EP) (s:St):Prop:=
 @sMv 29 1 s<|.mk fun s=>
 @sMv 30 2 s<|.mk fun s=>
 @sOp (some 31) (xBin .sub false (s.τ 29) (s.τ 30) s.H) s<|.mk fun s=>
 @sMv 6 31 s<|.mk fun s=>
 @sOp (some 7) (xMov (.int .i64 0) s.H) s<|.mk fun s=>
 Φ .ret s
def W87_b7 (Φ:EP) (s:St):Prop:=
 @sMv 27 1 s<|.mk fun s=>
 @sOp (some 28) (xBin .geq false (s.τ 27) (.int .i64 0) s.H) s<|.mk fun s=>
 @sIf (s.τ 28) ⟨W87_b5 Φ s⟩ ⟨W87_b6 Φ s⟩
def W87_b9 (Φ:EP) (s:St):Prop:=
 @sMv 32 1 s<|.mk fun s=>
 @sMv 33 2 s<|.mk fun s=>
 @sOp (some 34) (xNeg (s.τ 33) s.H) s<|.mk fun s=>
 @sCall Tryz.prog (.func 115 []) [(s.τ 32),(s.τ 34)] (some 35) s<|.mk fun s=>
 @sOp (some 36) (xExt (s.τ 35) 0 s.H) s<|.mk fun s=>
 @sOp (some 37) (xExt (s.τ 35) 1 s.H) s<|.mk fun s=>
 @sMv 6 36 s<|.mk fun s=>
 @sMv 7 37 s<|.mk fun s=>
 Φ .ret s
def W87_b10 (Φ:EP) (s:St):Prop:=
 @sMv 25 2 s<|.mk fun s=>
 @sOp (some 26) (xBin .eql false (s.τ 25) (.int .i64 (-9223372036854775808)) s.H) s<|.mk fun s=>
 @sIf (s.τ 26) ⟨W87_b7 Φ s⟩ ⟨W87_b9 Φ s⟩
def W87_b11 (Φ:EP) (s:St):Prop:=
 @sOp (some 6) (xMov (.int .i64 0) s.H) s<|.mk fun s=>
 @sOp (some 7) (xMov (.int .i64 9) s.H) s<|.mk fun s=>
 Φ .ret s
def W87_b12 (Φ:EP) (s:St):Prop:=
 @sOp (some 6) (xMov (.int .i64 0) s.H) s<|.mk fun s=>
 @sOp (some 7) (xMov (.int .i64 0) s.H) s<|.mk fun s=>
 Φ .ret s
def W87_b14 (Φ:EP) (s:St):Prop:=
 @sMv 54 1 s<|.mk fun s=>
 @sMv 55 2 s<|.mk fun s=>
 @sCall Tryz.prog (.func 86 []) [(s.τ 54),(s.τ 55)] (some 56) s<|.mk fun s=>
 @sOp (some 57) (xExt (s.τ 56) 0 s.H) s<|.mk fun s=>
 @sOp (some 58) (xExt (s.τ 56) 1 s.H) s<|.mk fun s=>
 @sMv 6 57 s<|.mk fun s=>
 @sMv 7 58 s<|.mk fun s=>
 Φ .ret s
def W87_b15 (Φ:EP) (s:St):Prop:=
 @sMv 62 1 s<|.mk fun s=>
 @sMv 63 2 s<|.mk fun s=>
 @sOp (some 64) (xBin .rem false (s.τ 62) (s.τ 63) s.H) s<|.mk fun s=>
 @sMv 6 64 s<|.mk fun s=>
 @sOp (some 7) (xMov (.int .i64 0) s.H) s<|.mk fun s=>
 Φ .ret s
def W87_b16 (Φ:EP) (s:St):Prop:=
 @sMv 65 1 s<|.mk fun s=>
 @sMv 66 2 s<|.mk fun s=>
 @sOp (some 67) (xBin .quo false (s.τ 65) (s.τ 66) s.H) s<|.mk fun s=>
 @sMv 6 67 s<|.mk fun s=>
 @sOp (some 7) (xMov (.int .i64 0) s.H) s<|.mk fun s=>
 Φ .ret s
def W87_b17 (Φ:EP) (s:St):Prop:=
 @sMv 60 0 s<|.mk fun s=>
 @sOp (some 61) (xBin .eql false (s.τ 60) (.int .i64 7) s.H) s<|.mk fun s=>
 @sMv 59 61 s<|.mk fun s=>
 @sIf (s.τ 59) ⟨W87_b15 Φ s⟩ ⟨W87_b16 Φ s⟩
def W87_b18 (Φ:EP) (s:St):Prop:=
 @sMv 52 2 s<|.mk fun s=>
 @sOp (some 53) (xBin .eql false (s.τ 52) (.int .i64 (-1)) s.H) s<|.mk fun s=>
 @sMv 51 53 s<|.mk fun s=>
 @sIf (s.τ 51) ⟨W87_b14 Φ s⟩ ⟨W87_b17 Φ s⟩
def W87_b21 (Φ:EP) (s:St):Prop:=
 @sMv 45 2 s<|.mk fun s=>
 @sOp (some 46) (xBin .eql false (s.τ 45) (.int .i64 (-1)) s.H) s<|.mk fun s=>
 @sMv 47 46 s<|.mk fun s=>
 @sGm 48 0 47 true s<|.mk fun s=>
 @sGo 49 47 true s (fun s=>(xBin .eql false (s.τ 48) (.int .i64 7) s.H))<|.mk fun s=>
 @sOp (some 50) (xPick (s.τ 47) (s.τ 49) (.bool false) s.H) s<|.mk fun s=>
 @sMv 44 50 s<|.mk fun s=>
 @sIf (s.τ 44) ⟨W87_b12 Φ s⟩ ⟨W87_b18 Φ s⟩
def W87_b22 (Φ:EP) (s:St):Prop:=
 @sMv 42 2 s<|.mk fun s=>
 @sOp (some 43) (xBin .eql false (s.τ 42) (.int .i64 0) s.H) s<|.mk fun s=>
 @sMv 41 43 s<|.mk fun s=>
 @sIf (s.τ 41) ⟨W87_b11 Φ s⟩ ⟨W87_b21 Φ s⟩
def W87_b24 (Φ:EP) (s:St):Prop:=
 @sMv 70 1 s<|.mk fun s=>
 @sMv 71 2 s<|.mk fun s=>
 @sOp (some 72) (xBin .eql false (s.τ 70) (s.τ 71) s.H) s<|.mk fun s=>
 @sCall Tryz.prog (.func 85 []) [(s.τ 72)] (some 73) s<|.mk fun s=>
 @sMv 6 73 s<|.mk fun s=>
 @sOp (some 7) (xMov (.int .i64 0) s.H) s<|.mk fun s=>
 Φ .ret s
def W87_b26 (Φ:EP) (s:St):Prop:=
 @sMv 76 1 s<|.mk fun s=>
 @sMv 77 2 s<|.mk fun s=>
 @sOp (some 78) (xBin .neq false (s.τ 76) (s.τ 77) s.H) s<|.mk fun s=>
 @sCall Tryz.prog (.func 85 []) [(s.τ 78)] (some 79) s<|.mk fun s=>
 @sMv 6 79 s<|.mk fun s=>
 @sOp (some 7) (xMov (.int .i64 0) s.H) s<|.mk fun s=>
 Φ .ret s
def W87_b28 (Φ:EP) (s:St):Prop:=
 @sMv 82 1 s<|.mk fun s=>
 @sMv 83 2 s<|.mk fun s=>
 @sOp (some 84) (xBin .lss false (s.τ 82) (s.τ 83) s.H) s<|.mk fun s=>
 @sCall Tryz.prog (.func 85 []) [(s.τ 84)] (some 85) s<|.mk fun s=>
 @sMv 6 85 s<|.mk fun s=>
 @sOp (some 7) (xMov (.int .i64 0) s.H) s<|.mk fun s=>
 Φ .ret s
def W87_b30 (Φ:EP) (s:St):Prop:=
 @sMv 88 1 s<|.mk fun s=>
 @sMv 89 2 s<|.mk fun s=>
 @sOp (some 90) (xBin .leq false (s.τ 88) (s.τ 89) s.H) s<|.mk fun s=>
 @sCall Tryz.prog (.func 85 []) [(s.τ 90)] (some 91) s<|.mk fun s=>
 @sMv 6 91 s<|.mk fun s=>
 @sOp (some 7) (xMov (.int .i64 0) s.H) s<|.mk fun s=>
 Φ .ret s
def W87_b32 (Φ:EP) (s:St):Prop:=
 @sMv 94 1 s<|.mk fun s=>
 @sMv 95 2 s<|.mk fun s=>
 @sOp (some 96) (xBin .gtr false (s.τ 94) (s.τ 95) s.H) s<|.mk fun s=>
 @sCall Tryz.prog (.func 85 []) [(s.τ 96)] (some 97) s<|.mk fun s=>
 @sMv 6 97 s<|.mk fun s=>
 @sOp (some 7) (xMov (.int .i64 0) s.H) s<|.mk fun s=>
 Φ .ret s
def W87_b34 (Φ:EP) (s:St):Prop:=
 @sMv 98 1 s<|.mk fun s=>
 @sMv 99 2 s<|.mk fun s=>
 @sOp (some 100) (xBin .geq false (s.τ 98) (s.τ 99) s.H) s<|.mk fun s=>
 @sCall Tryz.prog (.func 85 []) [(s.τ 100)] (some 101) s<|.mk fun s=>
 @sMv 6 101 s<|.mk fun s=>
 @sOp (some 7) (xMov (.int .i64 0) s.H) s<|.mk fun s=>
 Φ .ret s
def W87_b35 (Φ:EP) (s:St):Prop:=
 @sOp (some 93) (xBin .eql false (s.τ 8) (.int .i64 14) s.H) s<|.mk fun s=>
 @sMv 92 93 s<|.mk fun s=>
 @sIf (s.τ 92) ⟨W87_b32 Φ s⟩ ⟨W87_b34 Φ s⟩
def W87_b36 (Φ:EP) (s:St):Prop:=
 @sOp (some 87) (xBin .eql false (s.τ 8) (.int .i64 13) s.H) s<|.mk fun s=>
 @sMv 86 87 s<|.mk fun s=>
 @sIf (s.τ 86) ⟨W87_b30 Φ s⟩ ⟨W87_b35 Φ s⟩
def W87_b37 (Φ:EP) (s:St):Prop:=
 @sOp (some 81) (xBin .eql false (s.τ 8) (.int .i64 12) s.H) s<|.mk fun s=>
 @sMv 80 81 s<|.mk fun s=>
 @sIf (s.τ 80) ⟨W87_b28 Φ s⟩ ⟨W87_b36 Φ s⟩
def W87_b38 (Φ:EP) (s:St):Prop:=
 @sOp (some 75) (xBin .eql false (s.τ 8) (.int .i64 11) s.H) s<|.mk fun s=>
 @sMv 74 75 s<|.mk fun s=>
 @sIf (s.τ 74) ⟨W87_b26 Φ s⟩ ⟨W87_b37 Φ s⟩
def W87_b39 (Φ:EP) (s:St):Prop:=
 @sOp (some 69) (xBin .eql false (s.τ 8) (.int .i64 10) s.H) s<|.mk fun s=>
 @sMv 68 69 s<|.mk fun s=>
 @sIf (s.τ 68) ⟨W87_b24 Φ s⟩ ⟨W87_b38 Φ s⟩
def W87_k40 (Φ:EP) (s:St):Prop:=
 @sIf (s.τ 38) ⟨W87_b22 Φ s⟩ ⟨W87_b39 Φ s⟩
def W87_b41 (Φ:EP) (s:St):Prop:=
 @sOp (some 40) (xBin .eql false (s.τ 8) (.int .i64 7) s.H) s<|.mk fun s=>
 @sMv 38 40 s<|.mk fun s=>
 W87_k40 Φ s
def W87_b42 (Φ:EP) (s:St):Prop:=
 @sOp (some 39) (xBin .eql false (s.τ 8) (.int .i64 6) s.H) s<|.mk fun s=>
 @sMv 38 39 s<|.mk fun s=>
 @sIf (s.τ 38) ⟨W87_k40 Φ s⟩ ⟨W87_b41 Φ s⟩
def W87_b43 (Φ:EP) (s:St):Prop:=
 @sOp (some 24) (xBin .eql false (s.τ 8) (.int .i64 9) s.H) s<|.mk fun s=>
 @sMv 23 24 s<|.mk fun s=>
 @sIf (s.τ 23) ⟨W87_b10 Φ s⟩ ⟨W87_b42 Φ s⟩
def W87_b44 (Φ:EP) (s:St):Prop:=
 @sOp (some 17) (xBin .eql false (s.τ 8) (.int .i64 8) s.H) s<|.mk fun s=>
 @sMv 16 17 s<|.mk fun s=>
 @sIf (s.τ 16) ⟨W87_b4 Φ s⟩ ⟨W87_b43 Φ s⟩
def W87 (Φ:EP) (s:St):Prop:=
 @sOp (some 6) (xMov (.int .i64 0) s.H) s<|.mk fun s=>
 @sOp (some 7) (xMov (.int .i64 0) s.H) s<|.mk fun s=>
 @sMv 8 0 s<|.mk fun s=>
 @sOp (some 10) (xBin .eql false (s.τ 8) (.int .i64 5) s.H) s<|.mk fun s=>
 @sMv 9 10 s<|.mk fun s=>
 @sIf (s.τ 9) ⟨W87_b2 Φ s⟩ ⟨W87_b44 Φ s⟩
theorem W87_rs (τ:Nat → AV) (H:Heap):resV Tryz.prog τ H [.tmp 6,.tmp 7] = ob (ob (some (τ 6)) fun v=>ob (ob (some (τ 7)) fun v=>ob (some []) fun vs=>some (v :: vs)) fun vs=>some (v :: vs)) fun vs=>some (.tup vs):=by kernel_rfl
theorem W87_eq (Φ:EP) (s:St):awp Tryz.prog (Tryz.f87.body.getD .skip) Φ s = W87 Φ s:=by kernel_rfl
theorem W87_S {args:List AV} {r:AV} (hl:args.length ≤ 102) (h:∀ vs,W87 (retK Tryz.prog [.tmp 6,.tmp 7] r) ⟨Am.look (argT 0 args),hls [] vs,noG⟩):Am.Spec Tryz.prog 87 args r:=.of_W (W:=W87) Tryz.func87 (by kernel_rfl) (by kernel_rfl) (by kernel_rfl) Tryz.ntmps87 W87_eq (by kernel_rfl) hl h
-- 88 "penance/stacks.ownTerm"
def W88 (Φ:EP) (s:St):Prop:=
 @sOp (some 1) (xBox 1 35 (s.τ 0) s.H) s<|.mk fun s=>
 @sOp (some 2) (xAlloc 2 35 [.int .i64 0,.int .i64 0,.int .i64 0,.str ⟨#[]⟩,.int .i64 0,.int .i64 0,.str ⟨#[]⟩,.nils,.nils] s.H) s<|.mk fun s=>
 @sFl 3 4 1 s<|.mk fun u1=>
 @sLd 4 4 3 true u1<|.mk fun u2=>
 @sCall0 Tryz.prog (.func 116 []) [(u2.τ 4)] (some 5) u2<|.mk fun u3=>
 @sChk (compat (cfp 5 116 [(u2.τ 4)]) (occ (u3.τ 1),[])) <| .mk <|
 @sFl 6 8 1 u3<|.mk fun u4=>
 @sChk (compat (cfp 5 116 [(u2.τ 4)]) (occ (u4.τ 6),[])) <| .mk <|
 @sLd 7 1 6 false u4<|.mk fun u5=>
 @sCall0 Tryz.prog (.func 104 []) [(u5.τ 7),(.func 88 [])] (some 8) u5<|.mk fun u6=>
 @sChk (compat ([8] ++ withM (occ (.func 104 []) ++ occL [(u5.τ 7),(.func 88 [])]),[8] ++ withM (occ (.func 104 []) ++ occL [(u5.τ 7),(.func 88 [])])) (occ (u6.τ 1),[])) <| .mk <|
 @sFl 9 4 1 u6<|.mk fun u7=>
 @sOp none (xStore 4 (u7.τ 9) (u7.τ 5) u7.H) u7<|.mk fun u8=>
 @sFl 10 8 1 u8<|.mk fun u9=>
 @sOp none (xStore 1 (u9.τ 10) (u9.τ 8) u9.H) u9<|.mk fun s=>
 @sLd 11 9 1 true s<|.mk fun s=>
 @sOp none (xStore 9 (s.τ 2) (s.τ 11) s.H) s<|.mk fun s=>
 Φ .ret s
theorem W88_rs (τ:Nat → AV) (H:Heap):resV Tryz.prog τ H [.cell 2 35] = rdV H 9 true (τ 2):=by kernel_rfl
theorem W88_eq (Φ:EP) (s:St):awp Tryz.prog (Tryz.f88.body.getD .skip) Φ s = W88 Φ s:=by kernel_rfl
theorem W88_S {args:List AV} {r:AV} (hl:args.length ≤ 12) (h:∀ vs,W88 (retK Tryz.prog [.cell 2 35] r) ⟨Am.look (argT 0 args),hls [] vs,noG⟩):Am.Spec Tryz.prog 88 args r:=.of_W (W:=W88) Tryz.func88 (by kernel_rfl) (by kernel_rfl) (by kernel_rfl) Tryz.ntmps88 W88_eq (by kernel_rfl) hl h
end Go.Proofs.YtnngddgaobhkiaaGreat
set_option linter.unusedVariables false
set_option maxRecDepth 100000
namespace Go.Proofs.YtnngddgaobhkiaaGreat
open Go Go.Am
-- 89 "penance/penanceref2.Eval"
def W89_b1 (Φ:EP) (s:St):Prop:=
 @sFl 14 1 2 s<|.mk fun s=>
 @sLd 15 1 14 false s<|.mk fun s=>
 @sMv 4 15 s<|.mk fun s=>
 @sOp (some 5) (xMov (.int .i64 0) s.H) s<|.mk fun s=>
 Φ .ret s
def W89_b2 (Φ:EP) (s:St):Prop:=
 @sMv 18 1 s<|.mk fun s=>
 @sFl 19 1 2 s<|.mk fun s=>
 @sLd 20 1 19 false s<|.mk fun s=>
 @sOp (some 21) (xIx 1 (s.τ 18) (s.τ 20) s.H) s<|.mk fun s=>
 @sLd 22 1 21 false s<|.mk fun s=>
 @sMv 4 22 s<|.mk fun s=>
 @sOp (some 5) (xMov (.int .i64 0) s.H) s<|.mk fun s=>
 Φ .ret s
def W89_b3 (Φ:EP) (s:St):Prop:=
 @sMv 35 7 s<|.mk fun s=>
 @sOp (some 4) (xMov (.int .i64 0) s.H) s<|.mk fun s=>
 @sMv 5 35 s<|.mk fun s=>
 Φ .ret s
def W89_b5 (Φ:EP) (s:St):Prop:=
 @sMv 40 6 s<|.mk fun s=>
 @sOp (some 41) (xBin .eql false (s.τ 40) (.int .i64 0) s.H) s<|.mk fun s=>
 @sCall Tryz.prog (.func 117 []) [(s.τ 41)] (some 42) s<|.mk fun s=>
 @sOp (some 43) (xExt (s.τ 42) 0 s.H) s<|.mk fun s=>
 @sOp (some 44) (xExt (s.τ 42) 1 s.H) s<|.mk fun s=>
 @sMv 4 43 s<|.mk fun s=>
 @sMv 5 44 s<|.mk fun s=>
 Φ .ret s
def W89_b6 (Φ:EP) (s:St):Prop:=
 @sOp (some 4) (xMov (.int .i64 0) s.H) s<|.mk fun s=>
 @sOp (some 5) (xMov (.int .i64 8) s.H) s<|.mk fun s=>
 Φ .ret s
def W89_b7 (Φ:EP) (s:St):Prop:=
 @sMv 57 6 s<|.mk fun s=>
 @sOp (some 58) (xBin .sub false (.int .i64 0) (s.τ 57) s.H) s<|.mk fun s=>
 @sMv 4 58 s<|.mk fun s=>
 @sOp (some 5) (xMov (.int .i64 0) s.H) s<|.mk fun s=>
 Φ .ret s
def W89_b8 (Φ:EP) (s:St):Prop:=
 @sOp (some 4) (xMov (.int .i64 0) s.H) s<|.mk fun s=>
 @sOp (some 5) (xMov (.int .i64 0) s.H) s<|.mk fun s=>
 Φ .ret s
def W89_b9 (Φ:EP) (s:St):Prop:=
 @sOp (some 4) (xMov (.int .i64 1) s.H) s<|.mk fun s=>
 @sOp (some 5) (xMov (.int .i64 0) s.H) s<|.mk fun s=>
 Φ .ret s
def W89_b10 (Φ:EP) (s:St):Prop:=
 @sMv 87 9 s<|.mk fun s=>
 @sOp (some 4) (xMov (.int .i64 0) s.H) s<|.mk fun s=>
 @sMv 5 87 s<|.mk fun s=>
 Φ .ret s
def W89_b12 (Φ:EP) (s:St):Prop:=
 @sMv 97 8 s<|.mk fun s=>
 @sOp (some 98) (xBin .neq false (s.τ 97) (.int .i64 0) s.H) s<|.mk fun s=>
 @sCall Tryz.prog (.func 117 []) [(s.τ 98)] (some 99) s<|.mk fun s=>
 @sOp (some 100) (xExt (s.τ 99) 0 s.H) s<|.mk fun s=>
 @sOp (some 101) (xExt (s.τ 99) 1 s.H) s<|.mk fun s=>
 @sMv 4 100 s<|.mk fun s=>
 @sMv 5 101 s<|.mk fun s=>
 Φ .ret s
def W89_b14 (Φ:EP) (s:St):Prop:=
 @sFl 106 0 2 s<|.mk fun s=>
 @sLd 107 1 106 false s<|.mk fun s=>
 @sMv 108 6 s<|.mk fun s=>
 @sMv 109 8 s<|.mk fun s=>
 @sCall Tryz.prog (.func 118 []) [(s.τ 107),(s.τ 108),(s.τ 109)] (some 110) s<|.mk fun s=>
 @sOp (some 111) (xExt (s.τ 110) 0 s.H) s<|.mk fun s=>
 @sOp (some 112) (xExt (s.τ 110) 1 s.H) s<|.mk fun s=>
 @sMv 4 111 s<|.mk fun s=>
 @sMv 5 112 s<|.mk fun s=>
 Φ .ret s
def W89_b16 (Φ:EP) (s:St):Prop:=
 @sFl 113 0 2 s<|.mk fun s=>
 @sLd 114 1 113 false s<|.mk fun s=>
 @sMv 115 6 s<|.mk fun s=>
 @sMv 116 8 s<|.mk fun s=>
 @sCall Tryz.prog (.func 119 []) [(s.τ 114),(s.τ 115),(s.τ 116)] (some 117) s<|.mk fun s=>
 @sOp (some 118) (xExt (s.τ 117) 0 s.H) s<|.mk fun s=>
 @sOp (some 119) (xExt (s.τ 117) 1 s.H) s<|.mk fun s=>
 @sMv 4 118 s<|.mk fun s=>
 @sMv 5 119 s<|.mk fun s=>
 Φ .ret s
def W89_b17 (Φ:EP) (s:St):Prop:=
 @sFl 103 0 2 s<|.mk fun s=>
 @sLd 104 1 103 false s<|.mk fun s=>
 @sOp (some 105) (xBin .geq false (s.τ 104) (.int .i64 10) s.H) s<|.mk fun s=>
 @sMv 102 105 s<|.mk fun s=>
 @sIf (s.τ 102) ⟨W89_b14 Φ s⟩ ⟨W89_b16 Φ s⟩
def W89_b21 (Φ:EP) (s:St):Prop:=
 @sFl 89 0 2 s<|.mk fun s=>
 @sLd 90 1 89 false s<|.mk fun s=>
 @sOp (some 91) (xBin .eql false (s.τ 90) (.int .i64 16) s.H) s<|.mk fun s=>
 @sMv 92 91 s<|.mk fun s=>
 @sGf 93 0 2 92 false s<|.mk fun s=>
 @sGl 94 1 93 92 false false s<|.mk fun s=>
 @sGo 95 92 false s (fun s=>(xBin .eql false (s.τ 94) (.int .i64 17) s.H))<|.mk fun s=>
 @sOp (some 96) (xPick (s.τ 92) (.bool true) (s.τ 95) s.H) s<|.mk fun s=>
 @sMv 88 96 s<|.mk fun s=>
 @sIf (s.τ 88) ⟨W89_b12 Φ s⟩ ⟨W89_b17 Φ s⟩
def W89_b23 (Φ:EP) (s:St):Prop:=
 @sFl 76 3 2 s<|.mk fun s=>
 @sLd 77 1 76 false s<|.mk fun s=>
 @sOp (some 78) (xIx 4 (s.τ 77) (.int .i64 1) s.H) s<|.mk fun s=>
 @sLd 79 4 78 true s<|.mk fun s=>
 @sMv 80 1 s<|.mk fun s=>
 @sCall Tryz.prog (.func 89 []) [(s.τ 79),(s.τ 80)] (some 81) s<|.mk fun s=>
 @sMv 75 81 s<|.mk fun s=>
 @sOp (some 82) (xExt (s.τ 75) 0 s.H) s<|.mk fun s=>
 @sOp (some 83) (xExt (s.τ 75) 1 s.H) s<|.mk fun s=>
 @sMv 8 82 s<|.mk fun s=>
 @sMv 9 83 s<|.mk fun s=>
 @sMv 85 9 s<|.mk fun s=>
 @sOp (some 86) (xBin .neq false (s.τ 85) (.int .i64 0) s.H) s<|.mk fun s=>
 @sMv 84 86 s<|.mk fun s=>
 @sIf (s.τ 84) ⟨W89_b10 Φ s⟩ ⟨W89_b21 Φ s⟩
def W89_b26 (Φ:EP) (s:St):Prop:=
 @sFl 68 0 2 s<|.mk fun s=>
 @sLd 69 1 68 false s<|.mk fun s=>
 @sOp (some 70) (xBin .eql false (s.τ 69) (.int .i64 17) s.H) s<|.mk fun s=>
 @sMv 71 70 s<|.mk fun s=>
 @sGm 72 6 71 true s<|.mk fun s=>
 @sGo 73 71 true s (fun s=>(xBin .neq false (s.τ 72) (.int .i64 0) s.H))<|.mk fun s=>
 @sOp (some 74) (xPick (s.τ 71) (s.τ 73) (.bool false) s.H) s<|.mk fun s=>
 @sMv 67 74 s<|.mk fun s=>
 @sIf (s.τ 67) ⟨W89_b9 Φ s⟩ ⟨W89_b23 Φ s⟩
def W89_b29 (Φ:EP) (s:St):Prop:=
 @sFl 60 0 2 s<|.mk fun s=>
 @sLd 61 1 60 false s<|.mk fun s=>
 @sOp (some 62) (xBin .eql false (s.τ 61) (.int .i64 16) s.H) s<|.mk fun s=>
 @sMv 63 62 s<|.mk fun s=>
 @sGm 64 6 63 true s<|.mk fun s=>
 @sGo 65 63 true s (fun s=>(xBin .eql false (s.τ 64) (.int .i64 0) s.H))<|.mk fun s=>
 @sOp (some 66) (xPick (s.τ 63) (s.τ 65) (.bool false) s.H) s<|.mk fun s=>
 @sMv 59 66 s<|.mk fun s=>
 @sIf (s.τ 59) ⟨W89_b8 Φ s⟩ ⟨W89_b26 Φ s⟩
def W89_b30 (Φ:EP) (s:St):Prop:=
 @sFl 54 0 2 s<|.mk fun s=>
 @sLd 55 1 54 false s<|.mk fun s=>
 @sOp (some 56) (xBin .eql false (s.τ 55) (.int .i64 4) s.H) s<|.mk fun s=>
 @sMv 53 56 s<|.mk fun s=>
 @sIf (s.τ 53) ⟨W89_b7 Φ s⟩ ⟨W89_b29 Φ s⟩
def W89_b33 (Φ:EP) (s:St):Prop:=
 @sFl 46 0 2 s<|.mk fun s=>
 @sLd 47 1 46 false s<|.mk fun s=>
 @sOp (some 48) (xBin .eql false (s.τ 47) (.int .i64 4) s.H) s<|.mk fun s=>
 @sMv 49 48 s<|.mk fun s=>
 @sGm 50 6 49 true s<|.mk fun s=>
 @sGo 51 49 true s (fun s=>(xBin .eql false (s.τ 50) (.int .i64 (-9223372036854775808)) s.H))<|.mk fun s=>
 @sOp (some 52) (xPick (s.τ 49) (s.τ 51) (.bool false) s.H) s<|.mk fun s=>
 @sMv 45 52 s<|.mk fun s=>
 @sIf (s.τ 45) ⟨W89_b6 Φ s⟩ ⟨W89_b30 Φ s⟩
def W89_b34 (Φ:EP) (s:St):Prop:=
 @sFl 37 0 2 s<|.mk fun s=>
 @sLd 38 1 37 false s<|.mk fun s=>
 @sOp (some 39) (xBin .eql false (s.τ 38) (.int .i64 3) s.H) s<|.mk fun s=>
 @sMv 36 39 s<|.mk fun s=>
 @sIf (s.τ 36) ⟨W89_b5 Φ s⟩ ⟨W89_b33 Φ s⟩
def W89_b36 (Φ:EP) (s:St):Prop:=
 @sFl 24 3 2 s<|.mk fun s=>
 @sLd 25 1 24 false s<|.mk fun s=>
 @sOp (some 26) (xIx 4 (s.τ 25) (.int .i64 0) s.H) s<|.mk fun s=>
 @sLd 27 4 26 true s<|.mk fun s=>
 @sMv 28 1 s<|.mk fun s=>
 @sCall Tryz.prog (.func 89 []) [(s.τ 27),(s.τ 28)] (some 29) s<|.mk fun s=>
 @sMv 23 29 s<|.mk fun s=>
 @sOp (some 30) (xExt (s.τ 23) 0 s.H) s<|.mk fun s=>
 @sOp (some 31) (xExt (s.τ 23) 1 s.H) s<|.mk fun s=>
 @sMv 6 30 s<|.mk fun s=>
 @sMv 7 31 s<|.mk fun s=>
 @sMv 33 7 s<|.mk fun s=>
 @sOp (some 34) (xBin .neq false (s.τ 33) (.int .i64 0) s.H) s<|.mk fun s=>
 @sMv 32 34 s<|.mk fun s=>
 @sIf (s.τ 32) ⟨W89_b3 Φ s⟩ ⟨W89_b34 Φ s⟩
def W89_b37 (Φ:EP) (s:St):Prop:=
 @sOp (some 17) (xBin .eql false (s.τ 11) (.int .i64 2) s.H) s<|.mk fun s=>
 @sMv 16 17 s<|.mk fun s=>
 @sIf (s.τ 16) ⟨W89_b2 Φ s⟩ ⟨W89_b36 Φ s⟩
def W89 (Φ:EP) (s:St):Prop:=
 @sOp (some 2) (xBox 2 33 (s.τ 0) s.H) s<|.mk fun s=>
 @sOp (some 4) (xMov (.int .i64 0) s.H) s<|.mk fun s=>
 @sOp (some 5) (xMov (.int .i64 0) s.H) s<|.mk fun s=>
 @sFl 10 0 2 s<|.mk fun s=>
 @sLd 11 1 10 false s<|.mk fun s=>
 @sOp (some 13) (xBin .eql false (s.τ 11) (.int .i64 1) s.H) s<|.mk fun s=>
 @sMv 12 13 s<|.mk fun s=>
 @sIf (s.τ 12) ⟨W89_b1 Φ s⟩ ⟨W89_b37 Φ s⟩
theorem W89_rs (τ:Nat → AV) (H:Heap):resV Tryz.prog τ H [.tmp 4,.tmp 5] = ob (ob (some (τ 4)) fun v=>ob (ob (some (τ 5)) fun v=>ob (some []) fun vs=>some (v :: vs)) fun vs=>some (v :: vs)) fun vs=>some (.tup vs):=by kernel_rfl
theorem W89_eq (Φ:EP) (s:St):awp Tryz.prog (Tryz.f89.body.getD .skip) Φ s = W89 Φ s:=by kernel_rfl
theorem W89_S {args:List AV} {r:AV} (hl:args.length ≤ 120) (h:∀ vs,W89 (retK Tryz.prog [.tmp 4,.tmp 5] r) ⟨Am.look (argT 0 args),hls [] vs,noG⟩):Am.Spec Tryz.prog 89 args r:=.of_W (W:=W89) Tryz.func89 (by kernel_rfl) (by kernel_rfl) (by kernel_rfl) Tryz.ntmps89 W89_eq (by kernel_rfl) hl h
-- 90 "penance/penanceref8.stacked"
def W90_k1 (Φ:EP) (s:St):Prop:=
 @sOp (some 68) (xBuild [.int .i64 0,.int .i64 0,.int .i64 0,.str ⟨#[]⟩,.int .i64 0,.int .i64 0,.str ⟨#[]⟩,.nils,.nils] [] s.H) s<|.mk fun s=>
 @sOp none (xStore 9 (s.τ 4) (s.τ 68) s.H) s<|.mk fun s=>
 Φ .ret s
def W90_b3 (Φ:EP) (s:St):Prop:=
 @sMv 11 0 s<|.mk fun s=>
 @sMv 12 0 s<|.mk fun s=>
 @sOp (some 13) (xNil (s.τ 12) s.H) s<|.mk fun s=>
 @sFl 14 10 13 s<|.mk fun s=>
 @sLd 15 1 14 false s<|.mk fun s=>
 @sFl 16 1 3 s<|.mk fun s=>
 @sLd 17 1 16 false s<|.mk fun s=>
 @sFl 18 8 3 s<|.mk fun s=>
 @sLd 19 1 18 false s<|.mk fun s=>
 @sOp (some 20) (xIx 9 (s.τ 19) (.int .i64 0) s.H) s<|.mk fun s=>
 @sLd 21 9 20 true s<|.mk fun s=>
 @sCall0 Tryz.prog (.func 120 []) [(s.τ 15),(s.τ 17),(s.τ 21)] (some 22) s<|.mk fun s=>
 @sOp (some 23) (xNil (s.τ 11) s.H) s<|.mk fun s=>
 @sFl 24 10 23 s<|.mk fun s=>
 @sOp none (xStore 1 (s.τ 24) (s.τ 22) s.H) s<|.mk fun s=>
 W90_k1 Φ s
def W90_b5 (Φ:EP) (s:St):Prop:=
 @sMv 28 0 s<|.mk fun u1=>
 @sOp (some 29) (xNil (u1.τ 28) u1.H) u1<|.mk fun u2=>
 @sFl 30 10 29 u2<|.mk fun u3=>
 @sLd 31 1 30 false u3<|.mk fun u4=>
 @sFl 32 1 3 u4<|.mk fun u5=>
 @sLd 33 1 32 false u5<|.mk fun u6=>
 @sCall0 Tryz.prog (.func 121 []) [(u6.τ 31),(u6.τ 33)] (some 34) u6<|.mk fun u7=>
 @sMv 27 34 u7<|.mk fun u8=>
 @sOp (some 35) (xExt (u8.τ 27) 0 u8.H) u8<|.mk fun u9=>
 @sOp (some 36) (xExt (u9.τ 27) 1 u9.H) u9<|.mk fun u10=>
 @sChk (compat (occ (u1.τ 28),[]) ([5],[5])) <| .mk <|
 @sChk (compat (occ (u2.τ 29),[]) ([5],[5])) <| .mk <|
 @sChk (compat (occ (u3.τ 30),[]) ([5],[5])) <| .mk <|
 @sChk (compat (occ (u4.τ 3),[]) ([5],[5])) <| .mk <|
 @sChk (compat (occ (u5.τ 32),[]) ([5],[5])) <| .mk <|
 @sChk (compat (cfp 34 121 [(u6.τ 31),(u6.τ 33)]) ([5],[5])) <| .mk <|
 @sOp (some 5) (xAlloc 5 35 [.int .i64 0,.int .i64 0,.int .i64 0,.str ⟨#[]⟩,.int .i64 0,.int .i64 0,.str ⟨#[]⟩,.nils,.nils] u10.H) u10<|.mk fun u11=>
 @sOp none (xStore 9 (u11.τ 5) (u11.τ 35) u11.H) u11<|.mk fun u12=>
 @sMv 6 36 u12<|.mk fun s=>
 @sMv 37 0 s<|.mk fun s=>
 @sMv 38 6 s<|.mk fun s=>
 @sOp (some 39) (xNil (s.τ 37) s.H) s<|.mk fun s=>
 @sFl 40 10 39 s<|.mk fun s=>
 @sOp none (xStore 1 (s.τ 40) (s.τ 38) s.H) s<|.mk fun s=>
 @sLd 41 9 5 true s<|.mk fun s=>
 @sOp none (xStore 9 (s.τ 4) (s.τ 41) s.H) s<|.mk fun s=>
 Φ .ret s
def W90_b7 (Φ:EP) (s:St):Prop:=
 @sMv 44 0 s<|.mk fun s=>
 @sMv 45 0 s<|.mk fun s=>
 @sOp (some 46) (xNil (s.τ 45) s.H) s<|.mk fun s=>
 @sFl 47 10 46 s<|.mk fun s=>
 @sLd 48 1 47 false s<|.mk fun s=>
 @sFl 49 1 3 s<|.mk fun s=>
 @sLd 50 1 49 false s<|.mk fun s=>
 @sCall0 Tryz.prog (.func 122 []) [(s.τ 48),(s.τ 50)] (some 51) s<|.mk fun s=>
 @sOp (some 52) (xNil (s.τ 44) s.H) s<|.mk fun s=>
 @sFl 53 10 52 s<|.mk fun s=>
 @sOp none (xStore 1 (s.τ 53) (s.τ 51) s.H) s<|.mk fun s=>
 W90_k1 Φ s
def W90_b9 (Φ:EP) (s:St):Prop:=
 @sMv 56 0 s<|.mk fun s=>
 @sMv 57 0 s<|.mk fun s=>
 @sOp (some 58) (xNil (s.τ 57) s.H) s<|.mk fun s=>
 @sFl 59 10 58 s<|.mk fun s=>
 @sLd 60 1 59 false s<|.mk fun s=>
 @sFl 61 1 3 s<|.mk fun s=>
 @sLd 62 1 61 false s<|.mk fun s=>
 @sFl 63 2 3 s<|.mk fun s=>
 @sLd 64 1 63 false s<|.mk fun s=>
 @sCall0 Tryz.prog (.func 123 []) [(s.τ 60),(s.τ 62),(s.τ 64)] (some 65) s<|.mk fun s=>
 @sOp (some 66) (xNil (s.τ 56) s.H) s<|.mk fun s=>
 @sFl 67 10 66 s<|.mk fun s=>
 @sOp none (xStore 1 (s.τ 67) (s.τ 65) s.H) s<|.mk fun s=>
 W90_k1 Φ s
def W90_b10 (Φ:EP) (s:St):Prop:=
 @sOp (some 55) (xBin .eql false (s.τ 8) (.int .i64 6) s.H) s<|.mk fun s=>
 @sMv 54 55 s<|.mk fun s=>
 @sIf (s.τ 54) ⟨W90_b9 Φ s⟩ ⟨W90_k1 Φ s⟩
def W90_b11 (Φ:EP) (s:St):Prop:=
 @sOp (some 43) (xBin .eql false (s.τ 8) (.int .i64 5) s.H) s<|.mk fun s=>
 @sMv 42 43 s<|.mk fun s=>
 @sIf (s.τ 42) ⟨W90_b7 Φ s⟩ ⟨W90_b10 Φ s⟩
def W90_b12 (Φ:EP) (s:St):Prop:=
 @sOp (some 26) (xBin .eql false (s.τ 8) (.int .i64 4) s.H) s<|.mk fun s=>
 @sMv 25 26 s<|.mk fun s=>
 @sIf (s.τ 25) ⟨W90_b5 Φ s⟩ ⟨W90_b11 Φ s⟩
def W90 (Φ:EP) (s:St):Prop:=
 @sOp (some 3) (xBox 3 35 (s.τ 1) s.H) s<|.mk fun s=>
 @sOp (some 4) (xAlloc 4 35 [.int .i64 0,.int .i64 0,.int .i64 0,.str ⟨#[]⟩,.int .i64 0,.int .i64 0,.str ⟨#[]⟩,.nils,.nils] s.H) s<|.mk fun s=>
 @sFl 7 0 3 s<|.mk fun s=>
 @sLd 8 1 7 false s<|.mk fun s=>
 @sOp (some 10) (xBin .eql false (s.τ 8) (.int .i64 3) s.H) s<|.mk fun s=>
 @sMv 9 10 s<|.mk fun s=>
 @sIf (s.τ 9) ⟨W90_b3 Φ s⟩ ⟨W90_b12 Φ s⟩
theorem W90_rs (τ:Nat → AV) (H:Heap):resV Tryz.prog τ H [.cell 4 35] = rdV H 9 true (τ 4):=by kernel_rfl
theorem W90_eq (Φ:EP) (s:St):awp Tryz.prog (Tryz.f90.body.getD .skip) Φ s = W90 Φ s:=by kernel_rfl
theorem W90_S {args:List AV} {r:AV} (hl:args.length ≤ 69) (h:∀ vs,W90 (retK Tryz.prog [.cell 4 35] r) ⟨Am.look (argT 0 args),hls [] vs,noG⟩):Am.Spec Tryz.prog 90 args r:=.of_W (W:=W90) Tryz.func90 (by kernel_rfl) (by kernel_rfl) (by kernel_rfl) Tryz.ntmps90 W90_eq (by kernel_rfl) hl h
-- 101 "penance/term.ownExpr"
def W101_k2 (Φ:EP) (s:St):Prop:=
 @sMv 23 3 s<|.mk fun s=>
 @sCall Tryz.prog (.func 130 []) [(s.τ 23)] (some 24) s<|.mk fun s=>
 @sFl 25 3 1 s<|.mk fun s=>
 @sOp none (xStore 1 (s.τ 25) (s.τ 24) s.H) s<|.mk fun s=>
 @sLd 26 4 1 true s<|.mk fun s=>
 @sOp none (xStore 4 (s.τ 2) (s.τ 26) s.H) s<|.mk fun s=>
 Φ .ret s
def W101_b4 (Φ:EP) (L0:SP) (s:St):Prop:=
 @sOp (some 15) (xIx 4 (s.τ 11) (s.τ 13) s.H) s<|.mk fun s=>
 @sLd 16 4 15 true s<|.mk fun s=>
 @sOp (some 5) (xAlloc 5 33 [.int .i64 0,.int .i64 0,.str ⟨#[]⟩,.nils] s.H) s<|.mk fun s=>
 @sOp none (xStore 4 (s.τ 5) (s.τ 16) s.H) s<|.mk fun s=>
 @sMv 17 3 s<|.mk fun s=>
 @sLd 18 4 5 true s<|.mk fun s=>
 @sCall Tryz.prog (.func 101 []) [(s.τ 18)] (some 19) s<|.mk fun s=>
 @sOp (some 20) (xLit 4 1 [.int .i64 0,.int .i64 0,.str ⟨#[]⟩,.nils] [(0,(s.τ 19))] s.H) s<|.mk fun s=>
 @sOp (some 21) (xApp Tryz.prog 33 4 56 (some 21) (s.τ 17) (s.τ 20) s.H) s<|.mk fun s=>
 @sMv 3 21 s<|.mk fun s=>
 @sOp (some 22) (xBin .add false (s.τ 13) (.int .i64 1) s.H) s<|.mk fun s=>
 @sMv 13 22 s<|.mk fun s=>
 L0 s
def W101_l5 (Φ:EP) (L0:SP) (s:St):Prop:=
 @sOp (some 14) (xBin .lss false (s.τ 13) (s.τ 12) s.H) s<|.mk fun s=>
 @sIf (s.τ 14) ⟨W101_b4 Φ L0 s⟩ ⟨W101_k2 Φ s⟩
def W101 (Φ:EP) (s:St):Prop:=
 @sOp (some 1) (xBox 1 33 (s.τ 0) s.H) s<|.mk fun s=>
 @sOp (some 2) (xAlloc 2 33 [.int .i64 0,.int .i64 0,.str ⟨#[]⟩,.nils] s.H) s<|.mk fun s=>
 @sFl 6 3 1 s<|.mk fun s=>
 @sLd 7 1 6 false s<|.mk fun s=>
 @sOp (some 8) (xLen (s.τ 7) s.H) s<|.mk fun s=>
 @sOp (some 9) (xMks 9 33 4 56 [.int .i64 0,.int .i64 0,.str ⟨#[]⟩,.nils] (.int .i64 0) (s.τ 8) s.H) s<|.mk fun s=>
 @sMv 3 9 s<|.mk fun s=>
 @sFl 10 3 1 s<|.mk fun s=>
 @sLd 11 1 10 false s<|.mk fun s=>
 @sOp (some 12) (xLen (s.τ 11) s.H) s<|.mk fun s=>
 @sOp (some 13) (xMov (.int .i64 0) s.H) s<|.mk fun s=>
 @sLoop s ⟨fun L0 s=>W101_l5 Φ L0 s⟩
theorem W101_rs (τ:Nat → AV) (H:Heap):resV Tryz.prog τ H [.cell 2 33] = rdV H 4 true (τ 2):=by kernel_rfl
theorem W101_eq (Φ:EP) (s:St):awp Tryz.prog (Tryz.f101.body.getD .skip) Φ s = W101 Φ s:=by kernel_rfl
theorem W101_S {args:List AV} {r:AV} (hl:args.length ≤ 27) (h:∀ vs,W101 (retK Tryz.prog [.cell 2 33] r) ⟨Am.look (argT 0 args),hls [] vs,noG⟩):Am.Spec Tryz.prog 101 args r:=.of_W (W:=W101) Tryz.func101 (by kernel_rfl) (by kernel_rfl) (by kernel_rfl) Tryz.ntmps101 W101_eq (by kernel_rfl) hl h
-- 102 "penance/stacks.mapped[[]penance/api.Term]"
def W102_k2 (Φ:EP) (s:St):Prop:=
 @sMv 22 5 s<|.mk fun s=>
 @sOp (some 23) (xLen (s.τ 22) s.H) s<|.mk fun s=>
 @sMv 8 23 s<|.mk fun s=>
 @sMv 24 5 s<|.mk fun s=>
 @sMv 25 8 s<|.mk fun s=>
 @sMv 26 8 s<|.mk fun s=>
 @sOp (some 27) (xSl3 1 (s.τ 24) (s.τ 25) (s.τ 26) (frz s.H (s.τ 24))) s<|.mk fun s=>
 @sCall Tryz.prog (.func 131 []) [(s.τ 27)] (some 28) s<|.mk fun s=>
 @sMv 4 28 s<|.mk fun s=>
 Φ .ret s
def W102_b4 (Φ:EP) (L0:SP) (s:St):Prop:=
 @sOp (some 13) (xIx 1 (s.τ 9) (s.τ 11) s.H) s<|.mk fun s=>
 @sLd 14 1 13 false s<|.mk fun s=>
 @sMv 7 14 s<|.mk fun s=>
 @sMv 15 5 s<|.mk fun s=>
 @sMv 16 1 s<|.mk fun s=>
 @sMv 17 7 s<|.mk fun s=>
 @sCall Tryz.prog (s.τ 16) [(s.τ 17)] (some 18) s<|.mk fun s=>
 @sLit (some 19) (xLit 1 1 [.nils] [(0,(s.τ 18))] s.H) (xLitR 1 1 [.nils] [(0,(s.τ 18))] s.H) s<|.mk fun s=>
 @sOp (some 20) (xApp Tryz.prog 27 1 24 (some 20) (s.τ 15) (s.τ 19) s.H) s<|.mk fun s=>
 @sMv 5 20 s<|.mk fun s=>
 @sOp (some 21) (xBin .add false (s.τ 11) (.int .i64 1) s.H) s<|.mk fun s=>
 @sMv 11 21 s<|.mk fun s=>
 L0 s
def W102_l5 (Φ:EP) (L0:SP) (s:St):Prop:=
 @sOp (some 12) (xBin .lss false (s.τ 11) (s.τ 10) s.H) s<|.mk fun s=>
 @sIf (s.τ 12) ⟨W102_b4 Φ L0 s⟩ ⟨W102_k2 Φ s⟩
def W102 (Φ:EP) (s:St):Prop:=
 @sOp (some 4) (xMov (.nils) s.H) s<|.mk fun s=>
 @sOp (some 5) (xMov (.nils) s.H) s<|.mk fun s=>
 @sMv 9 0 s<|.mk fun s=>
 @sOp (some 10) (xLen (s.τ 9) s.H) s<|.mk fun s=>
 @sOp (some 11) (xMov (.int .i64 0) s.H) s<|.mk fun s=>
 @sLoop s ⟨fun L0 s=>W102_l5 Φ L0 s⟩
theorem W102_rs (τ:Nat → AV) (H:Heap):resV Tryz.prog τ H [.tmp 4] = some (τ 4):=by kernel_rfl
theorem W102_eq (Φ:EP) (s:St):awp Tryz.prog (Tryz.f102.body.getD .skip) Φ s = W102 Φ s:=by kernel_rfl
theorem W102_S {args:List AV} {r:AV} (hl:args.length ≤ 29) (h:∀ vs,W102 (retK Tryz.prog [.tmp 4] r) ⟨Am.look (argT 0 args),hls [] vs,noG⟩):Am.Spec Tryz.prog 102 args r:=.of_W (W:=W102) Tryz.func102 (by kernel_rfl) (by kernel_rfl) (by kernel_rfl) Tryz.ntmps102 W102_eq (by kernel_rfl) hl h
-- 103 "penance/stacks.own$1"
def W103 (Φ:EP) (s:St):Prop:=
 @sOp (some 2) (xMov (.nils) s.H) s<|.mk fun s=>
 @sMv 3 0 s<|.mk fun s=>
 @sCall Tryz.prog (.func 104 []) [(s.τ 3),(.func 88 [])] (some 4) s<|.mk fun s=>
 @sMv 2 4 s<|.mk fun s=>
 Φ .ret s
theorem W103_rs (τ:Nat → AV) (H:Heap):resV Tryz.prog τ H [.tmp 2] = some (τ 2):=by kernel_rfl
theorem W103_eq (Φ:EP) (s:St):awp Tryz.prog (Tryz.f103.body.getD .skip) Φ s = W103 Φ s:=by kernel_rfl
theorem W103_S {args:List AV} {r:AV} (hl:args.length ≤ 5) (h:∀ vs,W103 (retK Tryz.prog [.tmp 2] r) ⟨Am.look (argT 0 args),hls [] vs,noG⟩):Am.Spec Tryz.prog 103 args r:=.of_W (W:=W103) Tryz.func103 (by kernel_rfl) (by kernel_rfl) (by kernel_rfl) Tryz.ntmps103 W103_eq (by kernel_rfl) hl h
-- 104 "penance/stacks.mapped[penance/api.Term]"
def W104_k2 (Φ:EP) (s:St):Prop:=
 @sMv 22 5 s<|.mk fun s=>
 @sOp (some 23) (xLen (s.τ 22) s.H) s<|.mk fun s=>
 @sMv 8 23 s<|.mk fun s=>
 @sMv 24 5 s<|.mk fun s=>
 @sMv 25 8 s<|.mk fun s=>
 @sMv 26 8 s<|.mk fun s=>
 @sOp (some 27) (xSl3 9 (s.τ 24) (s.τ 25) (s.τ 26) (frz s.H (s.τ 24))) s<|.mk fun s=>
 @sCall Tryz.prog (.func 82 []) [(s.τ 27)] (some 28) s<|.mk fun s=>
 @sMv 4 28 s<|.mk fun s=>
 Φ .ret s
def W104_b4 (Φ:EP) (L0:SP) (s:St):Prop:=
 @sOp (some 13) (xIx 9 (s.τ 9) (s.τ 11) s.H) s<|.mk fun s=>
 @sLd 14 9 13 true s<|.mk fun s=>
 @sOp (some 7) (xAlloc 7 35 [.int .i64 0,.int .i64 0,.int .i64 0,.str ⟨#[]⟩,.int .i64 0,.int .i64 0,.str ⟨#[]⟩,.nils,.nils] s.H) s<|.mk fun s=>
 @sOp none (xStore 9 (s.τ 7) (s.τ 14) s.H) s<|.mk fun s=>
 @sMv 15 5 s<|.mk fun s=>
 @sMv 16 1 s<|.mk fun s=>
 @sLd 17 9 7 true s<|.mk fun s=>
 @sCall Tryz.prog (s.τ 16) [(s.τ 17)] (some 18) s<|.mk fun s=>
 @sOp (some 19) (xLit 9 1 [.int .i64 0,.int .i64 0,.int .i64 0,.str ⟨#[]⟩,.int .i64 0,.int .i64 0,.str ⟨#[]⟩,.nils,.nils] [(0,(s.τ 18))] s.H) s<|.mk fun s=>
 @sOp (some 20) (xApp Tryz.prog 35 9 120 (some 20) (s.τ 15) (s.τ 19) s.H) s<|.mk fun s=>
 @sMv 5 20 s<|.mk fun s=>
 @sOp (some 21) (xBin .add false (s.τ 11) (.int .i64 1) s.H) s<|.mk fun s=>
 @sMv 11 21 s<|.mk fun s=>
 L0 s
def W104_l5 (Φ:EP) (L0:SP) (s:St):Prop:=
 @sOp (some 12) (xBin .lss false (s.τ 11) (s.τ 10) s.H) s<|.mk fun s=>
 @sIf (s.τ 12) ⟨W104_b4 Φ L0 s⟩ ⟨W104_k2 Φ s⟩
def W104 (Φ:EP) (s:St):Prop:=
 @sOp (some 4) (xMov (.nils) s.H) s<|.mk fun s=>
 @sOp (some 5) (xMov (.nils) s.H) s<|.mk fun s=>
 @sMv 9 0 s<|.mk fun s=>
 @sOp (some 10) (xLen (s.τ 9) s.H) s<|.mk fun s=>
 @sOp (some 11) (xMov (.int .i64 0) s.H) s<|.mk fun s=>
 @sLoop s ⟨fun L0 s=>W104_l5 Φ L0 s⟩
theorem W104_rs (τ:Nat → AV) (H:Heap):resV Tryz.prog τ H [.tmp 4] = some (τ 4):=by kernel_rfl
theorem W104_eq (Φ:EP) (s:St):awp Tryz.prog (Tryz.f104.body.getD .skip) Φ s = W104 Φ s:=by kernel_rfl
theorem W104_S {args:List AV} {r:AV} (hl:args.length ≤ 29) (h:∀ vs,W104 (retK Tryz.prog [.tmp 4] r) ⟨Am.look (argT 0 args),hls [] vs,noG⟩):Am.Spec Tryz.prog 104 args r:=.of_W (W:=W104) Tryz.func104 (by kernel_rfl) (by kernel_rfl) (by kernel_rfl) Tryz.ntmps104 W104_eq (by kernel_rfl) hl h
-- 105 "penance/run.nodes$1"
def W105 (Φ:EP) (s:St):Prop:=
 @sLd 3 9 1 true s<|.mk fun s=>
 @sMv 4 0 s<|.mk fun s=>
 @sCall Tryz.prog (.func 106 []) [(s.τ 3),(s.τ 4)] (some 5) s<|.mk fun s=>
 Φ .normal s
theorem W105_rs (τ:Nat → AV) (H:Heap):resV Tryz.prog τ H [] = ob (some []) fun vs=>some (.tup vs):=by kernel_rfl
theorem W105_eq (Φ:EP) (s:St):awp Tryz.prog (Tryz.f105.body.getD .skip) Φ s = W105 Φ s:=by kernel_rfl
theorem W105_S {args:List AV} {r:AV} (hl:args.length ≤ 6) (h:∀ vs,W105 (retK Tryz.prog [] r) ⟨Am.look (argT 0 args),hls [] vs,noG⟩):Am.Spec Tryz.prog 105 args r:=.of_W (W:=W105) Tryz.func105 (by kernel_rfl) (by kernel_rfl) (by kernel_rfl) Tryz.ntmps105 W105_eq (by kernel_rfl) hl h
-- 106 "penance/run.walk"
def W106_b1 (Φ:EP) (s:St):Prop:=
 @sOp (some 4) (xMov (.bool false) s.H) s<|.mk fun s=>
 Φ .ret s
def W106_k2 (Φ:EP) (s:St):Prop:=
 @sOp (some 4) (xMov (.bool true) s.H) s<|.mk fun s=>
 Φ .ret s
def W106_b3 (Φ:EP) (L0:SP) (s:St):Prop:=
 @sOp (some 4) (xMov (.bool false) s.H) s<|.mk fun s=>
 Φ .ret s
def W106_b4 (Φ:EP) (L0:SP) (s:St):Prop:=
 @sOp (some 22) (xBin .add false (s.τ 14) (.int .i64 1) s.H) s<|.mk fun s=>
 @sMv 14 22 s<|.mk fun s=>
 L0 s
def W106_b6 (Φ:EP) (L0:SP) (s:St):Prop:=
 @sOp (some 16) (xIx 9 (s.τ 12) (s.τ 14) s.H) s<|.mk fun s=>
 @sLd 17 9 16 true s<|.mk fun s=>
 @sOp (some 6) (xAlloc 6 35 [.int .i64 0,.int .i64 0,.int .i64 0,.str ⟨#[]⟩,.int .i64 0,.int .i64 0,.str ⟨#[]⟩,.nils,.nils] s.H) s<|.mk fun s=>
 @sOp none (xStore 9 (s.τ 6) (s.τ 17) s.H) s<|.mk fun s=>
 @sLd 18 9 6 true s<|.mk fun s=>
 @sMv 19 1 s<|.mk fun s=>
 @sCall Tryz.prog (.func 106 []) [(s.τ 18),(s.τ 19)] (some 20) s<|.mk fun s=>
 @sOp (some 21) (xNot (s.τ 20) s.H) s<|.mk fun s=>
 @sIf (s.τ 21) ⟨W106_b3 Φ L0 s⟩ ⟨W106_b4 Φ L0 s⟩
def W106_l7 (Φ:EP) (L0:SP) (s:St):Prop:=
 @sOp (some 15) (xBin .lss false (s.τ 14) (s.τ 13) s.H) s<|.mk fun s=>
 @sIf (s.τ 15) ⟨W106_b6 Φ L0 s⟩ ⟨W106_k2 Φ s⟩
def W106_b8 (Φ:EP) (s:St):Prop:=
 @sFl 11 8 2 s<|.mk fun s=>
 @sLd 12 1 11 false s<|.mk fun s=>
 @sOp (some 13) (xLen (s.τ 12) s.H) s<|.mk fun s=>
 @sOp (some 14) (xMov (.int .i64 0) s.H) s<|.mk fun s=>
 @sLoop s ⟨fun L0 s=>W106_l7 Φ L0 s⟩
def W106 (Φ:EP) (s:St):Prop:=
 @sOp (some 2) (xBox 2 35 (s.τ 0) s.H) s<|.mk fun s=>
 @sOp (some 4) (xMov (.bool false) s.H) s<|.mk fun s=>
 @sMv 7 1 s<|.mk fun s=>
 @sLd 8 9 2 true s<|.mk fun s=>
 @sCall Tryz.prog (s.τ 7) [(s.τ 8)] (some 9) s<|.mk fun s=>
 @sOp (some 10) (xNot (s.τ 9) s.H) s<|.mk fun s=>
 @sIf (s.τ 10) ⟨W106_b1 Φ s⟩ ⟨W106_b8 Φ s⟩
theorem W106_rs (τ:Nat → AV) (H:Heap):resV Tryz.prog τ H [.tmp 4] = some (τ 4):=by kernel_rfl
theorem W106_eq (Φ:EP) (s:St):awp Tryz.prog (Tryz.f106.body.getD .skip) Φ s = W106 Φ s:=by kernel_rfl
theorem W106_S {args:List AV} {r:AV} (hl:args.length ≤ 23) (h:∀ vs,W106 (retK Tryz.prog [.tmp 4] r) ⟨Am.look (argT 0 args),hls [] vs,noG⟩):Am.Spec Tryz.prog 106 args r:=.of_W (W:=W106) Tryz.func106 (by kernel_rfl) (by kernel_rfl) (by kernel_rfl) Tryz.ntmps106 W106_eq (by kernel_rfl) hl h
-- 107 "penance/term.shapes"
def W107 (Φ:EP) (s:St):Prop:=
 @sOp (some 0) (xMov (.nils) s.H) s<|.mk fun s=>
 @sOp (some 1) (xBuild [.int .i64 0,.int .i64 0,.bool false,.bool false,.int .i64 0] [] s.H) s<|.mk fun s=>
 @sOp (some 2) (xBuild [.int .i64 0,.int .i64 0,.bool false,.bool false,.int .i64 0] [(0,1,(.int .i64 2)),(2,1,(.bool true))] s.H) s<|.mk fun s=>
 @sOp (some 3) (xBuild [.int .i64 0,.int .i64 0,.bool false,.bool false,.int .i64 0] [(0,1,(.int .i64 1)),(3,1,(.bool true))] s.H) s<|.mk fun s=>
 @sOp (some 4) (xBuild [.int .i64 0,.int .i64 0,.bool false,.bool false,.int .i64 0] [(0,1,(.int .i64 3)),(4,1,(.int .i64 1))] s.H) s<|.mk fun s=>
 @sOp (some 5) (xBuild [.int .i64 0,.int .i64 0,.bool false,.bool false,.int .i64 0] [(0,1,(.int .i64 3))] s.H) s<|.mk fun s=>
 @sOp (some 6) (xBuild [.int .i64 0,.int .i64 0,.bool false,.bool false,.int .i64 0] [(0,1,(.int .i64 3))] s.H) s<|.mk fun s=>
 @sOp (some 7) (xBuild [.int .i64 0,.int .i64 0,.bool false,.bool false,.int .i64 0] [(0,1,(.int .i64 3)),(1,1,(.int .i64 3))] s.H) s<|.mk fun s=>
 @sOp (some 8) (xBuild [.int .i64 0,.int .i64 0,.bool false,.bool false,.int .i64 0] [(4,1,(.int .i64 1))] s.H) s<|.mk fun s=>
 @sOp (some 9) (xBuild [.int .i64 0,.int .i64 0,.bool false,.bool false,.int .i64 0] [] s.H) s<|.mk fun s=>
 @sOp (some 10) (xBuild [.int .i64 0,.int .i64 0,.bool false,.bool false,.int .i64 0] [(3,1,(.bool true)),(4,1,(.int .i64 2))] s.H) s<|.mk fun s=>
 @sOp (some 11) (xBuild [.int .i64 0,.int .i64 0,.bool false,.bool false,.int .i64 0] [(4,1,(.int .i64 2))] s.H) s<|.mk fun s=>
 @sOp (some 12) (xBuild [.int .i64 0,.int .i64 0,.bool false,.bool false,.int .i64 0] [(4,1,(.int .i64 2))] s.H) s<|.mk fun s=>
 @sOp (some 13) (xBuild [.int .i64 0,.int .i64 0,.bool false,.bool false,.int .i64 0] [(4,1,(.int .i64 2))] s.H) s<|.mk fun s=>
 @sOp (some 14) (xBuild [.int .i64 0,.int .i64 0,.bool false,.bool false,.int .i64 0] [(0,1,(.int .i64 4))] s.H) s<|.mk fun s=>
 @sOp (some 15) (xBuild [.int .i64 0,.int .i64 0,.bool false,.bool false,.int .i64 0] [(0,1,(.int .i64 5)),(1,1,(.int .i64 2)),(2,1,(.bool true))] s.H) s<|.mk fun s=>
 @sOp (some 16) (xLit 5 15 [.int .i64 0,.int .i64 0,.bool false,.bool false,.int .i64 0] [(0,(s.τ 1)),(1,(s.τ 2)),(2,(s.τ 3)),(3,(s.τ 4)),(4,(s.τ 5)),(5,(s.τ 6)),(6,(s.τ 7)),(7,(s.τ 8)),(8,(s.τ 9)),(9,(s.τ 10)),(10,(s.τ 11)),(11,(s.τ 12)),(12,(s.τ 13)),(13,(s.τ 14)),(14,(s.τ 15))] s.H) s<|.mk fun s=>
 @sMv 0 16 s<|.mk fun s=>
 Φ .ret s
theorem W107_rs (τ:Nat → AV) (H:Heap):resV Tryz.prog τ H [.tmp 0] = some (τ 0):=by kernel_rfl
theorem W107_eq (Φ:EP) (s:St):awp Tryz.prog (Tryz.f107.body.getD .skip) Φ s = W107 Φ s:=by kernel_rfl
theorem W107_S {args:List AV} {r:AV} (hl:args.length ≤ 17) (h:∀ vs,W107 (retK Tryz.prog [.tmp 0] r) ⟨Am.look (argT 0 args),hls [] vs,noG⟩):Am.Spec Tryz.prog 107 args r:=.of_W (W:=W107) Tryz.func107 (by kernel_rfl) (by kernel_rfl) (by kernel_rfl) Tryz.ntmps107 W107_eq (by kernel_rfl) hl h
-- 108 "(penance/term.bounds).number"
def W108_b5 (Φ:EP) (s:St):Prop:=
 @sMv 10 2 s<|.mk fun s=>
 @sOp (some 11) (xBin .geq false (s.τ 10) (.int .i64 0) s.H) s<|.mk fun s=>
 @sMv 12 11 s<|.mk fun s=>
 @sGm 13 2 12 true s<|.mk fun s=>
 @sGf 14 0 3 12 true s<|.mk fun s=>
 @sGl 15 1 14 12 false true s<|.mk fun s=>
 @sGo 16 12 true s (fun s=>(xBin .lss false (s.τ 13) (s.τ 15) s.H))<|.mk fun s=>
 @sOp (some 17) (xPick (s.τ 12) (s.τ 16) (.bool false) s.H) s<|.mk fun s=>
 @sMv 6 17 s<|.mk fun s=>
 Φ .ret s
def W108_b10 (Φ:EP) (s:St):Prop:=
 @sMv 20 2 s<|.mk fun s=>
 @sOp (some 21) (xBin .geq false (s.τ 20) (.int .i64 (-1)) s.H) s<|.mk fun s=>
 @sMv 22 21 s<|.mk fun s=>
 @sGm 23 2 22 true s<|.mk fun s=>
 @sGf 24 0 3 22 true s<|.mk fun s=>
 @sGl 25 1 24 22 false true s<|.mk fun s=>
 @sGo 26 22 true s (fun s=>(xBin .lss false (s.τ 23) (s.τ 25) s.H))<|.mk fun s=>
 @sOp (some 27) (xPick (s.τ 22) (s.τ 26) (.bool false) s.H) s<|.mk fun s=>
 @sMv 6 27 s<|.mk fun s=>
 Φ .ret s
def W108_b15 (Φ:EP) (s:St):Prop:=
 @sMv 30 2 s<|.mk fun s=>
 @sOp (some 31) (xBin .geq false (s.τ 30) (.int .i64 0) s.H) s<|.mk fun s=>
 @sMv 32 31 s<|.mk fun s=>
 @sGm 33 2 32 true s<|.mk fun s=>
 @sGf 34 1 3 32 true s<|.mk fun s=>
 @sGl 35 1 34 32 false true s<|.mk fun s=>
 @sGo 36 32 true s (fun s=>(xBin .lss false (s.τ 33) (s.τ 35) s.H))<|.mk fun s=>
 @sOp (some 37) (xPick (s.τ 32) (s.τ 36) (.bool false) s.H) s<|.mk fun s=>
 @sMv 6 37 s<|.mk fun s=>
 Φ .ret s
def W108_b20 (Φ:EP) (s:St):Prop:=
 @sMv 40 2 s<|.mk fun s=>
 @sOp (some 41) (xBin .geq false (s.τ 40) (.int .i64 0) s.H) s<|.mk fun s=>
 @sMv 42 41 s<|.mk fun s=>
 @sGm 43 2 42 true s<|.mk fun s=>
 @sGf 44 2 3 42 true s<|.mk fun s=>
 @sGl 45 1 44 42 false true s<|.mk fun s=>
 @sGo 46 42 true s (fun s=>(xBin .lss false (s.τ 43) (s.τ 45) s.H))<|.mk fun s=>
 @sOp (some 47) (xPick (s.τ 42) (s.τ 46) (.bool false) s.H) s<|.mk fun s=>
 @sMv 6 47 s<|.mk fun s=>
 Φ .ret s
def W108_b21 (Φ:EP) (s:St):Prop:=
 @sMv 50 2 s<|.mk fun s=>
 @sOp (some 51) (xBin .geq false (s.τ 50) (.int .i64 0) s.H) s<|.mk fun s=>
 @sMv 6 51 s<|.mk fun s=>
 Φ .ret s
def W108_b22 (Φ:EP) (s:St):Prop:=
 @sMv 52 2 s<|.mk fun s=>
 @sOp (some 53) (xBin .eql false (s.τ 52) (.int .i64 0) s.H) s<|.mk fun s=>
 @sMv 6 53 s<|.mk fun s=>
 Φ .ret s
def W108_b23 (Φ:EP) (s:St):Prop:=
 @sOp (some 49) (xBin .eql false (s.τ 7) (.int .i64 5) s.H) s<|.mk fun s=>
 @sMv 48 49 s<|.mk fun s=>
 @sIf (s.τ 48) ⟨W108_b21 Φ s⟩ ⟨W108_b22 Φ s⟩
def W108_b24 (Φ:EP) (s:St):Prop:=
 @sOp (some 39) (xBin .eql false (s.τ 7) (.int .i64 4) s.H) s<|.mk fun s=>
 @sMv 38 39 s<|.mk fun s=>
 @sIf (s.τ 38) ⟨W108_b20 Φ s⟩ ⟨W108_b23 Φ s⟩
def W108_b25 (Φ:EP) (s:St):Prop:=
 @sOp (some 29) (xBin .eql false (s.τ 7) (.int .i64 3) s.H) s<|.mk fun s=>
 @sMv 28 29 s<|.mk fun s=>
 @sIf (s.τ 28) ⟨W108_b15 Φ s⟩ ⟨W108_b24 Φ s⟩
def W108_b26 (Φ:EP) (s:St):Prop:=
 @sOp (some 19) (xBin .eql false (s.τ 7) (.int .i64 2) s.H) s<|.mk fun s=>
 @sMv 18 19 s<|.mk fun s=>
 @sIf (s.τ 18) ⟨W108_b10 Φ s⟩ ⟨W108_b25 Φ s⟩
def W108 (Φ:EP) (s:St):Prop:=
 @sOp (some 3) (xBox 3 133 (s.τ 0) s.H) s<|.mk fun s=>
 @sOp (some 6) (xMov (.bool false) s.H) s<|.mk fun s=>
 @sMv 7 1 s<|.mk fun s=>
 @sOp (some 9) (xBin .eql false (s.τ 7) (.int .i64 1) s.H) s<|.mk fun s=>
 @sMv 8 9 s<|.mk fun s=>
 @sIf (s.τ 8) ⟨W108_b5 Φ s⟩ ⟨W108_b26 Φ s⟩
theorem W108_rs (τ:Nat → AV) (H:Heap):resV Tryz.prog τ H [.tmp 6] = some (τ 6):=by kernel_rfl
theorem W108_eq (Φ:EP) (s:St):awp Tryz.prog (Tryz.f108.body.getD .skip) Φ s = W108 Φ s:=by kernel_rfl
theorem W108_S {args:List AV} {r:AV} (hl:args.length ≤ 54) (h:∀ vs,W108 (retK Tryz.prog [.tmp 6] r) ⟨Am.look (argT 0 args),hls [] vs,noG⟩):Am.Spec Tryz.prog 108 args r:=.of_W (W:=W108) Tryz.func108 (by kernel_rfl) (by kernel_rfl) (by kernel_rfl) Tryz.ntmps108 W108_eq (by kernel_rfl) hl h
end Go.Proofs.YtnngddgaobhkiaaGreat
set_option linter.unusedVariables false
set_option maxRecDepth 100000
namespace Go.Proofs.YtnngddgaobhkiaaGreat
open Go Go.Am
-- 109 "penance/term.none"
def W109 (Φ:EP) (s:St):Prop:=
 @sOp (some 1) (xBox 1 33 (s.τ 0) s.H) s<|.mk fun s=>
 @sOp (some 2) (xMov (.bool false) s.H) s<|.mk fun s=>
 @sFl 3 0 1 s<|.mk fun s=>
 @sLd 4 1 3 false s<|.mk fun s=>
 @sOp (some 5) (xBin .eql false (s.τ 4) (.int .i64 0) s.H) s<|.mk fun s=>
 @sMv 6 5 s<|.mk fun s=>
 @sGf 7 1 1 6 true s<|.mk fun s=>
 @sGl 8 1 7 6 false true s<|.mk fun s=>
 @sGo 9 6 true s (fun s=>(xBin .eql false (s.τ 8) (.int .i64 0) s.H))<|.mk fun s=>
 @sOp (some 10) (xPick (s.τ 6) (s.τ 9) (.bool false) s.H) s<|.mk fun s=>
 @sMv 11 10 s<|.mk fun s=>
 @sGf 12 2 1 11 true s<|.mk fun s=>
 @sGl 13 1 12 11 false true s<|.mk fun s=>
 @sGo 14 11 true s (fun s=>(xBin .eql false (s.τ 13) (.str ⟨#[]⟩) s.H))<|.mk fun s=>
 @sOp (some 15) (xPick (s.τ 11) (s.τ 14) (.bool false) s.H) s<|.mk fun s=>
 @sMv 16 15 s<|.mk fun s=>
 @sGf 17 3 1 16 true s<|.mk fun s=>
 @sGl 18 1 17 16 false true s<|.mk fun s=>
 @sGo 19 16 true s (fun s=>(xLen (s.τ 18) s.H))<|.mk fun s=>
 @sGo 20 16 true s (fun s=>(xBin .eql false (s.τ 19) (.int .i64 0) s.H))<|.mk fun s=>
 @sOp (some 21) (xPick (s.τ 16) (s.τ 20) (.bool false) s.H) s<|.mk fun s=>
 @sMv 2 21 s<|.mk fun s=>
 Φ .ret s
theorem W109_rs (τ:Nat → AV) (H:Heap):resV Tryz.prog τ H [.tmp 2] = some (τ 2):=by kernel_rfl
theorem W109_eq (Φ:EP) (s:St):awp Tryz.prog (Tryz.f109.body.getD .skip) Φ s = W109 Φ s:=by kernel_rfl
theorem W109_S {args:List AV} {r:AV} (hl:args.length ≤ 22) (h:∀ vs,W109 (retK Tryz.prog [.tmp 2] r) ⟨Am.look (argT 0 args),hls [] vs,noG⟩):Am.Spec Tryz.prog 109 args r:=.of_W (W:=W109) Tryz.func109 (by kernel_rfl) (by kernel_rfl) (by kernel_rfl) Tryz.ntmps109 W109_eq (by kernel_rfl) hl h
-- 110 "penance/lex.Name"
def W110_b1 (Φ:EP) (s:St):Prop:=
 @sOp (some 2) (xMov (.bool false) s.H) s<|.mk fun s=>
 Φ .ret s
def W110_k2 (Φ:EP) (s:St):Prop:=
 @sOp (some 2) (xMov (.bool true) s.H) s<|.mk fun s=>
 Φ .ret s
def W110_b3 (Φ:EP) (L0:SP) (s:St):Prop:=
 @sOp (some 2) (xMov (.bool false) s.H) s<|.mk fun s=>
 Φ .ret s
def W110_b16 (Φ:EP) (L0:SP) (s:St):Prop:=
 @sOp (some 21) (xExt (s.τ 19) 1 s.H) s<|.mk fun s=>
 @sOp (some 22) (xExt (s.τ 19) 2 s.H) s<|.mk fun s=>
 @sMv 3 21 s<|.mk fun s=>
 @sMv 4 22 s<|.mk fun s=>
 @sMv 23 4 s<|.mk fun s=>
 @sOp (some 24) (xBin .gtr false (s.τ 23) (.int .i32 127) s.H) s<|.mk fun s=>
 @sMv 25 24 s<|.mk fun s=>
 @sGm 26 3 25 false s<|.mk fun s=>
 @sGo 27 25 false s (fun s=>(xBin .eql false (s.τ 26) (.int .i64 0) s.H))<|.mk fun s=>
 @sGm 28 27 25 false s<|.mk fun s=>
 @sGm 29 4 28 true s<|.mk fun s=>
 @sGo 30 28 true s (fun s=>(xConv .u8 (s.τ 29) s.H))<|.mk fun s=>
 @sGrd (guardOf (s.τ 28) true) (some 31) s ⟨fun s K=>@sCall Tryz.prog (.func 133 []) [(s.τ 30)] (some 31) s ⟨K⟩⟩<|.mk fun s=>
 @sGo 32 28 true s (fun s=>(xNot (s.τ 31) s.H))<|.mk fun s=>
 @sGo 33 25 false s (fun s=>(xPick (s.τ 28) (s.τ 32) (.bool false) s.H))<|.mk fun s=>
 @sOp (some 34) (xPick (s.τ 25) (.bool true) (s.τ 33) s.H) s<|.mk fun s=>
 @sMv 35 34 s<|.mk fun s=>
 @sGm 36 4 35 false s<|.mk fun s=>
 @sGo 37 35 false s (fun s=>(xConv .u8 (s.τ 36) s.H))<|.mk fun s=>
 @sGrd (guardOf (s.τ 35) false) (some 38) s ⟨fun s K=>@sCall Tryz.prog (.func 134 []) [(s.τ 37)] (some 38) s ⟨K⟩⟩<|.mk fun s=>
 @sGo 39 35 false s (fun s=>(xNot (s.τ 38) s.H))<|.mk fun s=>
 @sOp (some 40) (xPick (s.τ 35) (.bool true) (s.τ 39) s.H) s<|.mk fun s=>
 @sIf (s.τ 40) ⟨W110_b3 Φ L0 s⟩ ⟨L0 s⟩
def W110_l17 (Φ:EP) (L0:SP) (s:St):Prop:=
 @sOp (some 19) (xNxt (s.τ 18) s.H) s<|.mk fun s=>
 @sOp (some 20) (xExt (s.τ 19) 0 s.H) s<|.mk fun s=>
 @sIf (s.τ 20) ⟨W110_b16 Φ L0 s⟩ ⟨W110_k2 Φ s⟩
def W110_b18 (Φ:EP) (s:St):Prop:=
 @sMv 17 0 s<|.mk fun s=>
 @sOp (some 18) (xRng 18 (s.τ 17) s.H) s<|.mk fun s=>
 @sLoop s ⟨fun L0 s=>W110_l17 Φ L0 s⟩
def W110 (Φ:EP) (s:St):Prop:=
 @sOp (some 2) (xMov (.bool false) s.H) s<|.mk fun s=>
 @sMv 5 0 s<|.mk fun s=>
 @sOp (some 6) (xSlen (s.τ 5) s.H) s<|.mk fun s=>
 @sOp (some 7) (xBin .lss false (s.τ 6) (.int .i64 1) s.H) s<|.mk fun s=>
 @sMv 8 7 s<|.mk fun s=>
 @sGm 9 0 8 false s<|.mk fun s=>
 @sGo 10 8 false s (fun s=>(xSlen (s.τ 9) s.H))<|.mk fun s=>
 @sGo 11 8 false s (fun s=>(xBin .gtr false (s.τ 10) (.int .i64 20) s.H))<|.mk fun s=>
 @sOp (some 12) (xPick (s.τ 8) (.bool true) (s.τ 11) s.H) s<|.mk fun s=>
 @sMv 13 12 s<|.mk fun s=>
 @sGm 14 0 13 false s<|.mk fun s=>
 @sGrd (guardOf (s.τ 13) false) (some 15) s ⟨fun s K=>@sCall Tryz.prog (.func 132 []) [(s.τ 14)] (some 15) s ⟨K⟩⟩<|.mk fun s=>
 @sOp (some 16) (xPick (s.τ 13) (.bool true) (s.τ 15) s.H) s<|.mk fun s=>
 @sIf (s.τ 16) ⟨W110_b1 Φ s⟩ ⟨W110_b18 Φ s⟩
theorem W110_rs (τ:Nat → AV) (H:Heap):resV Tryz.prog τ H [.tmp 2] = some (τ 2):=by kernel_rfl
theorem W110_eq (Φ:EP) (s:St):awp Tryz.prog (Tryz.f110.body.getD .skip) Φ s = W110 Φ s:=by kernel_rfl
theorem W110_S {args:List AV} {r:AV} (hl:args.length ≤ 41) (h:∀ vs,W110 (retK Tryz.prog [.tmp 2] r) ⟨Am.look (argT 0 args),hls [] vs,noG⟩):Am.Spec Tryz.prog 110 args r:=.of_W (W:=W110) Tryz.func110 (by kernel_rfl) (by kernel_rfl) (by kernel_rfl) Tryz.ntmps110 W110_eq (by kernel_rfl) hl h
-- 111 "penance/expr.Right"
def W111_k1 (Φ:EP) (s:St):Prop:=
 @sOp none (xStore 1 (s.τ 4) (.bool true) s.H) s<|.mk fun s=>
 Φ .ret s
def W111_b2 (Φ:EP) (s:St):Prop:=
 @sOp none (xStore 1 (s.τ 4) (.bool false) s.H) s<|.mk fun s=>
 Φ .ret s
def W111_b3 (Φ:EP) (s:St):Prop:=
 @sOp none (xStore 1 (s.τ 4) (.bool false) s.H) s<|.mk fun s=>
 Φ .ret s
def W111_b29 (Φ:EP) (s:St):Prop:=
 @sFl 31 0 5 s<|.mk fun s=>
 @sLd 32 1 31 false s<|.mk fun s=>
 @sOp (some 33) (xBin .eql false (s.τ 32) (.int .i64 1) s.H) s<|.mk fun s=>
 @sMv 34 33 s<|.mk fun s=>
 @sGf 35 1 5 34 true s<|.mk fun s=>
 @sGl 36 1 35 34 false true s<|.mk fun s=>
 @sGo 37 34 true s (fun s=>(xBin .lss false (s.τ 36) (.int .i64 0) s.H))<|.mk fun s=>
 @sOp (some 38) (xPick (s.τ 34) (s.τ 37) (.bool false) s.H) s<|.mk fun s=>
 @sMv 39 38 s<|.mk fun s=>
 @sGf 40 0 5 39 false s<|.mk fun s=>
 @sGl 41 1 40 39 false false s<|.mk fun s=>
 @sGo 42 39 false s (fun s=>(xBin .eql false (s.τ 41) (.int .i64 2) s.H))<|.mk fun s=>
 @sGm 43 42 39 false s<|.mk fun s=>
 @sGf 44 1 5 43 true s<|.mk fun s=>
 @sGl 45 1 44 43 false true s<|.mk fun s=>
 @sGo 46 43 true s (fun s=>(xBin .lss false (s.τ 45) (.int .i64 0) s.H))<|.mk fun s=>
 @sGm 47 46 43 true s<|.mk fun s=>
 @sGf 48 1 5 47 false s<|.mk fun s=>
 @sGl 49 1 48 47 false false s<|.mk fun s=>
 @sGl 50 1 3 47 false false s<|.mk fun s=>
 @sGo 51 47 false s (fun s=>(xBin .geq false (s.τ 49) (s.τ 50) s.H))<|.mk fun s=>
 @sGo 52 43 true s (fun s=>(xPick (s.τ 47) (.bool true) (s.τ 51) s.H))<|.mk fun s=>
 @sGo 53 39 false s (fun s=>(xPick (s.τ 43) (s.τ 52) (.bool false) s.H))<|.mk fun s=>
 @sOp (some 54) (xPick (s.τ 39) (.bool true) (s.τ 53) s.H) s<|.mk fun s=>
 @sMv 55 54 s<|.mk fun s=>
 @sGf 56 0 5 55 false s<|.mk fun s=>
 @sGl 57 1 56 55 false false s<|.mk fun s=>
 @sGo 58 55 false s (fun s=>(xBin .gtr false (s.τ 57) (.int .i64 2) s.H))<|.mk fun s=>
 @sGm 59 58 55 false s<|.mk fun s=>
 @sGf 60 1 5 59 true s<|.mk fun s=>
 @sGl 61 1 60 59 false true s<|.mk fun s=>
 @sGo 62 59 true s (fun s=>(xBin .neq false (s.τ 61) (.int .i64 0) s.H))<|.mk fun s=>
 @sGo 63 55 false s (fun s=>(xPick (s.τ 59) (s.τ 62) (.bool false) s.H))<|.mk fun s=>
 @sOp (some 64) (xPick (s.τ 55) (.bool true) (s.τ 63) s.H) s<|.mk fun s=>
 @sIf (s.τ 64) ⟨W111_b3 Φ s⟩ ⟨Φ .normal s⟩
def W111_r43 (Φ:EP) (s:St):Prop:=
 @sOp (some 5) (xAlloc 5 33 [.int .i64 0,.int .i64 0,.str ⟨#[]⟩,.nils] s.H) s<|.mk fun s=>
 @sOp none (xStore 4 (s.τ 5) (s.τ 8) s.H) s<|.mk fun s=>
 @sFl 9 0 5 s<|.mk fun u1=>
 @sLd 10 1 9 false u1<|.mk fun u2=>
 @sOp (some 11) (xBin .lss false (u2.τ 10) (.int .i64 1) u2.H) u2<|.mk fun u3=>
 @sMv 12 11 u3<|.mk fun u4=>
 @sGf 13 0 5 12 false u4<|.mk fun u5=>
 @sGl 14 1 13 12 false false u5<|.mk fun u6=>
 @sGo 15 12 false u6 (fun s=>(xBin .gtr false (s.τ 14) (.int .i64 17) s.H))<|.mk fun u7=>
 @sOp (some 16) (xPick (u7.τ 12) (.bool true) (u7.τ 15) u7.H) u7<|.mk fun u8=>
 @sMv 17 16 u8<|.mk fun u9=>
 @sGf 18 2 5 17 false u9<|.mk fun u10=>
 @sGl 19 1 18 17 false false u10<|.mk fun u11=>
 @sGo 20 17 false u11 (fun s=>(xBin .neq false (s.τ 19) (.str ⟨#[]⟩) s.H))<|.mk fun u12=>
 @sOp (some 21) (xPick (u12.τ 17) (.bool true) (u12.τ 20) u12.H) u12<|.mk fun u13=>
 @sMv 22 21 u13<|.mk fun u14=>
 @sGf 23 3 5 22 false u14<|.mk fun u15=>
 @sGl 24 1 23 22 false false u15<|.mk fun u16=>
 @sGo 25 22 false u16 (fun s=>(xLen (s.τ 24) s.H))<|.mk fun u17=>
 @sGf 26 0 5 22 false u17<|.mk fun u18=>
 @sGl 27 1 26 22 false false u18<|.mk fun u19=>
 @sChk (compat (occ (u14.τ 5),[]) (cfp 28 136 [(u19.τ 27)])) <| .mk <|
 @sChk (compat (occ (u15.τ 23),[]) (cfp 28 136 [(u19.τ 27)])) <| .mk <|
 @sChk (compat (occ (u16.τ 24),[]) (cfp 28 136 [(u19.τ 27)])) <| .mk <|
 @sGrd (guardOf (u19.τ 22) false) (some 28) u19 ⟨fun s K=>@sCall0 Tryz.prog (.func 136 []) [(s.τ 27)] (some 28) s ⟨K⟩⟩<|.mk fun u20=>
 @sGo 29 22 false u20 (fun s=>(xBin .neq false (s.τ 25) (s.τ 28) s.H))<|.mk fun u21=>
 @sOp (some 30) (xPick (u21.τ 22) (.bool true) (u21.τ 29) u21.H) u21<|.mk fun s=>
 @sIf (s.τ 30) ⟨W111_b2 Φ s⟩ ⟨W111_b29 Φ s⟩
def W111 (Φ:EP) (s:St):Prop:=
 @sOp (some 2) (xBox 2 33 (s.τ 0) s.H) s<|.mk fun s=>
 @sOp (some 3) (xBox 3 3 (s.τ 1) s.H) s<|.mk fun s=>
 @sOp (some 4) (xAlloc 4 4 [.bool false] s.H) s<|.mk fun s=>
 @sLd 6 4 2 true s<|.mk fun s=>
 @sCall Tryz.prog (.func 135 []) [(s.τ 6)] (some 7) s<|.mk fun s=>
 @sRange Tryz.prog (s.τ 7) [8] s ⟨fun Φ s=>W111_r43 Φ s⟩ ⟨(blkK 0 (thenK (W111_k1 Φ) Φ))⟩
theorem W111_rs (τ:Nat → AV) (H:Heap):resV Tryz.prog τ H [.cell 4 4] = rdV H 1 false (τ 4):=by kernel_rfl
theorem W111_eq (Φ:EP) (s:St):awp Tryz.prog (Tryz.f111.body.getD .skip) Φ s = W111 Φ s:=by kernel_rfl
theorem W111_S {args:List AV} {r:AV} (hl:args.length ≤ 65) (h:∀ vs,W111 (retK Tryz.prog [.cell 4 4] r) ⟨Am.look (argT 0 args),hls [] vs,noG⟩):Am.Spec Tryz.prog 111 args r:=.of_W (W:=W111) Tryz.func111 (by kernel_rfl) (by kernel_rfl) (by kernel_rfl) Tryz.ntmps111 W111_eq (by kernel_rfl) hl h
-- 112 "penance/steps.places$1"
def W112 (Φ:EP) (s:St):Prop:=
 @sLd 3 9 1 true s<|.mk fun u1=>
 @sLd 4 9 1 true u1<|.mk fun u2=>
 @sChk (compat (occ (s.τ 1),[]) (cfp 5 114 [(u2.τ 4)])) <| .mk <|
 @sCall0 Tryz.prog (.func 114 []) [(u2.τ 4)] (some 5) u2<|.mk fun u3=>
 @sOp (some 6) (xLen (u3.τ 5) u3.H) u3<|.mk fun u4=>
 @sOp (some 7) (xBin .gtr false (u4.τ 6) (.int .i64 0) u4.H) u4<|.mk fun u5=>
 @sOp (some 8) (xBuild [.int .i64 0,.int .i64 0,.int .i64 0,.str ⟨#[]⟩,.int .i64 0,.int .i64 0,.str ⟨#[]⟩,.nils,.nils,.nils,.bool false] [(0,9,(u5.τ 3)),(9,1,(.nils)),(10,1,(u5.τ 7))] u5.H) u5<|.mk fun u6=>
 @sMv 9 0 u6<|.mk fun u7=>
 @sCall Tryz.prog (.func 113 []) [(u7.τ 8),(u7.τ 9)] (some 10) u7<|.mk fun s=>
 Φ .normal s
theorem W112_rs (τ:Nat → AV) (H:Heap):resV Tryz.prog τ H [] = ob (some []) fun vs=>some (.tup vs):=by kernel_rfl
theorem W112_eq (Φ:EP) (s:St):awp Tryz.prog (Tryz.f112.body.getD .skip) Φ s = W112 Φ s:=by kernel_rfl
theorem W112_S {args:List AV} {r:AV} (hl:args.length ≤ 11) (h:∀ vs,W112 (retK Tryz.prog [] r) ⟨Am.look (argT 0 args),hls [] vs,noG⟩):Am.Spec Tryz.prog 112 args r:=.of_W (W:=W112) Tryz.func112 (by kernel_rfl) (by kernel_rfl) (by kernel_rfl) Tryz.ntmps112 W112_eq (by kernel_rfl) hl h
-- 113 "penance/steps.walk"
def W113_b1 (Φ:EP) (s:St):Prop:=
 @sOp (some 4) (xMov (.bool false) s.H) s<|.mk fun s=>
 Φ .ret s
def W113_k2 (Φ:EP) (s:St):Prop:=
 @sOp (some 4) (xMov (.bool true) s.H) s<|.mk fun s=>
 Φ .ret s
def W113_b3 (Φ:EP) (L0:SP) (s:St):Prop:=
 @sOp (some 4) (xMov (.bool false) s.H) s<|.mk fun s=>
 Φ .ret s
def W113_b4 (Φ:EP) (L0:SP) (s:St):Prop:=
 @sOp (some 35) (xBin .add false (s.τ 26) (.int .i64 1) s.H) s<|.mk fun s=>
 @sMv 26 35 s<|.mk fun s=>
 L0 s
def W113_b7 (Φ:EP) (L0:SP) (s:St):Prop:=
 @sMv 28 26 s<|.mk fun s=>
 @sMv 6 28 s<|.mk fun s=>
 @sLd 29 11 2 true s<|.mk fun s=>
 @sMv 30 6 s<|.mk fun s=>
 @sCall Tryz.prog (.func 137 []) [(s.τ 29),(s.τ 30)] (some 31) s<|.mk fun s=>
 @sMv 32 1 s<|.mk fun s=>
 @sCall Tryz.prog (.func 113 []) [(s.τ 31),(s.τ 32)] (some 33) s<|.mk fun s=>
 @sOp (some 34) (xNot (s.τ 33) s.H) s<|.mk fun s=>
 @sIf (s.τ 34) ⟨W113_b3 Φ L0 s⟩ ⟨W113_b4 Φ L0 s⟩
def W113_l8 (Φ:EP) (L0:SP) (s:St):Prop:=
 @sOp (some 27) (xBin .lss false (s.τ 26) (s.τ 25) s.H) s<|.mk fun s=>
 @sIf (s.τ 27) ⟨W113_b7 Φ L0 s⟩ ⟨W113_k2 Φ s⟩
def W113_k9 (Φ:EP) (s:St):Prop:=
 @sMv 25 5 s<|.mk fun s=>
 @sOp (some 26) (xMov (.int .i64 0) s.H) s<|.mk fun s=>
 @sLoop s ⟨fun L0 s=>W113_l8 Φ L0 s⟩
def W113_b10 (Φ:EP) (s:St):Prop:=
 @sMv 21 5 s<|.mk fun s=>
 @sOp (some 22) (xMin (s.τ 21) (.int .i64 1) s.H) s<|.mk fun s=>
 @sMv 5 22 s<|.mk fun s=>
 W113_k9 Φ s
def W113_b11 (Φ:EP) (s:St):Prop:=
 @sOp (some 5) (xMov (.int .i64 0) s.H) s<|.mk fun s=>
 W113_k9 Φ s
def W113_b12 (Φ:EP) (s:St):Prop:=
 @sOp (some 24) (xBin .eql false (s.τ 17) (.int .i64 11) s.H) s<|.mk fun s=>
 @sMv 23 24 s<|.mk fun s=>
 @sIf (s.τ 23) ⟨W113_k9 Φ s⟩ ⟨W113_b11 Φ s⟩
def W113_k13 (Φ:EP) (s:St):Prop:=
 @sIf (s.τ 18) ⟨W113_b10 Φ s⟩ ⟨W113_b12 Φ s⟩
def W113_b14 (Φ:EP) (s:St):Prop:=
 @sOp (some 20) (xBin .eql false (s.τ 17) (.int .i64 7) s.H) s<|.mk fun s=>
 @sMv 18 20 s<|.mk fun s=>
 W113_k13 Φ s
def W113_b15 (Φ:EP) (s:St):Prop:=
 @sFl 11 0 2 s<|.mk fun s=>
 @sFl 12 8 11 s<|.mk fun s=>
 @sLd 13 1 12 false s<|.mk fun s=>
 @sOp (some 14) (xLen (s.τ 13) s.H) s<|.mk fun s=>
 @sMv 5 14 s<|.mk fun s=>
 @sFl 15 0 2 s<|.mk fun s=>
 @sFl 16 0 15 s<|.mk fun s=>
 @sLd 17 1 16 false s<|.mk fun s=>
 @sOp (some 19) (xBin .eql false (s.τ 17) (.int .i64 12) s.H) s<|.mk fun s=>
 @sMv 18 19 s<|.mk fun s=>
 @sIf (s.τ 18) ⟨W113_k13 Φ s⟩ ⟨W113_b14 Φ s⟩
def W113 (Φ:EP) (s:St):Prop:=
 @sOp (some 2) (xBox 2 140 (s.τ 0) s.H) s<|.mk fun s=>
 @sOp (some 4) (xMov (.bool false) s.H) s<|.mk fun s=>
 @sMv 7 1 s<|.mk fun s=>
 @sLd 8 11 2 true s<|.mk fun s=>
 @sCall Tryz.prog (s.τ 7) [(s.τ 8)] (some 9) s<|.mk fun s=>
 @sOp (some 10) (xNot (s.τ 9) s.H) s<|.mk fun s=>
 @sIf (s.τ 10) ⟨W113_b1 Φ s⟩ ⟨W113_b15 Φ s⟩
theorem W113_rs (τ:Nat → AV) (H:Heap):resV Tryz.prog τ H [.tmp 4] = some (τ 4):=by kernel_rfl
theorem W113_eq (Φ:EP) (s:St):awp Tryz.prog (Tryz.f113.body.getD .skip) Φ s = W113 Φ s:=by kernel_rfl
theorem W113_S {args:List AV} {r:AV} (hl:args.length ≤ 36) (h:∀ vs,W113 (retK Tryz.prog [.tmp 4] r) ⟨Am.look (argT 0 args),hls [] vs,noG⟩):Am.Spec Tryz.prog 113 args r:=.of_W (W:=W113) Tryz.func113 (by kernel_rfl) (by kernel_rfl) (by kernel_rfl) Tryz.ntmps113 W113_eq (by kernel_rfl) hl h
-- 114 "penance/term.Waits"
def W114_k2 (Φ:EP) (s:St):Prop:=
 @sLd 16 1 3 false s<|.mk fun s=>
 @sCall Tryz.prog (.func 33 []) [(s.τ 16)] (some 17) s<|.mk fun s=>
 @sMv 2 17 s<|.mk fun s=>
 Φ .ret s
def W114_b3 (Φ:EP) (s:St):Prop:=
 @sLd 11 1 3 false s<|.mk fun s=>
 @sFl 12 1 4 s<|.mk fun s=>
 @sLd 13 1 12 false s<|.mk fun s=>
 @sOp (some 14) (xLit 1 1 [.int .i64 0] [(0,(s.τ 13))] s.H) s<|.mk fun s=>
 @sOp (some 15) (xApp Tryz.prog 3 1 8 (some 15) (s.τ 11) (s.τ 14) s.H) s<|.mk fun s=>
 @sOp none (xStore 1 (s.τ 3) (s.τ 15) s.H) s<|.mk fun s=>
 Φ .normal s
def W114_r4 (Φ:EP) (s:St):Prop:=
 @sOp (some 4) (xAlloc 4 35 [.int .i64 0,.int .i64 0,.int .i64 0,.str ⟨#[]⟩,.int .i64 0,.int .i64 0,.str ⟨#[]⟩,.nils,.nils] s.H) s<|.mk fun s=>
 @sOp none (xStore 9 (s.τ 4) (s.τ 7) s.H) s<|.mk fun s=>
 @sFl 8 0 4 s<|.mk fun s=>
 @sLd 9 1 8 false s<|.mk fun s=>
 @sOp (some 10) (xBin .eql false (s.τ 9) (.int .i64 14) s.H) s<|.mk fun s=>
 @sIf (s.τ 10) ⟨W114_b3 Φ s⟩ ⟨Φ .normal s⟩
def W114 (Φ:EP) (s:St):Prop:=
 @sOp (some 1) (xBox 1 35 (s.τ 0) s.H) s<|.mk fun s=>
 @sOp (some 2) (xMov (.nils) s.H) s<|.mk fun s=>
 @sOp (some 3) (xAlloc 3 25 [.nils] s.H) s<|.mk fun s=>
 @sLd 5 9 1 true s<|.mk fun s=>
 @sCall Tryz.prog (.func 138 []) [(s.τ 5)] (some 6) s<|.mk fun s=>
 @sRange Tryz.prog (s.τ 6) [7] s ⟨fun Φ s=>W114_r4 Φ s⟩ ⟨(blkK 0 (thenK (W114_k2 Φ) Φ))⟩
theorem W114_rs (τ:Nat → AV) (H:Heap):resV Tryz.prog τ H [.tmp 2] = some (τ 2):=by kernel_rfl
theorem W114_eq (Φ:EP) (s:St):awp Tryz.prog (Tryz.f114.body.getD .skip) Φ s = W114 Φ s:=by kernel_rfl
theorem W114_S {args:List AV} {r:AV} (hl:args.length ≤ 18) (h:∀ vs,W114 (retK Tryz.prog [.tmp 2] r) ⟨Am.look (argT 0 args),hls [] vs,noG⟩):Am.Spec Tryz.prog 114 args r:=.of_W (W:=W114) Tryz.func114 (by kernel_rfl) (by kernel_rfl) (by kernel_rfl) Tryz.ntmps114 W114_eq (by kernel_rfl) hl h
-- 115 "penance/expr.sum"
def W115_b1 (Φ:EP) (s:St):Prop:=
 @sOp (some 4) (xMov (.int .i64 0) s.H) s<|.mk fun s=>
 @sOp (some 5) (xMov (.int .i64 8) s.H) s<|.mk fun s=>
 Φ .ret s
def W115_b2 (Φ:EP) (s:St):Prop:=
 @sMv 24 0 s<|.mk fun s=>
 @sMv 25 1 s<|.mk fun s=>
 @sOp (some 26) (xBin .add false (s.τ 24) (s.τ 25) s.H) s<|.mk fun s=>
 @sMv 4 26 s<|.mk fun s=>
 @sOp (some 5) (xMov (.int .i64 0) s.H) s<|.mk fun s=>
 Φ .ret s
def W115 (Φ:EP) (s:St):Prop:=
 @sOp (some 4) (xMov (.int .i64 0) s.H) s<|.mk fun s=>
 @sOp (some 5) (xMov (.int .i64 0) s.H) s<|.mk fun s=>
 @sMv 6 1 s<|.mk fun s=>
 @sOp (some 7) (xBin .gtr false (s.τ 6) (.int .i64 0) s.H) s<|.mk fun s=>
 @sMv 8 7 s<|.mk fun s=>
 @sGm 9 0 8 true s<|.mk fun s=>
 @sGm 10 1 8 true s<|.mk fun s=>
 @sGo 11 8 true s (fun s=>(xBin .sub false (.int .i64 9223372036854775807) (s.τ 10) s.H))<|.mk fun s=>
 @sGo 12 8 true s (fun s=>(xBin .gtr false (s.τ 9) (s.τ 11) s.H))<|.mk fun s=>
 @sOp (some 13) (xPick (s.τ 8) (s.τ 12) (.bool false) s.H) s<|.mk fun s=>
 @sMv 14 13 s<|.mk fun s=>
 @sGm 15 1 14 false s<|.mk fun s=>
 @sGo 16 14 false s (fun s=>(xBin .lss false (s.τ 15) (.int .i64 0) s.H))<|.mk fun s=>
 @sGm 17 16 14 false s<|.mk fun s=>
 @sGm 18 0 17 true s<|.mk fun s=>
 @sGm 19 1 17 true s<|.mk fun s=>
 @sGo 20 17 true s (fun s=>(xBin .sub false (.int .i64 (-9223372036854775808)) (s.τ 19) s.H))<|.mk fun s=>
 @sGo 21 17 true s (fun s=>(xBin .lss false (s.τ 18) (s.τ 20) s.H))<|.mk fun s=>
 @sGo 22 14 false s (fun s=>(xPick (s.τ 17) (s.τ 21) (.bool false) s.H))<|.mk fun s=>
 @sOp (some 23) (xPick (s.τ 14) (.bool true) (s.τ 22) s.H) s<|.mk fun s=>
 @sIf (s.τ 23) ⟨W115_b1 Φ s⟩ ⟨W115_b2 Φ s⟩
theorem W115_rs (τ:Nat → AV) (H:Heap):resV Tryz.prog τ H [.tmp 4,.tmp 5] = ob (ob (some (τ 4)) fun v=>ob (ob (some (τ 5)) fun v=>ob (some []) fun vs=>some (v :: vs)) fun vs=>some (v :: vs)) fun vs=>some (.tup vs):=by kernel_rfl
theorem W115_eq (Φ:EP) (s:St):awp Tryz.prog (Tryz.f115.body.getD .skip) Φ s = W115 Φ s:=by kernel_rfl
theorem W115_S {args:List AV} {r:AV} (hl:args.length ≤ 27) (h:∀ vs,W115 (retK Tryz.prog [.tmp 4,.tmp 5] r) ⟨Am.look (argT 0 args),hls [] vs,noG⟩):Am.Spec Tryz.prog 115 args r:=.of_W (W:=W115) Tryz.func115 (by kernel_rfl) (by kernel_rfl) (by kernel_rfl) Tryz.ntmps115 W115_eq (by kernel_rfl) hl h
-- 116 "penance/stacks.ownExpr"
def W116 (Φ:EP) (s:St):Prop:=
 @sOp (some 1) (xBox 1 33 (s.τ 0) s.H) s<|.mk fun s=>
 @sOp (some 2) (xAlloc 2 33 [.int .i64 0,.int .i64 0,.str ⟨#[]⟩,.nils] s.H) s<|.mk fun s=>
 @sFl 3 3 1 s<|.mk fun s=>
 @sLd 4 1 3 false s<|.mk fun s=>
 @sCall Tryz.prog (.func 139 []) [(s.τ 4),(.func 116 [])] (some 5) s<|.mk fun s=>
 @sFl 6 3 1 s<|.mk fun s=>
 @sOp none (xStore 1 (s.τ 6) (s.τ 5) s.H) s<|.mk fun s=>
 @sLd 7 4 1 true s<|.mk fun s=>
 @sOp none (xStore 4 (s.τ 2) (s.τ 7) s.H) s<|.mk fun s=>
 Φ .ret s
theorem W116_rs (τ:Nat → AV) (H:Heap):resV Tryz.prog τ H [.cell 2 33] = rdV H 4 true (τ 2):=by kernel_rfl
theorem W116_eq (Φ:EP) (s:St):awp Tryz.prog (Tryz.f116.body.getD .skip) Φ s = W116 Φ s:=by kernel_rfl
theorem W116_S {args:List AV} {r:AV} (hl:args.length ≤ 8) (h:∀ vs,W116 (retK Tryz.prog [.cell 2 33] r) ⟨Am.look (argT 0 args),hls [] vs,noG⟩):Am.Spec Tryz.prog 116 args r:=.of_W (W:=W116) Tryz.func116 (by kernel_rfl) (by kernel_rfl) (by kernel_rfl) Tryz.ntmps116 W116_eq (by kernel_rfl) hl h
-- 117 "penance/penanceref2.bit"
def W117_b1 (Φ:EP) (s:St):Prop:=
 @sOp (some 2) (xMov (.int .i64 1) s.H) s<|.mk fun s=>
 @sOp (some 3) (xMov (.int .i64 0) s.H) s<|.mk fun s=>
 Φ .ret s
def W117_b2 (Φ:EP) (s:St):Prop:=
 @sOp (some 2) (xMov (.int .i64 0) s.H) s<|.mk fun s=>
 @sOp (some 3) (xMov (.int .i64 0) s.H) s<|.mk fun s=>
 Φ .ret s
def W117 (Φ:EP) (s:St):Prop:=
 @sOp (some 2) (xMov (.int .i64 0) s.H) s<|.mk fun s=>
 @sOp (some 3) (xMov (.int .i64 0) s.H) s<|.mk fun s=>
 @sMv 4 0 s<|.mk fun s=>
 @sIf (s.τ 4) ⟨W117_b1 Φ s⟩ ⟨W117_b2 Φ s⟩
theorem W117_rs (τ:Nat → AV) (H:Heap):resV Tryz.prog τ H [.tmp 2,.tmp 3] = ob (ob (some (τ 2)) fun v=>ob (ob (some (τ 3)) fun v=>ob (some []) fun vs=>some (v :: vs)) fun vs=>some (v :: vs)) fun vs=>some (.tup vs):=by kernel_rfl
theorem W117_eq (Φ:EP) (s:St):awp Tryz.prog (Tryz.f117.body.getD .skip) Φ s = W117 Φ s:=by kernel_rfl
theorem W117_S {args:List AV} {r:AV} (hl:args.length ≤ 5) (h:∀ vs,W117 (retK Tryz.prog [.tmp 2,.tmp 3] r) ⟨Am.look (argT 0 args),hls [] vs,noG⟩):Am.Spec Tryz.prog 117 args r:=.of_W (W:=W117) Tryz.func117 (by kernel_rfl) (by kernel_rfl) (by kernel_rfl) Tryz.ntmps117 W117_eq (by kernel_rfl) hl h
-- 118 "penance/penanceref2.compare"
def W118_b2 (Φ:EP) (s:St):Prop:=
 @sMv 11 1 s<|.mk fun s=>
 @sMv 12 2 s<|.mk fun s=>
 @sOp (some 13) (xBin .eql false (s.τ 11) (s.τ 12) s.H) s<|.mk fun s=>
 @sCall Tryz.prog (.func 117 []) [(s.τ 13)] (some 14) s<|.mk fun s=>
 @sOp (some 15) (xExt (s.τ 14) 0 s.H) s<|.mk fun s=>
 @sOp (some 16) (xExt (s.τ 14) 1 s.H) s<|.mk fun s=>
 @sMv 6 15 s<|.mk fun s=>
 @sMv 7 16 s<|.mk fun s=>
 Φ .ret s
def W118_b4 (Φ:EP) (s:St):Prop:=
 @sMv 19 1 s<|.mk fun s=>
 @sMv 20 2 s<|.mk fun s=>
 @sOp (some 21) (xBin .neq false (s.τ 19) (s.τ 20) s.H) s<|.mk fun s=>
 @sCall Tryz.prog (.func 117 []) [(s.τ 21)] (some 22) s<|.mk fun s=>
 @sOp (some 23) (xExt (s.τ 22) 0 s.H) s<|.mk fun s=>
 @sOp (some 24) (xExt (s.τ 22) 1 s.H) s<|.mk fun s=>
 @sMv 6 23 s<|.mk fun s=>
 @sMv 7 24 s<|.mk fun s=>
 Φ .ret s
def W118_b6 (Φ:EP) (s:St):Prop:=
 @sMv 27 1 s<|.mk fun s=>
 @sMv 28 2 s<|.mk fun s=>
 @sOp (some 29) (xBin .lss false (s.τ 27) (s.τ 28) s.H) s<|.mk fun s=>
 @sCall Tryz.prog (.func 117 []) [(s.τ 29)] (some 30) s<|.mk fun s=>
 @sOp (some 31) (xExt (s.τ 30) 0 s.H) s<|.mk fun s=>
 @sOp (some 32) (xExt (s.τ 30) 1 s.H) s<|.mk fun s=>
 @sMv 6 31 s<|.mk fun s=>
 @sMv 7 32 s<|.mk fun s=>
 Φ .ret s
def W118_b8 (Φ:EP) (s:St):Prop:=
 @sMv 35 1 s<|.mk fun s=>
 @sMv 36 2 s<|.mk fun s=>
 @sOp (some 37) (xBin .leq false (s.τ 35) (s.τ 36) s.H) s<|.mk fun s=>
 @sCall Tryz.prog (.func 117 []) [(s.τ 37)] (some 38) s<|.mk fun s=>
 @sOp (some 39) (xExt (s.τ 38) 0 s.H) s<|.mk fun s=>
 @sOp (some 40) (xExt (s.τ 38) 1 s.H) s<|.mk fun s=>
 @sMv 6 39 s<|.mk fun s=>
 @sMv 7 40 s<|.mk fun s=>
 Φ .ret s
def W118_b10 (Φ:EP) (s:St):Prop:=
 @sMv 43 1 s<|.mk fun s=>
 @sMv 44 2 s<|.mk fun s=>
 @sOp (some 45) (xBin .gtr false (s.τ 43) (s.τ 44) s.H) s<|.mk fun s=>
 @sCall Tryz.prog (.func 117 []) [(s.τ 45)] (some 46) s<|.mk fun s=>
 @sOp (some 47) (xExt (s.τ 46) 0 s.H) s<|.mk fun s=>
 @sOp (some 48) (xExt (s.τ 46) 1 s.H) s<|.mk fun s=>
 @sMv 6 47 s<|.mk fun s=>
 @sMv 7 48 s<|.mk fun s=>
 Φ .ret s
def W118_b12 (Φ:EP) (s:St):Prop:=
 @sMv 49 1 s<|.mk fun s=>
 @sMv 50 2 s<|.mk fun s=>
 @sOp (some 51) (xBin .geq false (s.τ 49) (s.τ 50) s.H) s<|.mk fun s=>
 @sCall Tryz.prog (.func 117 []) [(s.τ 51)] (some 52) s<|.mk fun s=>
 @sOp (some 53) (xExt (s.τ 52) 0 s.H) s<|.mk fun s=>
 @sOp (some 54) (xExt (s.τ 52) 1 s.H) s<|.mk fun s=>
 @sMv 6 53 s<|.mk fun s=>
 @sMv 7 54 s<|.mk fun s=>
 Φ .ret s
def W118_b13 (Φ:EP) (s:St):Prop:=
 @sOp (some 42) (xBin .eql false (s.τ 8) (.int .i64 14) s.H) s<|.mk fun s=>
 @sMv 41 42 s<|.mk fun s=>
 @sIf (s.τ 41) ⟨W118_b10 Φ s⟩ ⟨W118_b12 Φ s⟩
def W118_b14 (Φ:EP) (s:St):Prop:=
 @sOp (some 34) (xBin .eql false (s.τ 8) (.int .i64 13) s.H) s<|.mk fun s=>
 @sMv 33 34 s<|.mk fun s=>
 @sIf (s.τ 33) ⟨W118_b8 Φ s⟩ ⟨W118_b13 Φ s⟩
def W118_b15 (Φ:EP) (s:St):Prop:=
 @sOp (some 26) (xBin .eql false (s.τ 8) (.int .i64 12) s.H) s<|.mk fun s=>
 @sMv 25 26 s<|.mk fun s=>
 @sIf (s.τ 25) ⟨W118_b6 Φ s⟩ ⟨W118_b14 Φ s⟩
def W118_b16 (Φ:EP) (s:St):Prop:=
 @sOp (some 18) (xBin .eql false (s.τ 8) (.int .i64 11) s.H) s<|.mk fun s=>
 @sMv 17 18 s<|.mk fun s=>
 @sIf (s.τ 17) ⟨W118_b4 Φ s⟩ ⟨W118_b15 Φ s⟩
def W118 (Φ:EP) (s:St):Prop:=
 @sOp (some 6) (xMov (.int .i64 0) s.H) s<|.mk fun s=>
 @sOp (some 7) (xMov (.int .i64 0) s.H) s<|.mk fun s=>
 @sMv 8 0 s<|.mk fun s=>
 @sOp (some 10) (xBin .eql false (s.τ 8) (.int .i64 10) s.H) s<|.mk fun s=>
 @sMv 9 10 s<|.mk fun s=>
 @sIf (s.τ 9) ⟨W118_b2 Φ s⟩ ⟨W118_b16 Φ s⟩
theorem W118_rs (τ:Nat → AV) (H:Heap):resV Tryz.prog τ H [.tmp 6,.tmp 7] = ob (ob (some (τ 6)) fun v=>ob (ob (some (τ 7)) fun v=>ob (some []) fun vs=>some (v :: vs)) fun vs=>some (v :: vs)) fun vs=>some (.tup vs):=by kernel_rfl
theorem W118_eq (Φ:EP) (s:St):awp Tryz.prog (Tryz.f118.body.getD .skip) Φ s = W118 Φ s:=by kernel_rfl
theorem W118_S {args:List AV} {r:AV} (hl:args.length ≤ 55) (h:∀ vs,W118 (retK Tryz.prog [.tmp 6,.tmp 7] r) ⟨Am.look (argT 0 args),hls [] vs,noG⟩):Am.Spec Tryz.prog 118 args r:=.of_W (W:=W118) Tryz.func118 (by kernel_rfl) (by kernel_rfl) (by kernel_rfl) Tryz.ntmps118 W118_eq (by kernel_rfl) hl h
-- 119 "penance/penanceref2.reckon"
def W119_b1 (Φ:EP) (s:St):Prop:=
 @sOp (some 6) (xMov (.int .i64 0) s.H) s<|.mk fun s=>
 @sOp (some 7) (xMov (.int .i64 8) s.H) s<|.mk fun s=>
 Φ .ret s
def W119_b2 (Φ:EP) (s:St):Prop:=
 @sMv 28 8 s<|.mk fun s=>
 @sMv 6 28 s<|.mk fun s=>
 @sOp (some 7) (xMov (.int .i64 0) s.H) s<|.mk fun s=>
 Φ .ret s
def W119_b8 (Φ:EP) (s:St):Prop:=
 @sMv 13 1 s<|.mk fun s=>
 @sMv 14 2 s<|.mk fun s=>
 @sOp (some 15) (xBin .add false (s.τ 13) (s.τ 14) s.H) s<|.mk fun s=>
 @sMv 8 15 s<|.mk fun s=>
 @sMv 16 1 s<|.mk fun s=>
 @sOp (some 17) (xBin .geq false (s.τ 16) (.int .i64 0) s.H) s<|.mk fun s=>
 @sMv 18 2 s<|.mk fun s=>
 @sOp (some 19) (xBin .geq false (s.τ 18) (.int .i64 0) s.H) s<|.mk fun s=>
 @sOp (some 20) (xBin .eql true (s.τ 17) (s.τ 19) s.H) s<|.mk fun s=>
 @sMv 21 20 s<|.mk fun s=>
 @sGm 22 8 21 true s<|.mk fun s=>
 @sGo 23 21 true s (fun s=>(xBin .geq false (s.τ 22) (.int .i64 0) s.H))<|.mk fun s=>
 @sGm 24 1 21 true s<|.mk fun s=>
 @sGo 25 21 true s (fun s=>(xBin .geq false (s.τ 24) (.int .i64 0) s.H))<|.mk fun s=>
 @sGo 26 21 true s (fun s=>(xBin .neq true (s.τ 23) (s.τ 25) s.H))<|.mk fun s=>
 @sOp (some 27) (xPick (s.τ 21) (s.τ 26) (.bool false) s.H) s<|.mk fun s=>
 @sIf (s.τ 27) ⟨W119_b1 Φ s⟩ ⟨W119_b2 Φ s⟩
def W119_b9 (Φ:EP) (s:St):Prop:=
 @sOp (some 6) (xMov (.int .i64 0) s.H) s<|.mk fun s=>
 @sOp (some 7) (xMov (.int .i64 8) s.H) s<|.mk fun s=>
 Φ .ret s
def W119_b10 (Φ:EP) (s:St):Prop:=
 @sMv 46 9 s<|.mk fun s=>
 @sMv 6 46 s<|.mk fun s=>
 @sOp (some 7) (xMov (.int .i64 0) s.H) s<|.mk fun s=>
 Φ .ret s
def W119_b16 (Φ:EP) (s:St):Prop:=
 @sMv 31 1 s<|.mk fun s=>
 @sMv 32 2 s<|.mk fun s=>
 @sOp (some 33) (xBin .sub false (s.τ 31) (s.τ 32) s.H) s<|.mk fun s=>
 @sMv 9 33 s<|.mk fun s=>
 @sMv 34 1 s<|.mk fun s=>
 @sOp (some 35) (xBin .geq false (s.τ 34) (.int .i64 0) s.H) s<|.mk fun s=>
 @sMv 36 2 s<|.mk fun s=>
 @sOp (some 37) (xBin .geq false (s.τ 36) (.int .i64 0) s.H) s<|.mk fun s=>
 @sOp (some 38) (xBin .neq true (s.τ 35) (s.τ 37) s.H) s<|.mk fun s=>
 @sMv 39 38 s<|.mk fun s=>
 @sGm 40 9 39 true s<|.mk fun s=>
 @sGo 41 39 true s (fun s=>(xBin .geq false (s.τ 40) (.int .i64 0) s.H))<|.mk fun s=>
 @sGm 42 1 39 true s<|.mk fun s=>
 @sGo 43 39 true s (fun s=>(xBin .geq false (s.τ 42) (.int .i64 0) s.H))<|.mk fun s=>
 @sGo 44 39 true s (fun s=>(xBin .neq true (s.τ 41) (s.τ 43) s.H))<|.mk fun s=>
 @sOp (some 45) (xPick (s.τ 39) (s.τ 44) (.bool false) s.H) s<|.mk fun s=>
 @sIf (s.τ 45) ⟨W119_b9 Φ s⟩ ⟨W119_b10 Φ s⟩
def W119_b18 (Φ:EP) (s:St):Prop:=
 @sMv 49 1 s<|.mk fun s=>
 @sMv 50 2 s<|.mk fun s=>
 @sCall Tryz.prog (.func 140 []) [(s.τ 49),(s.τ 50)] (some 51) s<|.mk fun s=>
 @sOp (some 52) (xExt (s.τ 51) 0 s.H) s<|.mk fun s=>
 @sOp (some 53) (xExt (s.τ 51) 1 s.H) s<|.mk fun s=>
 @sMv 6 52 s<|.mk fun s=>
 @sMv 7 53 s<|.mk fun s=>
 Φ .ret s
def W119_b19 (Φ:EP) (s:St):Prop:=
 @sOp (some 6) (xMov (.int .i64 0) s.H) s<|.mk fun s=>
 @sOp (some 7) (xMov (.int .i64 9) s.H) s<|.mk fun s=>
 Φ .ret s
def W119_b20 (Φ:EP) (s:St):Prop:=
 @sOp (some 6) (xMov (.int .i64 0) s.H) s<|.mk fun s=>
 @sOp (some 7) (xMov (.int .i64 0) s.H) s<|.mk fun s=>
 Φ .ret s
def W119_b21 (Φ:EP) (s:St):Prop:=
 @sOp (some 6) (xMov (.int .i64 0) s.H) s<|.mk fun s=>
 @sOp (some 7) (xMov (.int .i64 8) s.H) s<|.mk fun s=>
 Φ .ret s
def W119_b22 (Φ:EP) (s:St):Prop:=
 @sMv 74 1 s<|.mk fun s=>
 @sMv 75 2 s<|.mk fun s=>
 @sOp (some 76) (xBin .rem false (s.τ 74) (s.τ 75) s.H) s<|.mk fun s=>
 @sMv 6 76 s<|.mk fun s=>
 @sOp (some 7) (xMov (.int .i64 0) s.H) s<|.mk fun s=>
 Φ .ret s
def W119_b23 (Φ:EP) (s:St):Prop:=
 @sMv 77 1 s<|.mk fun s=>
 @sMv 78 2 s<|.mk fun s=>
 @sOp (some 79) (xBin .quo false (s.τ 77) (s.τ 78) s.H) s<|.mk fun s=>
 @sMv 6 79 s<|.mk fun s=>
 @sOp (some 7) (xMov (.int .i64 0) s.H) s<|.mk fun s=>
 Φ .ret s
def W119_b24 (Φ:EP) (s:St):Prop:=
 @sMv 72 0 s<|.mk fun s=>
 @sOp (some 73) (xBin .eql false (s.τ 72) (.int .i64 7) s.H) s<|.mk fun s=>
 @sMv 71 73 s<|.mk fun s=>
 @sIf (s.τ 71) ⟨W119_b22 Φ s⟩ ⟨W119_b23 Φ s⟩
def W119_b27 (Φ:EP) (s:St):Prop:=
 @sMv 65 2 s<|.mk fun s=>
 @sOp (some 66) (xBin .eql false (s.τ 65) (.int .i64 (-1)) s.H) s<|.mk fun s=>
 @sMv 67 66 s<|.mk fun s=>
 @sGm 68 1 67 true s<|.mk fun s=>
 @sGo 69 67 true s (fun s=>(xBin .eql false (s.τ 68) (.int .i64 (-9223372036854775808)) s.H))<|.mk fun s=>
 @sOp (some 70) (xPick (s.τ 67) (s.τ 69) (.bool false) s.H) s<|.mk fun s=>
 @sMv 64 70 s<|.mk fun s=>
 @sIf (s.τ 64) ⟨W119_b21 Φ s⟩ ⟨W119_b24 Φ s⟩
def W119_b30 (Φ:EP) (s:St):Prop:=
 @sMv 58 2 s<|.mk fun s=>
 @sOp (some 59) (xBin .eql false (s.τ 58) (.int .i64 (-1)) s.H) s<|.mk fun s=>
 @sMv 60 59 s<|.mk fun s=>
 @sGm 61 0 60 true s<|.mk fun s=>
 @sGo 62 60 true s (fun s=>(xBin .eql false (s.τ 61) (.int .i64 7) s.H))<|.mk fun s=>
 @sOp (some 63) (xPick (s.τ 60) (s.τ 62) (.bool false) s.H) s<|.mk fun s=>
 @sMv 57 63 s<|.mk fun s=>
 @sIf (s.τ 57) ⟨W119_b20 Φ s⟩ ⟨W119_b27 Φ s⟩
def W119_b31 (Φ:EP) (s:St):Prop:=
 @sMv 55 2 s<|.mk fun s=>
 @sOp (some 56) (xBin .eql false (s.τ 55) (.int .i64 0) s.H) s<|.mk fun s=>
 @sMv 54 56 s<|.mk fun s=>
 @sIf (s.τ 54) ⟨W119_b19 Φ s⟩ ⟨W119_b30 Φ s⟩
def W119_b32 (Φ:EP) (s:St):Prop:=
 @sOp (some 48) (xBin .eql false (s.τ 10) (.int .i64 5) s.H) s<|.mk fun s=>
 @sMv 47 48 s<|.mk fun s=>
 @sIf (s.τ 47) ⟨W119_b18 Φ s⟩ ⟨W119_b31 Φ s⟩
def W119_b33 (Φ:EP) (s:St):Prop:=
 @sOp (some 30) (xBin .eql false (s.τ 10) (.int .i64 9) s.H) s<|.mk fun s=>
 @sMv 29 30 s<|.mk fun s=>
 @sIf (s.τ 29) ⟨W119_b16 Φ s⟩ ⟨W119_b32 Φ s⟩
def W119 (Φ:EP) (s:St):Prop:=
 @sOp (some 6) (xMov (.int .i64 0) s.H) s<|.mk fun s=>
 @sOp (some 7) (xMov (.int .i64 0) s.H) s<|.mk fun s=>
 @sMv 10 0 s<|.mk fun s=>
 @sOp (some 12) (xBin .eql false (s.τ 10) (.int .i64 8) s.H) s<|.mk fun s=>
 @sMv 11 12 s<|.mk fun s=>
 @sIf (s.τ 11) ⟨W119_b8 Φ s⟩ ⟨W119_b33 Φ s⟩
theorem W119_rs (τ:Nat → AV) (H:Heap):resV Tryz.prog τ H [.tmp 6,.tmp 7] = ob (ob (some (τ 6)) fun v=>ob (ob (some (τ 7)) fun v=>ob (some []) fun vs=>some (v :: vs)) fun vs=>some (v :: vs)) fun vs=>some (.tup vs):=by kernel_rfl
theorem W119_eq (Φ:EP) (s:St):awp Tryz.prog (Tryz.f119.body.getD .skip) Φ s = W119 Φ s:=by kernel_rfl
theorem W119_S {args:List AV} {r:AV} (hl:args.length ≤ 80) (h:∀ vs,W119 (retK Tryz.prog [.tmp 6,.tmp 7] r) ⟨Am.look (argT 0 args),hls [] vs,noG⟩):Am.Spec Tryz.prog 119 args r:=.of_W (W:=W119) Tryz.func119 (by kernel_rfl) (by kernel_rfl) (by kernel_rfl) Tryz.ntmps119 W119_eq (by kernel_rfl) hl h
-- 120 "penance/penanceref6.Push"
def W120 (Φ:EP) (s:St):Prop:=
 @sOp (some 5) (xBox 5 35 (s.τ 2) s.H) s<|.mk fun s=>
 @sOp (some 6) (xMov (.nils) s.H) s<|.mk fun s=>
 @sMv 7 0 s<|.mk fun u1=>
 @sMv 8 1 u1<|.mk fun u2=>
 @sOp (some 9) (xRow 9 35 9 0 [.int .i64 0,.int .i64 0,.int .i64 0,.str ⟨#[]⟩,.int .i64 0,.int .i64 0,.str ⟨#[]⟩,.nils,.nils] [] u2.H) u2<|.mk fun u3=>
 @sMv 10 0 u3<|.mk fun u4=>
 @sMv 11 1 u4<|.mk fun u5=>
 @sChk (compat ([9] ++ occL [],[9] ++ occL []) (occ (u5.τ 10),[])) <| .mk <|
 @sOp (some 12) (xIx 1 (u5.τ 10) (u5.τ 11) u5.H) u5<|.mk fun u6=>
 @sChk (compat ([9] ++ occL [],[9] ++ occL []) (occ (u6.τ 12),[])) <| .mk <|
 @sLd 13 1 12 false u6<|.mk fun u7=>
 @sOp (some 14) (xApp Tryz.prog 35 9 120 (some 14) (u7.τ 9) (u7.τ 13) u7.H) u7<|.mk fun u8=>
 @sChk (compat ([9] ++ occL [],[9] ++ occL []) (occ (u8.τ 5),[])) <| .mk <|
 @sChk (compat ([14] ++ (occ (u7.τ 9) ++ occ (u7.τ 13)),[14] ++ occ (u7.τ 9)) (occ (u8.τ 5),[])) <| .mk <|
 @sLd 15 9 5 true u8<|.mk fun u9=>
 @sChk (compat ([9] ++ occL [],[9] ++ occL []) ([16] ++ occL [(u9.τ 15)],[16] ++ occL [(u9.τ 15)])) <| .mk <|
 @sChk (compat (occ (u5.τ 10),[]) ([16] ++ occL [(u9.τ 15)],[16] ++ occL [(u9.τ 15)])) <| .mk <|
 @sChk (compat (occ (u6.τ 12),[]) ([16] ++ occL [(u9.τ 15)],[16] ++ occL [(u9.τ 15)])) <| .mk <|
 @sChk (compat ([14] ++ (occ (u7.τ 9) ++ occ (u7.τ 13)),[14] ++ occ (u7.τ 9)) ([16] ++ occL [(u9.τ 15)],[16] ++ occL [(u9.τ 15)])) <| .mk <|
 @sOp (some 16) (xLit 9 1 [.int .i64 0,.int .i64 0,.int .i64 0,.str ⟨#[]⟩,.int .i64 0,.int .i64 0,.str ⟨#[]⟩,.nils,.nils] [(0,(u9.τ 15))] u9.H) u9<|.mk fun u10=>
 @sOp (some 17) (xApp Tryz.prog 35 9 120 (some 17) (u10.τ 14) (u10.τ 16) u10.H) u10<|.mk fun u11=>
 @sCall0 Tryz.prog (.func 141 []) [(u11.τ 7),(u11.τ 8),(u11.τ 17)] (some 18) u11<|.mk fun u12=>
 @sMv 6 18 u12<|.mk fun s=>
 Φ .ret s
theorem W120_rs (τ:Nat → AV) (H:Heap):resV Tryz.prog τ H [.tmp 6] = some (τ 6):=by kernel_rfl
theorem W120_eq (Φ:EP) (s:St):awp Tryz.prog (Tryz.f120.body.getD .skip) Φ s = W120 Φ s:=by kernel_rfl
theorem W120_S {args:List AV} {r:AV} (hl:args.length ≤ 19) (h:∀ vs,W120 (retK Tryz.prog [.tmp 6] r) ⟨Am.look (argT 0 args),hls [] vs,noG⟩):Am.Spec Tryz.prog 120 args r:=.of_W (W:=W120) Tryz.func120 (by kernel_rfl) (by kernel_rfl) (by kernel_rfl) Tryz.ntmps120 W120_eq (by kernel_rfl) hl h
-- 121 "penance/penanceref6.Reverse"
def W121_k2 (Φ:EP) (s:St):Prop:=
 @sLd 35 9 6 true s<|.mk fun u1=>
 @sMv 36 0 u1<|.mk fun u2=>
 @sMv 37 1 u2<|.mk fun u3=>
 @sChk (compat (occ (s.τ 6),[]) (cfp 38 141 [(u3.τ 36),(u3.τ 37),(.nils)])) <| .mk <|
 @sCall0 Tryz.prog (.func 141 []) [(u3.τ 36),(u3.τ 37),(.nils)] (some 38) u3<|.mk fun u4=>
 @sOp none (xStore 9 (u4.τ 4) (u4.τ 35) u4.H) u4<|.mk fun u5=>
 @sMv 5 38 u5<|.mk fun s=>
 Φ .ret s
def W121_k3 (Φ:EP) (L0:SP) (s:St):Prop:=
 @sMv 15 7 s<|.mk fun s=>
 @sOp (some 16) (xBin .add false (s.τ 15) (.int .i64 1) s.H) s<|.mk fun s=>
 @sMv 7 16 s<|.mk fun s=>
 L0 s
def W121_b4 (Φ:EP) (L0:SP) (s:St):Prop:=
 @sMv 19 0 s<|.mk fun s=>
 @sMv 20 1 s<|.mk fun s=>
 @sOp (some 21) (xIx 1 (s.τ 19) (s.τ 20) s.H) s<|.mk fun s=>
 @sLd 22 1 21 false s<|.mk fun s=>
 @sOp (some 23) (xIx 9 (s.τ 22) (.int .i64 0) s.H) s<|.mk fun s=>
 @sLd 24 9 23 true s<|.mk fun s=>
 @sOp none (xStore 9 (s.τ 6) (s.τ 24) s.H) s<|.mk fun s=>
 W121_k3 Φ L0 s
def W121_b5 (Φ:EP) (L0:SP) (s:St):Prop:=
 @sMv 25 0 s<|.mk fun s=>
 @sMv 26 1 s<|.mk fun s=>
 @sOp (some 27) (xIx 1 (s.τ 25) (s.τ 26) s.H) s<|.mk fun s=>
 @sLd 28 1 27 false s<|.mk fun s=>
 @sMv 29 7 s<|.mk fun s=>
 @sOp (some 30) (xIx 9 (s.τ 28) (s.τ 29) s.H) s<|.mk fun s=>
 @sLd 31 9 30 true s<|.mk fun s=>
 @sLd 32 9 6 true s<|.mk fun s=>
 @sOp (some 33) (xLit 9 2 [.int .i64 0,.int .i64 0,.int .i64 0,.str ⟨#[]⟩,.int .i64 0,.int .i64 0,.str ⟨#[]⟩,.nils,.nils] [(0,(s.τ 31)),(1,(s.τ 32))] s.H) s<|.mk fun s=>
 @sOp (some 34) (xBuild [.int .i64 0,.int .i64 0,.int .i64 0,.str ⟨#[]⟩,.int .i64 0,.int .i64 0,.str ⟨#[]⟩,.nils,.nils] [(0,1,(.int .i64 12)),(8,1,(s.τ 33))] s.H) s<|.mk fun s=>
 @sOp none (xStore 9 (s.τ 6) (s.τ 34) s.H) s<|.mk fun s=>
 W121_k3 Φ L0 s
def W121_b6 (Φ:EP) (L0:SP) (s:St):Prop:=
 @sMv 17 7 s<|.mk fun s=>
 @sOp (some 18) (xBin .eql false (s.τ 17) (.int .i64 0) s.H) s<|.mk fun s=>
 @sIf (s.τ 18) ⟨W121_b4 Φ L0 s⟩ ⟨W121_b5 Φ L0 s⟩
def W121_l7 (Φ:EP) (L0:SP) (s:St):Prop:=
 @sMv 8 7 s<|.mk fun s=>
 @sMv 9 0 s<|.mk fun s=>
 @sMv 10 1 s<|.mk fun s=>
 @sOp (some 11) (xIx 1 (s.τ 9) (s.τ 10) s.H) s<|.mk fun s=>
 @sLd 12 1 11 false s<|.mk fun s=>
 @sOp (some 13) (xLen (s.τ 12) s.H) s<|.mk fun s=>
 @sOp (some 14) (xBin .lss false (s.τ 8) (s.τ 13) s.H) s<|.mk fun s=>
 @sIf (s.τ 14) ⟨W121_b6 Φ L0 s⟩ ⟨W121_k2 Φ s⟩
def W121 (Φ:EP) (s:St):Prop:=
 @sOp (some 4) (xAlloc 4 35 [.int .i64 0,.int .i64 0,.int .i64 0,.str ⟨#[]⟩,.int .i64 0,.int .i64 0,.str ⟨#[]⟩,.nils,.nils] s.H) s<|.mk fun s=>
 @sOp (some 5) (xMov (.nils) s.H) s<|.mk fun s=>
 @sOp (some 6) (xAlloc 6 35 [.int .i64 0,.int .i64 0,.int .i64 0,.str ⟨#[]⟩,.int .i64 0,.int .i64 0,.str ⟨#[]⟩,.nils,.nils] s.H) s<|.mk fun s=>
 @sOp (some 7) (xMov (.int .i64 0) s.H) s<|.mk fun s=>
 @sLoop s ⟨fun L0 s=>W121_l7 Φ L0 s⟩
theorem W121_rs (τ:Nat → AV) (H:Heap):resV Tryz.prog τ H [.cell 4 35,.tmp 5] = ob (ob (rdV H 9 true (τ 4)) fun v=>ob (ob (some (τ 5)) fun v=>ob (some []) fun vs=>some (v :: vs)) fun vs=>some (v :: vs)) fun vs=>some (.tup vs):=by kernel_rfl
theorem W121_eq (Φ:EP) (s:St):awp Tryz.prog (Tryz.f121.body.getD .skip) Φ s = W121 Φ s:=by kernel_rfl
theorem W121_S {args:List AV} {r:AV} (hl:args.length ≤ 39) (h:∀ vs,W121 (retK Tryz.prog [.cell 4 35,.tmp 5] r) ⟨Am.look (argT 0 args),hls [] vs,noG⟩):Am.Spec Tryz.prog 121 args r:=.of_W (W:=W121) Tryz.func121 (by kernel_rfl) (by kernel_rfl) (by kernel_rfl) Tryz.ntmps121 W121_eq (by kernel_rfl) hl h
-- 122 "penance/penanceref6.Accept"
def W122 (Φ:EP) (s:St):Prop:=
 @sOp (some 4) (xMov (.nils) s.H) s<|.mk fun s=>
 @sMv 5 0 s<|.mk fun s=>
 @sMv 6 1 s<|.mk fun s=>
 @sCall Tryz.prog (.func 141 []) [(s.τ 5),(s.τ 6),(.nils)] (some 7) s<|.mk fun s=>
 @sMv 4 7 s<|.mk fun s=>
 Φ .ret s
theorem W122_rs (τ:Nat → AV) (H:Heap):resV Tryz.prog τ H [.tmp 4] = some (τ 4):=by kernel_rfl
theorem W122_eq (Φ:EP) (s:St):awp Tryz.prog (Tryz.f122.body.getD .skip) Φ s = W122 Φ s:=by kernel_rfl
theorem W122_S {args:List AV} {r:AV} (hl:args.length ≤ 8) (h:∀ vs,W122 (retK Tryz.prog [.tmp 4] r) ⟨Am.look (argT 0 args),hls [] vs,noG⟩):Am.Spec Tryz.prog 122 args r:=.of_W (W:=W122) Tryz.func122 (by kernel_rfl) (by kernel_rfl) (by kernel_rfl) Tryz.ntmps122 W122_eq (by kernel_rfl) hl h
-- 123 "penance/penanceref6.Merge"
def W123_b2 (Φ:EP) (s:St):Prop:=
 @sMv 10 0 s<|.mk fun s=>
 @sCall Tryz.prog (.func 141 []) [(s.τ 10),(.int .i64 (-1)),(.nils)] (some 11) s<|.mk fun s=>
 @sMv 6 11 s<|.mk fun s=>
 Φ .ret s
def W123_b5 (Φ:EP) (s:St):Prop:=
 @sMv 12 0 s<|.mk fun u1=>
 @sMv 13 2 u1<|.mk fun u2=>
 @sOp (some 14) (xRow 14 35 9 0 [.int .i64 0,.int .i64 0,.int .i64 0,.str ⟨#[]⟩,.int .i64 0,.int .i64 0,.str ⟨#[]⟩,.nils,.nils] [] u2.H) u2<|.mk fun u3=>
 @sMv 15 0 u3<|.mk fun u4=>
 @sMv 16 2 u4<|.mk fun u5=>
 @sChk (compat ([14] ++ occL [],[14] ++ occL []) (occ (u5.τ 15),[])) <| .mk <|
 @sOp (some 17) (xIx 1 (u5.τ 15) (u5.τ 16) u5.H) u5<|.mk fun u6=>
 @sChk (compat ([14] ++ occL [],[14] ++ occL []) (occ (u6.τ 17),[])) <| .mk <|
 @sLd 18 1 17 false u6<|.mk fun u7=>
 @sOp (some 19) (xApp Tryz.prog 35 9 120 (some 19) (u7.τ 14) (u7.τ 18) u7.H) u7<|.mk fun u8=>
 @sMv 20 0 u8<|.mk fun u9=>
 @sMv 21 1 u9<|.mk fun u10=>
 @sChk (compat ([14] ++ occL [],[14] ++ occL []) (occ (u10.τ 20),[])) <| .mk <|
 @sChk (compat ([19] ++ (occ (u7.τ 14) ++ occ (u7.τ 18)),[19] ++ occ (u7.τ 14)) (occ (u10.τ 20),[])) <| .mk <|
 @sOp (some 22) (xIx 1 (u10.τ 20) (u10.τ 21) u10.H) u10<|.mk fun u11=>
 @sChk (compat ([14] ++ occL [],[14] ++ occL []) (occ (u11.τ 22),[])) <| .mk <|
 @sChk (compat ([19] ++ (occ (u7.τ 14) ++ occ (u7.τ 18)),[19] ++ occ (u7.τ 14)) (occ (u11.τ 22),[])) <| .mk <|
 @sLd 23 1 22 false u11<|.mk fun u12=>
 @sOp (some 24) (xApp Tryz.prog 35 9 120 (some 24) (u12.τ 19) (u12.τ 23) u12.H) u12<|.mk fun u13=>
 @sCall0 Tryz.prog (.func 141 []) [(u13.τ 12),(u13.τ 13),(u13.τ 24)] (some 25) u13<|.mk fun u14=>
 @sMv 26 1 u14<|.mk fun u15=>
 @sCall0 Tryz.prog (.func 141 []) [(u15.τ 25),(u15.τ 26),(.nils)] (some 27) u15<|.mk fun u16=>
 @sMv 6 27 u16<|.mk fun s=>
 Φ .ret s
def W123 (Φ:EP) (s:St):Prop:=
 @sOp (some 6) (xMov (.nils) s.H) s<|.mk fun s=>
 @sMv 7 1 s<|.mk fun s=>
 @sMv 8 2 s<|.mk fun s=>
 @sOp (some 9) (xBin .eql false (s.τ 7) (s.τ 8) s.H) s<|.mk fun s=>
 @sIf (s.τ 9) ⟨W123_b2 Φ s⟩ ⟨W123_b5 Φ s⟩
theorem W123_rs (τ:Nat → AV) (H:Heap):resV Tryz.prog τ H [.tmp 6] = some (τ 6):=by kernel_rfl
theorem W123_eq (Φ:EP) (s:St):awp Tryz.prog (Tryz.f123.body.getD .skip) Φ s = W123 Φ s:=by kernel_rfl
theorem W123_S {args:List AV} {r:AV} (hl:args.length ≤ 28) (h:∀ vs,W123 (retK Tryz.prog [.tmp 6] r) ⟨Am.look (argT 0 args),hls [] vs,noG⟩):Am.Spec Tryz.prog 123 args r:=.of_W (W:=W123) Tryz.func123 (by kernel_rfl) (by kernel_rfl) (by kernel_rfl) Tryz.ntmps123 W123_eq (by kernel_rfl) hl h
end Go.Proofs.YtnngddgaobhkiaaGreat
set_option linter.unusedVariables false
set_option maxRecDepth 100000
namespace Go.Proofs.YtnngddgaobhkiaaGreat
open Go Go.Am
-- 130 "slices.Clone[[]penance/api.Expr,penance/api.Expr]"
def W130_b1 (Φ:EP) (s:St):Prop:=
 @sOp (some 2) (xMov (.nils) s.H) s<|.mk fun s=>
 Φ .ret s
def W130_b2 (Φ:EP) (s:St):Prop:=
 @sOp (some 5) (xRow 5 33 4 0 [.int .i64 0,.int .i64 0,.str ⟨#[]⟩,.nils] [] s.H) s<|.mk fun s=>
 @sMv 6 0 s<|.mk fun s=>
 @sOp (some 7) (xApp Tryz.prog 33 4 56 (some 7) (s.τ 5) (s.τ 6) s.H) s<|.mk fun s=>
 @sMv 2 7 s<|.mk fun s=>
 Φ .ret s
def W130 (Φ:EP) (s:St):Prop:=
 @sOp (some 2) (xMov (.nils) s.H) s<|.mk fun s=>
 @sMv 3 0 s<|.mk fun s=>
 @sNil false (s.τ 3) (some 4) s<|.mk fun s=>
 @sIf (s.τ 4) ⟨W130_b1 Φ s⟩ ⟨W130_b2 Φ s⟩
theorem W130_rs (τ:Nat → AV) (H:Heap):resV Tryz.prog τ H [.tmp 2] = some (τ 2):=by kernel_rfl
theorem W130_eq (Φ:EP) (s:St):awp Tryz.prog (Tryz.f130.body.getD .skip) Φ s = W130 Φ s:=by kernel_rfl
theorem W130_S {args:List AV} {r:AV} (hl:args.length ≤ 8) (h:∀ vs,W130 (retK Tryz.prog [.tmp 2] r) ⟨Am.look (argT 0 args),hls [] vs,noG⟩):Am.Spec Tryz.prog 130 args r:=.of_W (W:=W130) Tryz.func130 (by kernel_rfl) (by kernel_rfl) (by kernel_rfl) Tryz.ntmps130 W130_eq (by kernel_rfl) hl h
-- 131 "slices.Clone[[][]penance/api.Term,[]penance/api.Term]"
def W131_b1 (Φ:EP) (s:St):Prop:=
 @sOp (some 2) (xMov (.nils) s.H) s<|.mk fun s=>
 Φ .ret s
def W131_b2 (Φ:EP) (s:St):Prop:=
 @sLit (some 5) (xRow 5 27 1 0 [.nils] [] s.H) (xLitR 1 0 [.nils] [] s.H) s<|.mk fun s=>
 @sMv 6 0 s<|.mk fun s=>
 @sOp (some 7) (xApp Tryz.prog 27 1 24 (some 7) (s.τ 5) (s.τ 6) s.H) s<|.mk fun s=>
 @sMv 2 7 s<|.mk fun s=>
 Φ .ret s
def W131 (Φ:EP) (s:St):Prop:=
 @sOp (some 2) (xMov (.nils) s.H) s<|.mk fun s=>
 @sMv 3 0 s<|.mk fun s=>
 @sNil false (s.τ 3) (some 4) s<|.mk fun s=>
 @sIf (s.τ 4) ⟨W131_b1 Φ s⟩ ⟨W131_b2 Φ s⟩
theorem W131_rs (τ:Nat → AV) (H:Heap):resV Tryz.prog τ H [.tmp 2] = some (τ 2):=by kernel_rfl
theorem W131_eq (Φ:EP) (s:St):awp Tryz.prog (Tryz.f131.body.getD .skip) Φ s = W131 Φ s:=by kernel_rfl
theorem W131_S {args:List AV} {r:AV} (hl:args.length ≤ 8) (h:∀ vs,W131 (retK Tryz.prog [.tmp 2] r) ⟨Am.look (argT 0 args),hls [] vs,noG⟩):Am.Spec Tryz.prog 131 args r:=.of_W (W:=W131) Tryz.func131 (by kernel_rfl) (by kernel_rfl) (by kernel_rfl) Tryz.ntmps131 W131_eq (by kernel_rfl) hl h
-- 132 "penance/lex.Key"
def W132 (Φ:EP) (s:St):Prop:=
 @sOp (some 2) (xMov (.bool false) s.H) s<|.mk fun s=>
 @sCall Tryz.prog (.func 146 []) [] (some 3) s<|.mk fun s=>
 @sMv 4 0 s<|.mk fun s=>
 @sCall Tryz.prog (.func 145 []) [(s.τ 3),(s.τ 4)] (some 5) s<|.mk fun s=>
 @sMv 2 5 s<|.mk fun s=>
 Φ .ret s
theorem W132_rs (τ:Nat → AV) (H:Heap):resV Tryz.prog τ H [.tmp 2] = some (τ 2):=by kernel_rfl
theorem W132_eq (Φ:EP) (s:St):awp Tryz.prog (Tryz.f132.body.getD .skip) Φ s = W132 Φ s:=by kernel_rfl
theorem W132_S {args:List AV} {r:AV} (hl:args.length ≤ 6) (h:∀ vs,W132 (retK Tryz.prog [.tmp 2] r) ⟨Am.look (argT 0 args),hls [] vs,noG⟩):Am.Spec Tryz.prog 132 args r:=.of_W (W:=W132) Tryz.func132 (by kernel_rfl) (by kernel_rfl) (by kernel_rfl) Tryz.ntmps132 W132_eq (by kernel_rfl) hl h
-- 133 "penance/lex.small"
def W133 (Φ:EP) (s:St):Prop:=
 @sOp (some 2) (xMov (.bool false) s.H) s<|.mk fun s=>
 @sMv 3 0 s<|.mk fun s=>
 @sOp (some 4) (xBin .geq false (s.τ 3) (.int .u8 97) s.H) s<|.mk fun s=>
 @sMv 5 4 s<|.mk fun s=>
 @sGm 6 0 5 true s<|.mk fun s=>
 @sGo 7 5 true s (fun s=>(xBin .leq false (s.τ 6) (.int .u8 122) s.H))<|.mk fun s=>
 @sOp (some 8) (xPick (s.τ 5) (s.τ 7) (.bool false) s.H) s<|.mk fun s=>
 @sMv 2 8 s<|.mk fun s=>
 Φ .ret s
theorem W133_rs (τ:Nat → AV) (H:Heap):resV Tryz.prog τ H [.tmp 2] = some (τ 2):=by kernel_rfl
theorem W133_eq (Φ:EP) (s:St):awp Tryz.prog (Tryz.f133.body.getD .skip) Φ s = W133 Φ s:=by kernel_rfl
theorem W133_S {args:List AV} {r:AV} (hl:args.length ≤ 9) (h:∀ vs,W133 (retK Tryz.prog [.tmp 2] r) ⟨Am.look (argT 0 args),hls [] vs,noG⟩):Am.Spec Tryz.prog 133 args r:=.of_W (W:=W133) Tryz.func133 (by kernel_rfl) (by kernel_rfl) (by kernel_rfl) Tryz.ntmps133 W133_eq (by kernel_rfl) hl h
-- 134 "penance/lex.inner"
def W134 (Φ:EP) (s:St):Prop:=
 @sOp (some 2) (xMov (.bool false) s.H) s<|.mk fun s=>
 @sMv 3 0 s<|.mk fun s=>
 @sCall Tryz.prog (.func 133 []) [(s.τ 3)] (some 4) s<|.mk fun s=>
 @sMv 5 4 s<|.mk fun s=>
 @sGm 6 0 5 false s<|.mk fun s=>
 @sGrd (guardOf (s.τ 5) false) (some 7) s ⟨fun s K=>@sCall Tryz.prog (.func 147 []) [(s.τ 6)] (some 7) s ⟨K⟩⟩<|.mk fun s=>
 @sOp (some 8) (xPick (s.τ 5) (.bool true) (s.τ 7) s.H) s<|.mk fun s=>
 @sMv 9 8 s<|.mk fun s=>
 @sGm 10 0 9 false s<|.mk fun s=>
 @sGo 11 9 false s (fun s=>(xBin .eql false (s.τ 10) (.int .u8 95) s.H))<|.mk fun s=>
 @sOp (some 12) (xPick (s.τ 9) (.bool true) (s.τ 11) s.H) s<|.mk fun s=>
 @sMv 2 12 s<|.mk fun s=>
 Φ .ret s
theorem W134_rs (τ:Nat → AV) (H:Heap):resV Tryz.prog τ H [.tmp 2] = some (τ 2):=by kernel_rfl
theorem W134_eq (Φ:EP) (s:St):awp Tryz.prog (Tryz.f134.body.getD .skip) Φ s = W134 Φ s:=by kernel_rfl
theorem W134_S {args:List AV} {r:AV} (hl:args.length ≤ 13) (h:∀ vs,W134 (retK Tryz.prog [.tmp 2] r) ⟨Am.look (argT 0 args),hls [] vs,noG⟩):Am.Spec Tryz.prog 134 args r:=.of_W (W:=W134) Tryz.func134 (by kernel_rfl) (by kernel_rfl) (by kernel_rfl) Tryz.ntmps134 W134_eq (by kernel_rfl) hl h
-- 135 "penance/expr.all"
def W135 (Φ:EP) (s:St):Prop:=
 @sOp (some 1) (xBox 1 33 (s.τ 0) s.H) s<|.mk fun s=>
 @sOp (some 2) (xMov (.nilf) s.H) s<|.mk fun s=>
 @sOp (some 3) (xMkf 148 [(s.τ 1)] s.H) s<|.mk fun s=>
 @sMv 2 3 s<|.mk fun s=>
 Φ .ret s
theorem W135_rs (τ:Nat → AV) (H:Heap):resV Tryz.prog τ H [.tmp 2] = some (τ 2):=by kernel_rfl
theorem W135_eq (Φ:EP) (s:St):awp Tryz.prog (Tryz.f135.body.getD .skip) Φ s = W135 Φ s:=by kernel_rfl
theorem W135_S {args:List AV} {r:AV} (hl:args.length ≤ 4) (h:∀ vs,W135 (retK Tryz.prog [.tmp 2] r) ⟨Am.look (argT 0 args),hls [] vs,noG⟩):Am.Spec Tryz.prog 135 args r:=.of_W (W:=W135) Tryz.func135 (by kernel_rfl) (by kernel_rfl) (by kernel_rfl) Tryz.ntmps135 W135_eq (by kernel_rfl) hl h
-- 136 "penance/expr.children"
def W136_b1 (Φ:EP) (s:St):Prop:=
 @sOp (some 2) (xMov (.int .i64 0) s.H) s<|.mk fun s=>
 Φ .ret s
def W136_b2 (Φ:EP) (s:St):Prop:=
 @sOp (some 2) (xMov (.int .i64 1) s.H) s<|.mk fun s=>
 Φ .ret s
def W136_b3 (Φ:EP) (s:St):Prop:=
 @sOp (some 2) (xMov (.int .i64 2) s.H) s<|.mk fun s=>
 Φ .ret s
def W136_b6 (Φ:EP) (s:St):Prop:=
 @sMv 11 0 s<|.mk fun s=>
 @sOp (some 12) (xBin .eql false (s.τ 11) (.int .i64 3) s.H) s<|.mk fun s=>
 @sMv 13 12 s<|.mk fun s=>
 @sGm 14 0 13 false s<|.mk fun s=>
 @sGo 15 13 false s (fun s=>(xBin .eql false (s.τ 14) (.int .i64 4) s.H))<|.mk fun s=>
 @sOp (some 16) (xPick (s.τ 13) (.bool true) (s.τ 15) s.H) s<|.mk fun s=>
 @sMv 10 16 s<|.mk fun s=>
 @sIf (s.τ 10) ⟨W136_b2 Φ s⟩ ⟨W136_b3 Φ s⟩
def W136 (Φ:EP) (s:St):Prop:=
 @sOp (some 2) (xMov (.int .i64 0) s.H) s<|.mk fun s=>
 @sMv 4 0 s<|.mk fun s=>
 @sOp (some 5) (xBin .eql false (s.τ 4) (.int .i64 1) s.H) s<|.mk fun s=>
 @sMv 6 5 s<|.mk fun s=>
 @sGm 7 0 6 false s<|.mk fun s=>
 @sGo 8 6 false s (fun s=>(xBin .eql false (s.τ 7) (.int .i64 2) s.H))<|.mk fun s=>
 @sOp (some 9) (xPick (s.τ 6) (.bool true) (s.τ 8) s.H) s<|.mk fun s=>
 @sMv 3 9 s<|.mk fun s=>
 @sIf (s.τ 3) ⟨W136_b1 Φ s⟩ ⟨W136_b6 Φ s⟩
theorem W136_rs (τ:Nat → AV) (H:Heap):resV Tryz.prog τ H [.tmp 2] = some (τ 2):=by kernel_rfl
theorem W136_eq (Φ:EP) (s:St):awp Tryz.prog (Tryz.f136.body.getD .skip) Φ s = W136 Φ s:=by kernel_rfl
theorem W136_S {args:List AV} {r:AV} (hl:args.length ≤ 17) (h:∀ vs,W136 (retK Tryz.prog [.tmp 2] r) ⟨Am.look (argT 0 args),hls [] vs,noG⟩):Am.Spec Tryz.prog 136 args r:=.of_W (W:=W136) Tryz.func136 (by kernel_rfl) (by kernel_rfl) (by kernel_rfl) Tryz.ntmps136 W136_eq (by kernel_rfl) hl h
-- 137 "(penance/steps.place).below"
def W137_k1 (Φ:EP) (s:St):Prop:=
 @sLd 31 11 5 true s<|.mk fun s=>
 @sOp none (xStore 11 (s.τ 4) (s.τ 31) s.H) s<|.mk fun s=>
 Φ .ret s
def W137_b3 (Φ:EP) (s:St):Prop:=
 @sFl 25 0 5 s<|.mk fun s=>
 @sLd 26 9 25 true s<|.mk fun s=>
 @sCall Tryz.prog (.func 114 []) [(s.τ 26)] (some 27) s<|.mk fun s=>
 @sOp (some 28) (xLen (s.τ 27) s.H) s<|.mk fun s=>
 @sOp (some 29) (xBin .gtr false (s.τ 28) (.int .i64 0) s.H) s<|.mk fun s=>
 @sFl 30 10 5 s<|.mk fun s=>
 @sOp none (xStore 1 (s.τ 30) (s.τ 29) s.H) s<|.mk fun s=>
 W137_k1 Φ s
def W137 (Φ:EP) (s:St):Prop:=
 @sOp (some 2) (xBox 2 140 (s.τ 0) s.H) s<|.mk fun s=>
 @sOp (some 4) (xAlloc 4 140 [.int .i64 0,.int .i64 0,.int .i64 0,.str ⟨#[]⟩,.int .i64 0,.int .i64 0,.str ⟨#[]⟩,.nils,.nils,.nils,.bool false] s.H) s<|.mk fun s=>
 @sFl 6 0 2 s<|.mk fun u1=>
 @sFl 7 8 6 u1<|.mk fun u2=>
 @sLd 8 1 7 false u2<|.mk fun u3=>
 @sMv 9 1 u3<|.mk fun u4=>
 @sOp (some 10) (xIx 9 (u4.τ 8) (u4.τ 9) u4.H) u4<|.mk fun u5=>
 @sLd 11 9 10 true u5<|.mk fun u6=>
 @sFl 12 9 2 u6<|.mk fun u7=>
 @sLd 13 1 12 false u7<|.mk fun u8=>
 @sChk (compat (occ (s.τ 2),[]) (cfp 14 33 [(u8.τ 13)])) <| .mk <|
 @sChk (compat (occ (u1.τ 6),[]) (cfp 14 33 [(u8.τ 13)])) <| .mk <|
 @sChk (compat (occ (u2.τ 7),[]) (cfp 14 33 [(u8.τ 13)])) <| .mk <|
 @sChk (compat (occ (u4.τ 8),[]) (cfp 14 33 [(u8.τ 13)])) <| .mk <|
 @sChk (compat (occ (u5.τ 10),[]) (cfp 14 33 [(u8.τ 13)])) <| .mk <|
 @sCall0 Tryz.prog (.func 33 []) [(u8.τ 13)] (some 14) u8<|.mk fun u9=>
 @sMv 15 1 u9<|.mk fun u10=>
 @sChk (compat (occ (s.τ 2),[]) ([16] ++ occL [(u10.τ 15)],[16] ++ occL [(u10.τ 15)])) <| .mk <|
 @sChk (compat (occ (u1.τ 6),[]) ([16] ++ occL [(u10.τ 15)],[16] ++ occL [(u10.τ 15)])) <| .mk <|
 @sChk (compat (occ (u2.τ 7),[]) ([16] ++ occL [(u10.τ 15)],[16] ++ occL [(u10.τ 15)])) <| .mk <|
 @sChk (compat (occ (u4.τ 8),[]) ([16] ++ occL [(u10.τ 15)],[16] ++ occL [(u10.τ 15)])) <| .mk <|
 @sChk (compat (occ (u5.τ 10),[]) ([16] ++ occL [(u10.τ 15)],[16] ++ occL [(u10.τ 15)])) <| .mk <|
 @sChk (compat (occ (u6.τ 2),[]) ([16] ++ occL [(u10.τ 15)],[16] ++ occL [(u10.τ 15)])) <| .mk <|
 @sChk (compat (occ (u7.τ 12),[]) ([16] ++ occL [(u10.τ 15)],[16] ++ occL [(u10.τ 15)])) <| .mk <|
 @sChk (compat (cfp 14 33 [(u8.τ 13)]) ([16] ++ occL [(u10.τ 15)],[16] ++ occL [(u10.τ 15)])) <| .mk <|
 @sOp (some 16) (xLit 1 1 [.int .i64 0] [(0,(u10.τ 15))] u10.H) u10<|.mk fun u11=>
 @sChk (compat (occ (s.τ 2),[]) ([17] ++ (occ (u11.τ 14) ++ occ (u11.τ 16)),[17] ++ occ (u11.τ 14))) <| .mk <|
 @sChk (compat (occ (u1.τ 6),[]) ([17] ++ (occ (u11.τ 14) ++ occ (u11.τ 16)),[17] ++ occ (u11.τ 14))) <| .mk <|
 @sChk (compat (occ (u2.τ 7),[]) ([17] ++ (occ (u11.τ 14) ++ occ (u11.τ 16)),[17] ++ occ (u11.τ 14))) <| .mk <|
 @sChk (compat (occ (u4.τ 8),[]) ([17] ++ (occ (u11.τ 14) ++ occ (u11.τ 16)),[17] ++ occ (u11.τ 14))) <| .mk <|
 @sChk (compat (occ (u5.τ 10),[]) ([17] ++ (occ (u11.τ 14) ++ occ (u11.τ 16)),[17] ++ occ (u11.τ 14))) <| .mk <|
 @sOp (some 17) (xApp Tryz.prog 3 1 8 (some 17) (u11.τ 14) (u11.τ 16) u11.H) u11<|.mk fun u12=>
 @sChk (compat (cfp 14 33 [(u8.τ 13)]) (occ (u12.τ 2),[])) <| .mk <|
 @sChk (compat ([16] ++ occL [(u10.τ 15)],[16] ++ occL [(u10.τ 15)]) (occ (u12.τ 2),[])) <| .mk <|
 @sChk (compat ([17] ++ (occ (u11.τ 14) ++ occ (u11.τ 16)),[17] ++ occ (u11.τ 14)) (occ (u12.τ 2),[])) <| .mk <|
 @sFl 18 10 2 u12<|.mk fun u13=>
 @sChk (compat (cfp 14 33 [(u8.τ 13)]) (occ (u13.τ 18),[])) <| .mk <|
 @sChk (compat ([16] ++ occL [(u10.τ 15)],[16] ++ occL [(u10.τ 15)]) (occ (u13.τ 18),[])) <| .mk <|
 @sChk (compat ([17] ++ (occ (u11.τ 14) ++ occ (u11.τ 16)),[17] ++ occ (u11.τ 14)) (occ (u13.τ 18),[])) <| .mk <|
 @sLd 19 1 18 false u13<|.mk fun u14=>
 @sOp (some 20) (xBuild [.int .i64 0,.int .i64 0,.int .i64 0,.str ⟨#[]⟩,.int .i64 0,.int .i64 0,.str ⟨#[]⟩,.nils,.nils,.nils,.bool false] [(0,9,(u14.τ 11)),(9,1,(u14.τ 17)),(10,1,(u14.τ 19))] u14.H) u14<|.mk fun u15=>
 @sChk (compat (occ (s.τ 2),[]) ([5],[5])) <| .mk <|
 @sChk (compat (occ (u1.τ 6),[]) ([5],[5])) <| .mk <|
 @sChk (compat (occ (u2.τ 7),[]) ([5],[5])) <| .mk <|
 @sChk (compat (occ (u4.τ 8),[]) ([5],[5])) <| .mk <|
 @sChk (compat (occ (u5.τ 10),[]) ([5],[5])) <| .mk <|
 @sChk (compat (occ (u6.τ 2),[]) ([5],[5])) <| .mk <|
 @sChk (compat (occ (u7.τ 12),[]) ([5],[5])) <| .mk <|
 @sChk (compat (cfp 14 33 [(u8.τ 13)]) ([5],[5])) <| .mk <|
 @sChk (compat ([16] ++ occL [(u10.τ 15)],[16] ++ occL [(u10.τ 15)]) ([5],[5])) <| .mk <|
 @sChk (compat ([17] ++ (occ (u11.τ 14) ++ occ (u11.τ 16)),[17] ++ occ (u11.τ 14)) ([5],[5])) <| .mk <|
 @sChk (compat (occ (u12.τ 2),[]) ([5],[5])) <| .mk <|
 @sChk (compat (occ (u13.τ 18),[]) ([5],[5])) <| .mk <|
 @sOp (some 5) (xAlloc 5 140 [.int .i64 0,.int .i64 0,.int .i64 0,.str ⟨#[]⟩,.int .i64 0,.int .i64 0,.str ⟨#[]⟩,.nils,.nils,.nils,.bool false] u15.H) u15<|.mk fun u16=>
 @sOp none (xStore 11 (u16.τ 5) (u16.τ 20) u16.H) u16<|.mk fun s=>
 @sFl 21 0 2 s<|.mk fun s=>
 @sFl 22 0 21 s<|.mk fun s=>
 @sLd 23 1 22 false s<|.mk fun s=>
 @sOp (some 24) (xBin .eql false (s.τ 23) (.int .i64 7) s.H) s<|.mk fun s=>
 @sIf (s.τ 24) ⟨W137_b3 Φ s⟩ ⟨W137_k1 Φ s⟩
theorem W137_rs (τ:Nat → AV) (H:Heap):resV Tryz.prog τ H [.cell 4 140] = rdV H 11 true (τ 4):=by kernel_rfl
theorem W137_eq (Φ:EP) (s:St):awp Tryz.prog (Tryz.f137.body.getD .skip) Φ s = W137 Φ s:=by kernel_rfl
theorem W137_S {args:List AV} {r:AV} (hl:args.length ≤ 32) (h:∀ vs,W137 (retK Tryz.prog [.cell 4 140] r) ⟨Am.look (argT 0 args),hls [] vs,noG⟩):Am.Spec Tryz.prog 137 args r:=.of_W (W:=W137) Tryz.func137 (by kernel_rfl) (by kernel_rfl) (by kernel_rfl) Tryz.ntmps137 W137_eq (by kernel_rfl) hl h
-- 138 "penance/term.active"
def W138 (Φ:EP) (s:St):Prop:=
 @sOp (some 1) (xBox 1 35 (s.τ 0) s.H) s<|.mk fun s=>
 @sOp (some 2) (xMov (.nilf) s.H) s<|.mk fun s=>
 @sOp (some 3) (xMkf 150 [(s.τ 1)] s.H) s<|.mk fun s=>
 @sMv 2 3 s<|.mk fun s=>
 Φ .ret s
theorem W138_rs (τ:Nat → AV) (H:Heap):resV Tryz.prog τ H [.tmp 2] = some (τ 2):=by kernel_rfl
theorem W138_eq (Φ:EP) (s:St):awp Tryz.prog (Tryz.f138.body.getD .skip) Φ s = W138 Φ s:=by kernel_rfl
theorem W138_S {args:List AV} {r:AV} (hl:args.length ≤ 4) (h:∀ vs,W138 (retK Tryz.prog [.tmp 2] r) ⟨Am.look (argT 0 args),hls [] vs,noG⟩):Am.Spec Tryz.prog 138 args r:=.of_W (W:=W138) Tryz.func138 (by kernel_rfl) (by kernel_rfl) (by kernel_rfl) Tryz.ntmps138 W138_eq (by kernel_rfl) hl h
-- 139 "penance/stacks.mapped[penance/api.Expr]"
def W139_k2 (Φ:EP) (s:St):Prop:=
 @sMv 22 5 s<|.mk fun s=>
 @sOp (some 23) (xLen (s.τ 22) s.H) s<|.mk fun s=>
 @sMv 8 23 s<|.mk fun s=>
 @sMv 24 5 s<|.mk fun s=>
 @sMv 25 8 s<|.mk fun s=>
 @sMv 26 8 s<|.mk fun s=>
 @sOp (some 27) (xSl3 4 (s.τ 24) (s.τ 25) (s.τ 26) (frz s.H (s.τ 24))) s<|.mk fun s=>
 @sCall Tryz.prog (.func 130 []) [(s.τ 27)] (some 28) s<|.mk fun s=>
 @sMv 4 28 s<|.mk fun s=>
 Φ .ret s
def W139_b4 (Φ:EP) (L0:SP) (s:St):Prop:=
 @sOp (some 13) (xIx 4 (s.τ 9) (s.τ 11) s.H) s<|.mk fun s=>
 @sLd 14 4 13 true s<|.mk fun s=>
 @sOp (some 7) (xAlloc 7 33 [.int .i64 0,.int .i64 0,.str ⟨#[]⟩,.nils] s.H) s<|.mk fun s=>
 @sOp none (xStore 4 (s.τ 7) (s.τ 14) s.H) s<|.mk fun s=>
 @sMv 15 5 s<|.mk fun s=>
 @sMv 16 1 s<|.mk fun s=>
 @sLd 17 4 7 true s<|.mk fun s=>
 @sCall Tryz.prog (s.τ 16) [(s.τ 17)] (some 18) s<|.mk fun s=>
 @sOp (some 19) (xLit 4 1 [.int .i64 0,.int .i64 0,.str ⟨#[]⟩,.nils] [(0,(s.τ 18))] s.H) s<|.mk fun s=>
 @sOp (some 20) (xApp Tryz.prog 33 4 56 (some 20) (s.τ 15) (s.τ 19) s.H) s<|.mk fun s=>
 @sMv 5 20 s<|.mk fun s=>
 @sOp (some 21) (xBin .add false (s.τ 11) (.int .i64 1) s.H) s<|.mk fun s=>
 @sMv 11 21 s<|.mk fun s=>
 L0 s
def W139_l5 (Φ:EP) (L0:SP) (s:St):Prop:=
 @sOp (some 12) (xBin .lss false (s.τ 11) (s.τ 10) s.H) s<|.mk fun s=>
 @sIf (s.τ 12) ⟨W139_b4 Φ L0 s⟩ ⟨W139_k2 Φ s⟩
def W139 (Φ:EP) (s:St):Prop:=
 @sOp (some 4) (xMov (.nils) s.H) s<|.mk fun s=>
 @sOp (some 5) (xMov (.nils) s.H) s<|.mk fun s=>
 @sMv 9 0 s<|.mk fun s=>
 @sOp (some 10) (xLen (s.τ 9) s.H) s<|.mk fun s=>
 @sOp (some 11) (xMov (.int .i64 0) s.H) s<|.mk fun s=>
 @sLoop s ⟨fun L0 s=>W139_l5 Φ L0 s⟩
theorem W139_rs (τ:Nat → AV) (H:Heap):resV Tryz.prog τ H [.tmp 4] = some (τ 4):=by kernel_rfl
theorem W139_eq (Φ:EP) (s:St):awp Tryz.prog (Tryz.f139.body.getD .skip) Φ s = W139 Φ s:=by kernel_rfl
theorem W139_S {args:List AV} {r:AV} (hl:args.length ≤ 29) (h:∀ vs,W139 (retK Tryz.prog [.tmp 4] r) ⟨Am.look (argT 0 args),hls [] vs,noG⟩):Am.Spec Tryz.prog 139 args r:=.of_W (W:=W139) Tryz.func139 (by kernel_rfl) (by kernel_rfl) (by kernel_rfl) Tryz.ntmps139 W139_eq (by kernel_rfl) hl h
-- 140 "penance/penanceref2.times"
def W140_b1 (Φ:EP) (s:St):Prop:=
 @sOp (some 4) (xMov (.int .i64 0) s.H) s<|.mk fun s=>
 @sOp (some 5) (xMov (.int .i64 0) s.H) s<|.mk fun s=>
 Φ .ret s
def W140_b2 (Φ:EP) (s:St):Prop:=
 @sOp (some 4) (xMov (.int .i64 0) s.H) s<|.mk fun s=>
 @sOp (some 5) (xMov (.int .i64 8) s.H) s<|.mk fun s=>
 Φ .ret s
def W140_b3 (Φ:EP) (s:St):Prop:=
 @sMv 37 6 s<|.mk fun s=>
 @sMv 4 37 s<|.mk fun s=>
 @sOp (some 5) (xMov (.int .i64 0) s.H) s<|.mk fun s=>
 Φ .ret s
def W140_b16 (Φ:EP) (s:St):Prop:=
 @sMv 13 0 s<|.mk fun s=>
 @sMv 14 1 s<|.mk fun s=>
 @sOp (some 15) (xBin .mul false (s.τ 13) (s.τ 14) s.H) s<|.mk fun s=>
 @sMv 6 15 s<|.mk fun s=>
 @sMv 16 6 s<|.mk fun s=>
 @sMv 17 1 s<|.mk fun s=>
 @sOp (some 18) (xBin .quo false (s.τ 16) (s.τ 17) s.H) s<|.mk fun s=>
 @sMv 19 0 s<|.mk fun s=>
 @sOp (some 20) (xBin .neq false (s.τ 18) (s.τ 19) s.H) s<|.mk fun s=>
 @sMv 21 20 s<|.mk fun s=>
 @sGm 22 0 21 false s<|.mk fun s=>
 @sGo 23 21 false s (fun s=>(xBin .eql false (s.τ 22) (.int .i64 (-1)) s.H))<|.mk fun s=>
 @sGm 24 23 21 false s<|.mk fun s=>
 @sGm 25 1 24 true s<|.mk fun s=>
 @sGo 26 24 true s (fun s=>(xBin .eql false (s.τ 25) (.int .i64 (-9223372036854775808)) s.H))<|.mk fun s=>
 @sGo 27 21 false s (fun s=>(xPick (s.τ 24) (s.τ 26) (.bool false) s.H))<|.mk fun s=>
 @sOp (some 28) (xPick (s.τ 21) (.bool true) (s.τ 27) s.H) s<|.mk fun s=>
 @sMv 29 28 s<|.mk fun s=>
 @sGm 30 1 29 false s<|.mk fun s=>
 @sGo 31 29 false s (fun s=>(xBin .eql false (s.τ 30) (.int .i64 (-1)) s.H))<|.mk fun s=>
 @sGm 32 31 29 false s<|.mk fun s=>
 @sGm 33 0 32 true s<|.mk fun s=>
 @sGo 34 32 true s (fun s=>(xBin .eql false (s.τ 33) (.int .i64 (-9223372036854775808)) s.H))<|.mk fun s=>
 @sGo 35 29 false s (fun s=>(xPick (s.τ 32) (s.τ 34) (.bool false) s.H))<|.mk fun s=>
 @sOp (some 36) (xPick (s.τ 29) (.bool true) (s.τ 35) s.H) s<|.mk fun s=>
 @sIf (s.τ 36) ⟨W140_b2 Φ s⟩ ⟨W140_b3 Φ s⟩
def W140 (Φ:EP) (s:St):Prop:=
 @sOp (some 4) (xMov (.int .i64 0) s.H) s<|.mk fun s=>
 @sOp (some 5) (xMov (.int .i64 0) s.H) s<|.mk fun s=>
 @sMv 7 0 s<|.mk fun s=>
 @sOp (some 8) (xBin .eql false (s.τ 7) (.int .i64 0) s.H) s<|.mk fun s=>
 @sMv 9 8 s<|.mk fun s=>
 @sGm 10 1 9 false s<|.mk fun s=>
 @sGo 11 9 false s (fun s=>(xBin .eql false (s.τ 10) (.int .i64 0) s.H))<|.mk fun s=>
 @sOp (some 12) (xPick (s.τ 9) (.bool true) (s.τ 11) s.H) s<|.mk fun s=>
 @sIf (s.τ 12) ⟨W140_b1 Φ s⟩ ⟨W140_b16 Φ s⟩
theorem W140_rs (τ:Nat → AV) (H:Heap):resV Tryz.prog τ H [.tmp 4,.tmp 5] = ob (ob (some (τ 4)) fun v=>ob (ob (some (τ 5)) fun v=>ob (some []) fun vs=>some (v :: vs)) fun vs=>some (v :: vs)) fun vs=>some (.tup vs):=by kernel_rfl
theorem W140_eq (Φ:EP) (s:St):awp Tryz.prog (Tryz.f140.body.getD .skip) Φ s = W140 Φ s:=by kernel_rfl
theorem W140_S {args:List AV} {r:AV} (hl:args.length ≤ 38) (h:∀ vs,W140 (retK Tryz.prog [.tmp 4,.tmp 5] r) ⟨Am.look (argT 0 args),hls [] vs,noG⟩):Am.Spec Tryz.prog 140 args r:=.of_W (W:=W140) Tryz.func140 (by kernel_rfl) (by kernel_rfl) (by kernel_rfl) Tryz.ntmps140 W140_eq (by kernel_rfl) hl h
-- 141 "penance/penanceref6.copied"
def W141_k1 (Φ:EP) (s:St):Prop:=
 @sMv 30 7 s<|.mk fun s=>
 @sMv 6 30 s<|.mk fun s=>
 Φ .ret s
def W141_k2 (Φ:EP) (L0:SP) (s:St):Prop:=
 @sMv 24 7 s<|.mk fun s=>
 @sOp (some 25) (xRow 25 35 9 0 [.int .i64 0,.int .i64 0,.int .i64 0,.str ⟨#[]⟩,.int .i64 0,.int .i64 0,.str ⟨#[]⟩,.nils,.nils] [] s.H) s<|.mk fun s=>
 @sMv 26 9 s<|.mk fun s=>
 @sOp (some 27) (xApp Tryz.prog 35 9 120 (some 27) (s.τ 25) (s.τ 26) s.H) s<|.mk fun s=>
 @sLit (some 28) (xLit 1 1 [.nils] [(0,(s.τ 27))] s.H) (xLitR 1 1 [.nils] [(0,(s.τ 27))] s.H) s<|.mk fun s=>
 @sOp (some 29) (xApp Tryz.prog 27 1 24 (some 29) (s.τ 24) (s.τ 28) s.H) s<|.mk fun s=>
 @sMv 7 29 s<|.mk fun s=>
 @sMv 14 8 s<|.mk fun s=>
 @sOp (some 15) (xBin .add false (s.τ 14) (.int .i64 1) s.H) s<|.mk fun s=>
 @sMv 8 15 s<|.mk fun s=>
 L0 s
def W141_b3 (Φ:EP) (L0:SP) (s:St):Prop:=
 @sMv 23 2 s<|.mk fun s=>
 @sMv 9 23 s<|.mk fun s=>
 W141_k2 Φ L0 s
def W141_b4 (Φ:EP) (L0:SP) (s:St):Prop:=
 @sMv 16 0 s<|.mk fun s=>
 @sMv 17 8 s<|.mk fun s=>
 @sOp (some 18) (xIx 1 (s.τ 16) (s.τ 17) s.H) s<|.mk fun s=>
 @sLd 19 1 18 false s<|.mk fun s=>
 @sMv 9 19 s<|.mk fun s=>
 @sMv 20 8 s<|.mk fun s=>
 @sMv 21 1 s<|.mk fun s=>
 @sOp (some 22) (xBin .eql false (s.τ 20) (s.τ 21) s.H) s<|.mk fun s=>
 @sIf (s.τ 22) ⟨W141_b3 Φ L0 s⟩ ⟨W141_k2 Φ L0 s⟩
def W141_l5 (Φ:EP) (L0:SP) (s:St):Prop:=
 @sMv 10 8 s<|.mk fun s=>
 @sMv 11 0 s<|.mk fun s=>
 @sOp (some 12) (xLen (s.τ 11) s.H) s<|.mk fun s=>
 @sOp (some 13) (xBin .lss false (s.τ 10) (s.τ 12) s.H) s<|.mk fun s=>
 @sIf (s.τ 13) ⟨W141_b4 Φ L0 s⟩ ⟨W141_k1 Φ s⟩
def W141 (Φ:EP) (s:St):Prop:=
 @sOp (some 6) (xMov (.nils) s.H) s<|.mk fun s=>
 @sOp (some 7) (xMov (.nils) s.H) s<|.mk fun s=>
 @sOp (some 8) (xMov (.int .i64 0) s.H) s<|.mk fun s=>
 @sLoop s ⟨fun L0 s=>W141_l5 Φ L0 s⟩
theorem W141_rs (τ:Nat → AV) (H:Heap):resV Tryz.prog τ H [.tmp 6] = some (τ 6):=by kernel_rfl
theorem W141_eq (Φ:EP) (s:St):awp Tryz.prog (Tryz.f141.body.getD .skip) Φ s = W141 Φ s:=by kernel_rfl
theorem W141_S {args:List AV} {r:AV} (hl:args.length ≤ 31) (h:∀ vs,W141 (retK Tryz.prog [.tmp 6] r) ⟨Am.look (argT 0 args),hls [] vs,noG⟩):Am.Spec Tryz.prog 141 args r:=.of_W (W:=W141) Tryz.func141 (by kernel_rfl) (by kernel_rfl) (by kernel_rfl) Tryz.ntmps141 W141_eq (by kernel_rfl) hl h
-- 145 "slices.Contains[[]string,string]"
def W145 (Φ:EP) (s:St):Prop:=
 @sOp (some 4) (xMov (.bool false) s.H) s<|.mk fun s=>
 @sMv 5 0 s<|.mk fun s=>
 @sMv 6 1 s<|.mk fun s=>
 @sCall Tryz.prog (.func 152 []) [(s.τ 5),(s.τ 6)] (some 7) s<|.mk fun s=>
 @sOp (some 8) (xBin .geq false (s.τ 7) (.int .i64 0) s.H) s<|.mk fun s=>
 @sMv 4 8 s<|.mk fun s=>
 Φ .ret s
theorem W145_rs (τ:Nat → AV) (H:Heap):resV Tryz.prog τ H [.tmp 4] = some (τ 4):=by kernel_rfl
theorem W145_eq (Φ:EP) (s:St):awp Tryz.prog (Tryz.f145.body.getD .skip) Φ s = W145 Φ s:=by kernel_rfl
theorem W145_S {args:List AV} {r:AV} (hl:args.length ≤ 9) (h:∀ vs,W145 (retK Tryz.prog [.tmp 4] r) ⟨Am.look (argT 0 args),hls [] vs,noG⟩):Am.Spec Tryz.prog 145 args r:=.of_W (W:=W145) Tryz.func145 (by kernel_rfl) (by kernel_rfl) (by kernel_rfl) Tryz.ntmps145 W145_eq (by kernel_rfl) hl h
-- 146 "penance/lex.words"
def W146 (Φ:EP) (s:St):Prop:=
 @sOp (some 0) (xMov (.nils) s.H) s<|.mk fun s=>
 @sOp (some 1) (xLit 1 16 [.str ⟨#[]⟩] [(0,(.str ⟨#[118,97,114]⟩)),(1,(.str ⟨#[115,116,97,99,107]⟩)),(2,(.str ⟨#[112,114,111,99]⟩)),(3,(.str ⟨#[115,107,105,112]⟩)),(4,(.str ⟨#[100,111]⟩)),(5,(.str ⟨#[112,117,115,104]⟩)),(6,(.str ⟨#[114,101,118,101,114,115,101]⟩)),(7,(.str ⟨#[97,99,99,101,112,116]⟩)),(8,(.str ⟨#[109,101,114,103,101]⟩)),(9,(.str ⟨#[98,108,111,99,107]⟩)),(10,(.str ⟨#[101,120,105,116]⟩)),(11,(.str ⟨#[105,102]⟩)),(12,(.str ⟨#[101,108,115,101]⟩)),(13,(.str ⟨#[99,104,111,111,115,101]⟩)),(14,(.str ⟨#[112,97,114]⟩)),(15,(.str ⟨#[99,97,108,108]⟩))] s.H) s<|.mk fun s=>
 @sMv 0 1 s<|.mk fun s=>
 Φ .ret s
theorem W146_rs (τ:Nat → AV) (H:Heap):resV Tryz.prog τ H [.tmp 0] = some (τ 0):=by kernel_rfl
theorem W146_eq (Φ:EP) (s:St):awp Tryz.prog (Tryz.f146.body.getD .skip) Φ s = W146 Φ s:=by kernel_rfl
theorem W146_S {args:List AV} {r:AV} (hl:args.length ≤ 2) (h:∀ vs,W146 (retK Tryz.prog [.tmp 0] r) ⟨Am.look (argT 0 args),hls [] vs,noG⟩):Am.Spec Tryz.prog 146 args r:=.of_W (W:=W146) Tryz.func146 (by kernel_rfl) (by kernel_rfl) (by kernel_rfl) Tryz.ntmps146 W146_eq (by kernel_rfl) hl h
-- 147 "penance/lex.digit"
def W147 (Φ:EP) (s:St):Prop:=
 @sOp (some 2) (xMov (.bool false) s.H) s<|.mk fun s=>
 @sMv 3 0 s<|.mk fun s=>
 @sOp (some 4) (xBin .geq false (s.τ 3) (.int .u8 48) s.H) s<|.mk fun s=>
 @sMv 5 4 s<|.mk fun s=>
 @sGm 6 0 5 true s<|.mk fun s=>
 @sGo 7 5 true s (fun s=>(xBin .leq false (s.τ 6) (.int .u8 57) s.H))<|.mk fun s=>
 @sOp (some 8) (xPick (s.τ 5) (s.τ 7) (.bool false) s.H) s<|.mk fun s=>
 @sMv 2 8 s<|.mk fun s=>
 Φ .ret s
theorem W147_rs (τ:Nat → AV) (H:Heap):resV Tryz.prog τ H [.tmp 2] = some (τ 2):=by kernel_rfl
theorem W147_eq (Φ:EP) (s:St):awp Tryz.prog (Tryz.f147.body.getD .skip) Φ s = W147 Φ s:=by kernel_rfl
theorem W147_S {args:List AV} {r:AV} (hl:args.length ≤ 9) (h:∀ vs,W147 (retK Tryz.prog [.tmp 2] r) ⟨Am.look (argT 0 args),hls [] vs,noG⟩):Am.Spec Tryz.prog 147 args r:=.of_W (W:=W147) Tryz.func147 (by kernel_rfl) (by kernel_rfl) (by kernel_rfl) Tryz.ntmps147 W147_eq (by kernel_rfl) hl h
-- 148 "penance/expr.all$1"
def W148 (Φ:EP) (s:St):Prop:=
 @sLd 3 4 1 true s<|.mk fun s=>
 @sMv 4 0 s<|.mk fun s=>
 @sCall Tryz.prog (.func 149 []) [(s.τ 3),(s.τ 4)] (some 5) s<|.mk fun s=>
 Φ .normal s
theorem W148_rs (τ:Nat → AV) (H:Heap):resV Tryz.prog τ H [] = ob (some []) fun vs=>some (.tup vs):=by kernel_rfl
theorem W148_eq (Φ:EP) (s:St):awp Tryz.prog (Tryz.f148.body.getD .skip) Φ s = W148 Φ s:=by kernel_rfl
theorem W148_S {args:List AV} {r:AV} (hl:args.length ≤ 6) (h:∀ vs,W148 (retK Tryz.prog [] r) ⟨Am.look (argT 0 args),hls [] vs,noG⟩):Am.Spec Tryz.prog 148 args r:=.of_W (W:=W148) Tryz.func148 (by kernel_rfl) (by kernel_rfl) (by kernel_rfl) Tryz.ntmps148 W148_eq (by kernel_rfl) hl h
-- 149 "penance/expr.walk"
def W149_b1 (Φ:EP) (s:St):Prop:=
 @sOp (some 4) (xMov (.bool false) s.H) s<|.mk fun s=>
 Φ .ret s
def W149_k2 (Φ:EP) (s:St):Prop:=
 @sOp (some 4) (xMov (.bool true) s.H) s<|.mk fun s=>
 Φ .ret s
def W149_b3 (Φ:EP) (L0:SP) (s:St):Prop:=
 @sOp (some 4) (xMov (.bool false) s.H) s<|.mk fun s=>
 Φ .ret s
def W149_b4 (Φ:EP) (L0:SP) (s:St):Prop:=
 @sOp (some 22) (xBin .add false (s.τ 14) (.int .i64 1) s.H) s<|.mk fun s=>
 @sMv 14 22 s<|.mk fun s=>
 L0 s
def W149_b6 (Φ:EP) (L0:SP) (s:St):Prop:=
 @sOp (some 16) (xIx 4 (s.τ 12) (s.τ 14) s.H) s<|.mk fun s=>
 @sLd 17 4 16 true s<|.mk fun s=>
 @sOp (some 6) (xAlloc 6 33 [.int .i64 0,.int .i64 0,.str ⟨#[]⟩,.nils] s.H) s<|.mk fun s=>
 @sOp none (xStore 4 (s.τ 6) (s.τ 17) s.H) s<|.mk fun s=>
 @sLd 18 4 6 true s<|.mk fun s=>
 @sMv 19 1 s<|.mk fun s=>
 @sCall Tryz.prog (.func 149 []) [(s.τ 18),(s.τ 19)] (some 20) s<|.mk fun s=>
 @sOp (some 21) (xNot (s.τ 20) s.H) s<|.mk fun s=>
 @sIf (s.τ 21) ⟨W149_b3 Φ L0 s⟩ ⟨W149_b4 Φ L0 s⟩
def W149_l7 (Φ:EP) (L0:SP) (s:St):Prop:=
 @sOp (some 15) (xBin .lss false (s.τ 14) (s.τ 13) s.H) s<|.mk fun s=>
 @sIf (s.τ 15) ⟨W149_b6 Φ L0 s⟩ ⟨W149_k2 Φ s⟩
def W149_b8 (Φ:EP) (s:St):Prop:=
 @sFl 11 3 2 s<|.mk fun s=>
 @sLd 12 1 11 false s<|.mk fun s=>
 @sOp (some 13) (xLen (s.τ 12) s.H) s<|.mk fun s=>
 @sOp (some 14) (xMov (.int .i64 0) s.H) s<|.mk fun s=>
 @sLoop s ⟨fun L0 s=>W149_l7 Φ L0 s⟩
def W149 (Φ:EP) (s:St):Prop:=
 @sOp (some 2) (xBox 2 33 (s.τ 0) s.H) s<|.mk fun s=>
 @sOp (some 4) (xMov (.bool false) s.H) s<|.mk fun s=>
 @sMv 7 1 s<|.mk fun s=>
 @sLd 8 4 2 true s<|.mk fun s=>
 @sCall Tryz.prog (s.τ 7) [(s.τ 8)] (some 9) s<|.mk fun s=>
 @sOp (some 10) (xNot (s.τ 9) s.H) s<|.mk fun s=>
 @sIf (s.τ 10) ⟨W149_b1 Φ s⟩ ⟨W149_b8 Φ s⟩
theorem W149_rs (τ:Nat → AV) (H:Heap):resV Tryz.prog τ H [.tmp 4] = some (τ 4):=by kernel_rfl
theorem W149_eq (Φ:EP) (s:St):awp Tryz.prog (Tryz.f149.body.getD .skip) Φ s = W149 Φ s:=by kernel_rfl
theorem W149_S {args:List AV} {r:AV} (hl:args.length ≤ 23) (h:∀ vs,W149 (retK Tryz.prog [.tmp 4] r) ⟨Am.look (argT 0 args),hls [] vs,noG⟩):Am.Spec Tryz.prog 149 args r:=.of_W (W:=W149) Tryz.func149 (by kernel_rfl) (by kernel_rfl) (by kernel_rfl) Tryz.ntmps149 W149_eq (by kernel_rfl) hl h
-- 150 "penance/term.active$1"
def W150 (Φ:EP) (s:St):Prop:=
 @sLd 3 9 1 true s<|.mk fun s=>
 @sMv 4 0 s<|.mk fun s=>
 @sCall Tryz.prog (.func 151 []) [(s.τ 3),(s.τ 4)] (some 5) s<|.mk fun s=>
 Φ .normal s
theorem W150_rs (τ:Nat → AV) (H:Heap):resV Tryz.prog τ H [] = ob (some []) fun vs=>some (.tup vs):=by kernel_rfl
theorem W150_eq (Φ:EP) (s:St):awp Tryz.prog (Tryz.f150.body.getD .skip) Φ s = W150 Φ s:=by kernel_rfl
theorem W150_S {args:List AV} {r:AV} (hl:args.length ≤ 6) (h:∀ vs,W150 (retK Tryz.prog [] r) ⟨Am.look (argT 0 args),hls [] vs,noG⟩):Am.Spec Tryz.prog 150 args r:=.of_W (W:=W150) Tryz.func150 (by kernel_rfl) (by kernel_rfl) (by kernel_rfl) Tryz.ntmps150 W150_eq (by kernel_rfl) hl h
-- 151 "penance/term.walk"
def W151_b1 (Φ:EP) (s:St):Prop:=
 @sOp (some 4) (xMov (.bool false) s.H) s<|.mk fun s=>
 Φ .ret s
def W151_k2 (Φ:EP) (s:St):Prop:=
 @sOp (some 4) (xMov (.bool true) s.H) s<|.mk fun s=>
 Φ .ret s
def W151_b3 (Φ:EP) (L0:SP) (s:St):Prop:=
 @sOp (some 4) (xMov (.bool false) s.H) s<|.mk fun s=>
 Φ .ret s
def W151_b4 (Φ:EP) (L0:SP) (s:St):Prop:=
 @sOp (some 36) (xBin .add false (s.τ 28) (.int .i64 1) s.H) s<|.mk fun s=>
 @sMv 28 36 s<|.mk fun s=>
 L0 s
def W151_b6 (Φ:EP) (L0:SP) (s:St):Prop:=
 @sOp (some 30) (xIx 9 (s.τ 26) (s.τ 28) s.H) s<|.mk fun s=>
 @sLd 31 9 30 true s<|.mk fun s=>
 @sOp (some 7) (xAlloc 7 35 [.int .i64 0,.int .i64 0,.int .i64 0,.str ⟨#[]⟩,.int .i64 0,.int .i64 0,.str ⟨#[]⟩,.nils,.nils] s.H) s<|.mk fun s=>
 @sOp none (xStore 9 (s.τ 7) (s.τ 31) s.H) s<|.mk fun s=>
 @sLd 32 9 7 true s<|.mk fun s=>
 @sMv 33 1 s<|.mk fun s=>
 @sCall Tryz.prog (.func 151 []) [(s.τ 32),(s.τ 33)] (some 34) s<|.mk fun s=>
 @sOp (some 35) (xNot (s.τ 34) s.H) s<|.mk fun s=>
 @sIf (s.τ 35) ⟨W151_b3 Φ L0 s⟩ ⟨W151_b4 Φ L0 s⟩
def W151_l7 (Φ:EP) (L0:SP) (s:St):Prop:=
 @sOp (some 29) (xBin .lss false (s.τ 28) (s.τ 27) s.H) s<|.mk fun s=>
 @sIf (s.τ 29) ⟨W151_b6 Φ L0 s⟩ ⟨W151_k2 Φ s⟩
def W151_k8 (Φ:EP) (s:St):Prop:=
 @sMv 26 5 s<|.mk fun s=>
 @sOp (some 27) (xLen (s.τ 26) s.H) s<|.mk fun s=>
 @sOp (some 28) (xMov (.int .i64 0) s.H) s<|.mk fun s=>
 @sLoop s ⟨fun L0 s=>W151_l7 Φ L0 s⟩
def W151_b9 (Φ:EP) (s:St):Prop:=
 @sMv 18 5 s<|.mk fun s=>
 @sMv 19 5 s<|.mk fun s=>
 @sOp (some 20) (xLen (s.τ 19) s.H) s<|.mk fun s=>
 @sOp (some 21) (xMin (s.τ 20) (.int .i64 1) s.H) s<|.mk fun s=>
 @sOp (some 22) (xSlc 9 (s.τ 18) none (some (s.τ 21)) s.H) s<|.mk fun s=>
 @sMv 5 22 s<|.mk fun s=>
 W151_k8 Φ s
def W151_b10 (Φ:EP) (s:St):Prop:=
 @sOp (some 4) (xMov (.bool true) s.H) s<|.mk fun s=>
 Φ .ret s
def W151_k11 (Φ:EP) (s:St):Prop:=
 @sIf (s.τ 23) ⟨W151_k8 Φ s⟩ ⟨W151_b10 Φ s⟩
def W151_b12 (Φ:EP) (s:St):Prop:=
 @sOp (some 25) (xBin .eql false (s.τ 15) (.int .i64 7) s.H) s<|.mk fun s=>
 @sMv 23 25 s<|.mk fun s=>
 W151_k11 Φ s
def W151_b13 (Φ:EP) (s:St):Prop:=
 @sOp (some 24) (xBin .eql false (s.τ 15) (.int .i64 11) s.H) s<|.mk fun s=>
 @sMv 23 24 s<|.mk fun s=>
 @sIf (s.τ 23) ⟨W151_k11 Φ s⟩ ⟨W151_b12 Φ s⟩
def W151_b14 (Φ:EP) (s:St):Prop:=
 @sFl 12 8 2 s<|.mk fun s=>
 @sLd 13 1 12 false s<|.mk fun s=>
 @sMv 5 13 s<|.mk fun s=>
 @sFl 14 0 2 s<|.mk fun s=>
 @sLd 15 1 14 false s<|.mk fun s=>
 @sOp (some 17) (xBin .eql false (s.τ 15) (.int .i64 12) s.H) s<|.mk fun s=>
 @sMv 16 17 s<|.mk fun s=>
 @sIf (s.τ 16) ⟨W151_b9 Φ s⟩ ⟨W151_b13 Φ s⟩
def W151 (Φ:EP) (s:St):Prop:=
 @sOp (some 2) (xBox 2 35 (s.τ 0) s.H) s<|.mk fun s=>
 @sOp (some 4) (xMov (.bool false) s.H) s<|.mk fun s=>
 @sMv 8 1 s<|.mk fun s=>
 @sLd 9 9 2 true s<|.mk fun s=>
 @sCall Tryz.prog (s.τ 8) [(s.τ 9)] (some 10) s<|.mk fun s=>
 @sOp (some 11) (xNot (s.τ 10) s.H) s<|.mk fun s=>
 @sIf (s.τ 11) ⟨W151_b1 Φ s⟩ ⟨W151_b14 Φ s⟩
theorem W151_rs (τ:Nat → AV) (H:Heap):resV Tryz.prog τ H [.tmp 4] = some (τ 4):=by kernel_rfl
theorem W151_eq (Φ:EP) (s:St):awp Tryz.prog (Tryz.f151.body.getD .skip) Φ s = W151 Φ s:=by kernel_rfl
theorem W151_S {args:List AV} {r:AV} (hl:args.length ≤ 37) (h:∀ vs,W151 (retK Tryz.prog [.tmp 4] r) ⟨Am.look (argT 0 args),hls [] vs,noG⟩):Am.Spec Tryz.prog 151 args r:=.of_W (W:=W151) Tryz.func151 (by kernel_rfl) (by kernel_rfl) (by kernel_rfl) Tryz.ntmps151 W151_eq (by kernel_rfl) hl h
-- 152 "slices.Index[[]string,string]"
def W152_k1 (Φ:EP) (s:St):Prop:=
 @sOp (some 4) (xMov (.int .i64 (-1)) s.H) s<|.mk fun s=>
 Φ .ret s
def W152_b2 (Φ:EP) (L0:SP) (s:St):Prop:=
 @sMv 17 5 s<|.mk fun s=>
 @sMv 4 17 s<|.mk fun s=>
 Φ .ret s
def W152_b3 (Φ:EP) (L0:SP) (s:St):Prop:=
 @sOp (some 18) (xBin .add false (s.τ 8) (.int .i64 1) s.H) s<|.mk fun s=>
 @sMv 8 18 s<|.mk fun s=>
 L0 s
def W152_b4 (Φ:EP) (L0:SP) (s:St):Prop:=
 @sMv 10 8 s<|.mk fun s=>
 @sMv 5 10 s<|.mk fun s=>
 @sMv 11 1 s<|.mk fun s=>
 @sMv 12 0 s<|.mk fun s=>
 @sMv 13 5 s<|.mk fun s=>
 @sOp (some 14) (xIx 1 (s.τ 12) (s.τ 13) s.H) s<|.mk fun s=>
 @sLd 15 1 14 false s<|.mk fun s=>
 @sOp (some 16) (xBin .eql false (s.τ 11) (s.τ 15) s.H) s<|.mk fun s=>
 @sIf (s.τ 16) ⟨W152_b2 Φ L0 s⟩ ⟨W152_b3 Φ L0 s⟩
def W152_l5 (Φ:EP) (L0:SP) (s:St):Prop:=
 @sOp (some 9) (xBin .lss false (s.τ 8) (s.τ 7) s.H) s<|.mk fun s=>
 @sIf (s.τ 9) ⟨W152_b4 Φ L0 s⟩ ⟨W152_k1 Φ s⟩
def W152 (Φ:EP) (s:St):Prop:=
 @sOp (some 4) (xMov (.int .i64 0) s.H) s<|.mk fun s=>
 @sMv 6 0 s<|.mk fun s=>
 @sOp (some 7) (xLen (s.τ 6) s.H) s<|.mk fun s=>
 @sOp (some 8) (xMov (.int .i64 0) s.H) s<|.mk fun s=>
 @sLoop s ⟨fun L0 s=>W152_l5 Φ L0 s⟩
theorem W152_rs (τ:Nat → AV) (H:Heap):resV Tryz.prog τ H [.tmp 4] = some (τ 4):=by kernel_rfl
theorem W152_eq (Φ:EP) (s:St):awp Tryz.prog (Tryz.f152.body.getD .skip) Φ s = W152 Φ s:=by kernel_rfl
theorem W152_S {args:List AV} {r:AV} (hl:args.length ≤ 19) (h:∀ vs,W152 (retK Tryz.prog [.tmp 4] r) ⟨Am.look (argT 0 args),hls [] vs,noG⟩):Am.Spec Tryz.prog 152 args r:=.of_W (W:=W152) Tryz.func152 (by kernel_rfl) (by kernel_rfl) (by kernel_rfl) Tryz.ntmps152 W152_eq (by kernel_rfl) hl h
end Go.Proofs.YtnngddgaobhkiaaGreat
