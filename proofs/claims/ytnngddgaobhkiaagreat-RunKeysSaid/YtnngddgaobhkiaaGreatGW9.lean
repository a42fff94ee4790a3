import Derived.Test.YtnngddgaobhkiaaGreatGA5
import Derived.Test.YtnngddgaobhkiaaGreatProg
import Derived.KernelRfl
set_option linter.unusedVariables false
set_option maxRecDepth 100000
namespace Go.Proofs.YtnngddgaobhkiaaGreat
open Go Go.Am
-- 95 "penance/penancelaw2.size"
def W95_b1 (Φ:EP) (s:St):Prop:=
 @sOp (some 4) (xMov (.int .i64 1000) s.H) s<|.mk fun s=>
 Φ .ret s
def W95_k2 (Φ:EP) (s:St):Prop:=
 @sMv 30 5 s<|.mk fun s=>
 @sMv 4 30 s<|.mk fun s=>
 Φ .ret s
def W95_b4 (Φ:EP) (L0:SP) (s:St):Prop:=
 @sMv 19 5 s<|.mk fun s=>
 @sOp (some 20) (xBin .add false (s.τ 19) (.int .i64 1) s.H) s<|.mk fun s=>
 @sMv 21 0 s<|.mk fun s=>
 @sMv 22 6 s<|.mk fun s=>
 @sOp (some 23) (xIx 3 (s.τ 21) (s.τ 22) s.H) s<|.mk fun s=>
 @sFl 24 2 23 s<|.mk fun s=>
 @sLd 25 1 24 false s<|.mk fun s=>
 @sMv 26 1 s<|.mk fun s=>
 @sOp (some 27) (xBin .add false (s.τ 26) (.int .i64 1) s.H) s<|.mk fun s=>
 @sCall Tryz.prog (.func 95 []) [(s.τ 25),(s.τ 27)] (some 28) s<|.mk fun s=>
 @sOp (some 29) (xBin .add false (s.τ 20) (s.τ 28) s.H) s<|.mk fun s=>
 @sMv 5 29 s<|.mk fun s=>
 @sMv 17 6 s<|.mk fun s=>
 @sOp (some 18) (xBin .add false (s.τ 17) (.int .i64 1) s.H) s<|.mk fun s=>
 @sMv 6 18 s<|.mk fun s=>
 L0 s
def W95_l7 (Φ:EP) (L0:SP) (s:St):Prop:=
 @sMv 9 6 s<|.mk fun s=>
 @sMv 10 0 s<|.mk fun s=>
 @sOp (some 11) (xLen (s.τ 10) s.H) s<|.mk fun s=>
 @sOp (some 12) (xBin .lss false (s.τ 9) (s.τ 11) s.H) s<|.mk fun s=>
 @sMv 13 12 s<|.mk fun s=>
 @sGm 14 5 13 true s<|.mk fun s=>
 @sGo 15 13 true s (fun s=>(xBin .leq false (s.τ 14) (.int .i64 20) s.H))<|.mk fun s=>
 @sOp (some 16) (xPick (s.τ 13) (s.τ 15) (.bool false) s.H) s<|.mk fun s=>
 @sIf (s.τ 16) ⟨W95_b4 Φ L0 s⟩ ⟨W95_k2 Φ s⟩
def W95_b8 (Φ:EP) (s:St):Prop:=
 @sOp (some 5) (xMov (.int .i64 0) s.H) s<|.mk fun s=>
 @sOp (some 6) (xMov (.int .i64 0) s.H) s<|.mk fun s=>
 @sLoop s ⟨fun L0 s=>W95_l7 Φ L0 s⟩
def W95 (Φ:EP) (s:St):Prop:=
 @sOp (some 4) (xMov (.int .i64 0) s.H) s<|.mk fun s=>
 @sMv 7 1 s<|.mk fun s=>
 @sOp (some 8) (xBin .gtr false (s.τ 7) (.int .i64 8) s.H) s<|.mk fun s=>
 @sIf (s.τ 8) ⟨W95_b1 Φ s⟩ ⟨W95_b8 Φ s⟩
theorem W95_rs (τ:Nat → AV) (H:Heap):resV Tryz.prog τ H [.tmp 4] = some (τ 4):=by kernel_rfl
theorem W95_eq (Φ:EP) (s:St):awp Tryz.prog (Tryz.f95.body.getD .skip) Φ s = W95 Φ s:=by kernel_rfl
theorem W95_S {args:List AV} {r:AV} (hl:args.length ≤ 31) (h:∀ vs,W95 (retK Tryz.prog [.tmp 4] r) ⟨Am.look (argT 0 args),hls [] vs,noG⟩):Am.Spec Tryz.prog 95 args r:=.of_W (W:=W95) Tryz.func95 (by kernel_rfl) (by kernel_rfl) (by kernel_rfl) Tryz.ntmps95 W95_eq (by kernel_rfl) hl h
-- 96 "(*penance/penanceref4.lower).at"
def W96_k1 (Φ:EP) (s:St):Prop:=
 @sMv 16 7 s<|.mk fun s=>
 @sMv 6 16 s<|.mk fun s=>
 Φ .ret s
def W96_b2 (Φ:EP) (s:St):Prop:=
 @sMv 13 0 s<|.mk fun s=>
 @sOp (some 14) (xNil (s.τ 13) s.H) s<|.mk fun s=>
 @sFl 15 3 14 s<|.mk fun s=>
 @sOp none (xStore 1 (s.τ 15) (.bool true) s.H) s<|.mk fun s=>
 W96_k1 Φ s
def W96 (Φ:EP) (s:St):Prop:=
 @sOp (some 6) (xMov (.int .i64 0) s.H) s<|.mk fun s=>
 @sMv 8 1 s<|.mk fun s=>
 @sMv 9 2 s<|.mk fun s=>
 @sCall Tryz.prog (.func 67 []) [(s.τ 8),(s.τ 9)] (some 10) s<|.mk fun s=>
 @sMv 7 10 s<|.mk fun s=>
 @sMv 11 7 s<|.mk fun s=>
 @sOp (some 12) (xBin .lss false (s.τ 11) (.int .i64 0) s.H) s<|.mk fun s=>
 @sIf (s.τ 12) ⟨W96_b2 Φ s⟩ ⟨W96_k1 Φ s⟩
theorem W96_rs (τ:Nat → AV) (H:Heap):resV Tryz.prog τ H [.tmp 6] = some (τ 6):=by kernel_rfl
theorem W96_eq (Φ:EP) (s:St):awp Tryz.prog (Tryz.f96.body.getD .skip) Φ s = W96 Φ s:=by kernel_rfl
theorem W96_S {args:List AV} {r:AV} (hl:args.length ≤ 17) (h:∀ vs,W96 (retK Tryz.prog [.tmp 6] r) ⟨Am.look (argT 0 args),hls [] vs,noG⟩):Am.Spec Tryz.prog 96 args r:=.of_W (W:=W96) Tryz.func96 (by kernel_rfl) (by kernel_rfl) (by kernel_rfl) Tryz.ntmps96 W96_eq (by kernel_rfl) hl h
-- 97 "(*penance/penanceref4.lower).expr"
def W97_k1 (Φ:EP) (s:St):Prop:=
 @sLd 43 4 5 true s<|.mk fun s=>
 @sOp none (xStore 4 (s.τ 4) (s.τ 43) s.H) s<|.mk fun s=>
 Φ .ret s
def W97_b3 (Φ:EP) (L0:SP) (s:St):Prop:=
 @sFl 31 3 5 s<|.mk fun u1=>
 @sLd 32 1 31 false u1<|.mk fun u2=>
 @sMv 33 0 u2<|.mk fun u3=>
 @sFl 34 3 3 u3<|.mk fun u4=>
 @sLd 35 1 34 false u4<|.mk fun u5=>
 @sMv 36 6 u5<|.mk fun u6=>
 @sOp (some 37) (xIx 4 (u6.τ 35) (u6.τ 36) u6.H) u6<|.mk fun u7=>
 @sLd 38 4 37 true u7<|.mk fun u8=>
 @sChk (compat (occ (s.τ 5),[]) (cfp 39 97 [(u8.τ 33),(u8.τ 38)])) <| .mk <|
 @sChk (compat (occ (u1.τ 31),[]) (cfp 39 97 [(u8.τ 33),(u8.τ 38)])) <| .mk <|
 @sCall0 Tryz.prog (.func 97 []) [(u8.τ 33),(u8.τ 38)] (some 39) u8<|.mk fun u9=>
 @sChk (compat (occ (s.τ 5),[]) ([40] ++ occL [(u9.τ 39)],[40] ++ occL [(u9.τ 39)])) <| .mk <|
 @sChk (compat (occ (u1.τ 31),[]) ([40] ++ occL [(u9.τ 39)],[40] ++ occL [(u9.τ 39)])) <| .mk <|
 @sOp (some 40) (xLit 4 1 [.int .i64 0,.int .i64 0,.str ⟨#[]⟩,.nils] [(0,(u9.τ 39))] u9.H) u9<|.mk fun u10=>
 @sOp (some 41) (xApp Tryz.prog 33 4 56 (some 41) (u10.τ 32) (u10.τ 40) u10.H) u10<|.mk fun u11=>
 @sFl 42 3 5 u11<|.mk fun u12=>
 @sOp none (xStore 1 (u12.τ 42) (u12.τ 41) u12.H) u12<|.mk fun s=>
 @sMv 29 6 s<|.mk fun s=>
 @sOp (some 30) (xBin .add false (s.τ 29) (.int .i64 1) s.H) s<|.mk fun s=>
 @sMv 6 30 s<|.mk fun s=>
 L0 s
def W97_l4 (Φ:EP) (L0:SP) (s:St):Prop:=
 @sMv 24 6 s<|.mk fun s=>
 @sFl 25 3 3 s<|.mk fun s=>
 @sLd 26 1 25 false s<|.mk fun s=>
 @sOp (some 27) (xLen (s.τ 26) s.H) s<|.mk fun s=>
 @sOp (some 28) (xBin .lss false (s.τ 24) (s.τ 27) s.H) s<|.mk fun s=>
 @sIf (s.τ 28) ⟨W97_b3 Φ L0 s⟩ ⟨W97_k1 Φ s⟩
def W97_k5 (Φ:EP) (s:St):Prop:=
 @sOp (some 6) (xMov (.int .i64 0) s.H) s<|.mk fun s=>
 @sLoop s ⟨fun L0 s=>W97_l4 Φ L0 s⟩
def W97_b7 (Φ:EP) (s:St):Prop:=
 @sMv 15 0 s<|.mk fun s=>
 @sMv 16 0 s<|.mk fun s=>
 @sOp (some 17) (xNil (s.τ 16) s.H) s<|.mk fun s=>
 @sFl 18 0 17 s<|.mk fun s=>
 @sLd 19 1 18 false s<|.mk fun s=>
 @sFl 20 2 3 s<|.mk fun s=>
 @sLd 21 1 20 false s<|.mk fun s=>
 @sCall0 Tryz.prog (.func 96 []) [(s.τ 15),(s.τ 19),(s.τ 21)] (some 22) s<|.mk fun s=>
 @sFl 23 1 5 s<|.mk fun s=>
 @sOp none (xStore 1 (s.τ 23) (s.τ 22) s.H) s<|.mk fun s=>
 W97_k5 Φ s
def W97 (Φ:EP) (s:St):Prop:=
 @sOp (some 3) (xBox 3 33 (s.τ 1) s.H) s<|.mk fun s=>
 @sOp (some 4) (xAlloc 4 33 [.int .i64 0,.int .i64 0,.str ⟨#[]⟩,.nils] s.H) s<|.mk fun s=>
 @sFl 7 0 3 s<|.mk fun s=>
 @sLd 8 1 7 false s<|.mk fun s=>
 @sFl 9 1 3 s<|.mk fun s=>
 @sLd 10 1 9 false s<|.mk fun s=>
 @sOp (some 11) (xBuild [.int .i64 0,.int .i64 0,.str ⟨#[]⟩,.nils] [(0,1,(s.τ 8)),(1,1,(s.τ 10))] s.H) s<|.mk fun s=>
 @sOp (some 5) (xAlloc 5 33 [.int .i64 0,.int .i64 0,.str ⟨#[]⟩,.nils] s.H) s<|.mk fun s=>
 @sOp none (xStore 4 (s.τ 5) (s.τ 11) s.H) s<|.mk fun s=>
 @sFl 12 0 3 s<|.mk fun s=>
 @sLd 13 1 12 false s<|.mk fun s=>
 @sOp (some 14) (xBin .eql false (s.τ 13) (.int .i64 2) s.H) s<|.mk fun s=>
 @sIf (s.τ 14) ⟨W97_b7 Φ s⟩ ⟨W97_k5 Φ s⟩
theorem W97_rs (τ:Nat → AV) (H:Heap):resV Tryz.prog τ H [.cell 4 33] = rdV H 4 true (τ 4):=by kernel_rfl
theorem W97_eq (Φ:EP) (s:St):awp Tryz.prog (Tryz.f97.body.getD .skip) Φ s = W97 Φ s:=by kernel_rfl
theorem W97_S {args:List AV} {r:AV} (hl:args.length ≤ 44) (h:∀ vs,W97 (retK Tryz.prog [.cell 4 33] r) ⟨Am.look (argT 0 args),hls [] vs,noG⟩):Am.Spec Tryz.prog 97 args r:=.of_W (W:=W97) Tryz.func97 (by kernel_rfl) (by kernel_rfl) (by kernel_rfl) Tryz.ntmps97 W97_eq (by kernel_rfl) hl h
-- 98 "penance/penanceref4.fronts"
def W98_k1 (Φ:EP) (s:St):Prop:=
 @sMv 37 4 s<|.mk fun s=>
 @sMv 2 37 s<|.mk fun s=>
 Φ .ret s
def W98_b3 (Φ:EP) (L0:SP) (s:St):Prop:=
 @sMv 18 3 s<|.mk fun s=>
 @sOp (some 19) (xNil (s.τ 18) s.H) s<|.mk fun s=>
 @sFl 20 0 19 s<|.mk fun s=>
 @sLd 21 1 20 false s<|.mk fun s=>
 @sOp (some 22) (xLen (s.τ 21) s.H) s<|.mk fun s=>
 @sMks (some 23) (fun k=>xMks k 4 1 1 [.bool false] (s.τ 22) (s.τ 22) s.H) s<|.mk fun s=>
 @sMv 6 23 s<|.mk fun s=>
 @sMv 24 3 s<|.mk fun s=>
 @sFl 25 2 1 s<|.mk fun s=>
 @sLd 26 1 25 false s<|.mk fun s=>
 @sMv 27 5 s<|.mk fun s=>
 @sOp (some 28) (xIx 9 (s.τ 26) (s.τ 27) s.H) s<|.mk fun s=>
 @sFl 29 1 28 s<|.mk fun s=>
 @sLd 30 8 29 true s<|.mk fun s=>
 @sMv 31 6 s<|.mk fun s=>
 @sCall Tryz.prog (.func 128 []) [(s.τ 24),(s.τ 30),(s.τ 31)] (some 32) s<|.mk fun s=>
 @sMv 33 4 s<|.mk fun s=>
 @sMv 34 6 s<|.mk fun s=>
 @sLit (some 35) (xLit 1 1 [.nils] [(0,(s.τ 34))] s.H) (xLitR 1 1 [.nils] [(0,(s.τ 34))] s.H) s<|.mk fun s=>
 @sOp (some 36) (xApp Tryz.prog 157 1 24 (some 36) (s.τ 33) (s.τ 35) s.H) s<|.mk fun s=>
 @sMv 4 36 s<|.mk fun s=>
 @sMv 16 5 s<|.mk fun s=>
 @sOp (some 17) (xBin .add false (s.τ 16) (.int .i64 1) s.H) s<|.mk fun s=>
 @sMv 5 17 s<|.mk fun s=>
 L0 s
def W98_l4 (Φ:EP) (L0:SP) (s:St):Prop:=
 @sMv 9 5 s<|.mk fun s=>
 @sMv 10 3 s<|.mk fun s=>
 @sOp (some 11) (xNil (s.τ 10) s.H) s<|.mk fun s=>
 @sFl 12 0 11 s<|.mk fun s=>
 @sLd 13 1 12 false s<|.mk fun s=>
 @sOp (some 14) (xLen (s.τ 13) s.H) s<|.mk fun s=>
 @sOp (some 15) (xBin .lss false (s.τ 9) (s.τ 14) s.H) s<|.mk fun s=>
 @sIf (s.τ 15) ⟨W98_b3 Φ L0 s⟩ ⟨W98_k1 Φ s⟩
def W98 (Φ:EP) (s:St):Prop:=
 @sOp (some 1) (xBox 1 76 (s.τ 0) s.H) s<|.mk fun s=>
 @sOp (some 2) (xMov (.nils) s.H) s<|.mk fun s=>
 @sLd 7 3 1 true s<|.mk fun s=>
 @sCall Tryz.prog (.func 127 []) [(s.τ 7)] (some 8) s<|.mk fun s=>
 @sMv 3 8 s<|.mk fun s=>
 @sOp (some 4) (xMov (.nils) s.H) s<|.mk fun s=>
 @sOp (some 5) (xMov (.int .i64 0) s.H) s<|.mk fun s=>
 @sLoop s ⟨fun L0 s=>W98_l4 Φ L0 s⟩
theorem W98_rs (τ:Nat → AV) (H:Heap):resV Tryz.prog τ H [.tmp 2] = some (τ 2):=by kernel_rfl
theorem W98_eq (Φ:EP) (s:St):awp Tryz.prog (Tryz.f98.body.getD .skip) Φ s = W98 Φ s:=by kernel_rfl
theorem W98_S {args:List AV} {r:AV} (hl:args.length ≤ 38) (h:∀ vs,W98 (retK Tryz.prog [.tmp 2] r) ⟨Am.look (argT 0 args),hls [] vs,noG⟩):Am.Spec Tryz.prog 98 args r:=.of_W (W:=W98) Tryz.func98 (by kernel_rfl) (by kernel_rfl) (by kernel_rfl) Tryz.ntmps98 W98_eq (by kernel_rfl) hl h
-- 99 "(penance/penancelaw3.Raw).part"
def W99_b2 (Φ:EP) (s:St):Prop:=
 @sFl 16 4 3 s<|.mk fun s=>
 @sLd 17 1 16 false s<|.mk fun s=>
 @sMv 18 1 s<|.mk fun s=>
 @sOp (some 19) (xIx 5 (s.τ 17) (s.τ 18) s.H) s<|.mk fun s=>
 @sLd 20 5 19 true s<|.mk fun s=>
 @sMv 21 2 s<|.mk fun s=>
 @sOp (some 22) (xBin .add false (s.τ 21) (.int .i64 1) s.H) s<|.mk fun s=>
 @sCall Tryz.prog (.func 74 []) [(s.τ 20),(s.τ 22)] (some 23) s<|.mk fun s=>
 @sOp none (xStore 8 (s.τ 6) (s.τ 23) s.H) s<|.mk fun s=>
 Φ .ret s
def W99_b3 (Φ:EP) (s:St):Prop:=
 @sOp (some 24) (xBuild [.int .i64 0,.str ⟨#[]⟩,.str ⟨#[]⟩,.int .i64 0,.int .i64 0,.str ⟨#[]⟩,.nils,.nils] [(0,1,(.int .i64 0))] s.H) s<|.mk fun s=>
 @sOp none (xStore 8 (s.τ 6) (s.τ 24) s.H) s<|.mk fun s=>
 Φ .ret s
def W99 (Φ:EP) (s:St):Prop:=
 @sOp (some 3) (xBox 3 69 (s.τ 0) s.H) s<|.mk fun s=>
 @sOp (some 6) (xAlloc 6 80 [.int .i64 0,.str ⟨#[]⟩,.str ⟨#[]⟩,.int .i64 0,.int .i64 0,.str ⟨#[]⟩,.nils,.nils] s.H) s<|.mk fun s=>
 @sMv 7 1 s<|.mk fun s=>
 @sFl 8 4 3 s<|.mk fun s=>
 @sLd 9 1 8 false s<|.mk fun s=>
 @sOp (some 10) (xLen (s.τ 9) s.H) s<|.mk fun s=>
 @sOp (some 11) (xBin .lss false (s.τ 7) (s.τ 10) s.H) s<|.mk fun s=>
 @sMv 12 11 s<|.mk fun s=>
 @sGm 13 2 12 true s<|.mk fun s=>
 @sGo 14 12 true s (fun s=>(xBin .lss false (s.τ 13) (.int .i64 6) s.H))<|.mk fun s=>
 @sOp (some 15) (xPick (s.τ 12) (s.τ 14) (.bool false) s.H) s<|.mk fun s=>
 @sIf (s.τ 15) ⟨W99_b2 Φ s⟩ ⟨W99_b3 Φ s⟩
theorem W99_rs (τ:Nat → AV) (H:Heap):resV Tryz.prog τ H [.cell 6 80] = rdV H 8 true (τ 6):=by kernel_rfl
theorem W99_eq (Φ:EP) (s:St):awp Tryz.prog (Tryz.f99.body.getD .skip) Φ s = W99 Φ s:=by kernel_rfl
theorem W99_S {args:List AV} {r:AV} (hl:args.length ≤ 25) (h:∀ vs,W99 (retK Tryz.prog [.cell 6 80] r) ⟨Am.look (argT 0 args),hls [] vs,noG⟩):Am.Spec Tryz.prog 99 args r:=.of_W (W:=W99) Tryz.func99 (by kernel_rfl) (by kernel_rfl) (by kernel_rfl) Tryz.ntmps99 W99_eq (by kernel_rfl) hl h
-- 100 "penance/penancelaw2.One"
def W100_b1 (Φ:EP) (s:St):Prop:=
 @sOp (some 8) (xBuild [.int .i64 0,.int .i64 0,.str ⟨#[]⟩,.nils] [(0,1,(.int .i64 1)),(1,1,(.int .i64 1))] s.H) s<|.mk fun s=>
 @sOp none (xStore 4 (s.τ 4) (s.τ 8) s.H) s<|.mk fun s=>
 Φ .ret s
def W100_b3 (Φ:EP) (s:St):Prop:=
 @sMv 9 0 s<|.mk fun s=>
 @sOp (some 10) (xIx 3 (s.τ 9) (.int .i64 0) s.H) s<|.mk fun s=>
 @sLd 11 3 10 true s<|.mk fun s=>
 @sMv 12 1 s<|.mk fun s=>
 @sCall Tryz.prog (.func 129 []) [(s.τ 11),(s.τ 12)] (some 13) s<|.mk fun s=>
 @sOp none (xStore 4 (s.τ 4) (s.τ 13) s.H) s<|.mk fun s=>
 Φ .ret s
def W100 (Φ:EP) (s:St):Prop:=
 @sOp (some 4) (xAlloc 4 33 [.int .i64 0,.int .i64 0,.str ⟨#[]⟩,.nils] s.H) s<|.mk fun s=>
 @sMv 5 0 s<|.mk fun s=>
 @sOp (some 6) (xLen (s.τ 5) s.H) s<|.mk fun s=>
 @sOp (some 7) (xBin .eql false (s.τ 6) (.int .i64 0) s.H) s<|.mk fun s=>
 @sIf (s.τ 7) ⟨W100_b1 Φ s⟩ ⟨W100_b3 Φ s⟩
theorem W100_rs (τ:Nat → AV) (H:Heap):resV Tryz.prog τ H [.cell 4 33] = rdV H 4 true (τ 4):=by kernel_rfl
theorem W100_eq (Φ:EP) (s:St):awp Tryz.prog (Tryz.f100.body.getD .skip) Φ s = W100 Φ s:=by kernel_rfl
theorem W100_S {args:List AV} {r:AV} (hl:args.length ≤ 14) (h:∀ vs,W100 (retK Tryz.prog [.cell 4 33] r) ⟨Am.look (argT 0 args),hls [] vs,noG⟩):Am.Spec Tryz.prog 100 args r:=.of_W (W:=W100) Tryz.func100 (by kernel_rfl) (by kernel_rfl) (by kernel_rfl) Tryz.ntmps100 W100_eq (by kernel_rfl) hl h
-- 101 "penance/term.ownExpr"
def W101_k2 (Φ:EP) (s:St):Prop:=
 @sMv 23 3 s<|.mk fun s=>
 @sCall Tryz.prog (.func 130 []) [(s.τ 23)] (some 24) s<|.mk fun s=>
 @sFl 25 3 1 s<|.mk fun s=>
 @sOp none (xStore 1 (s.τ 25) (s.τ 24) s.H) s<|.mk fun s=>
 @sLd 26 4 1 true s<|.mk fun s=>
 @sOp none (xStore 4 (s.τ 2) (s.τ 26) s.H) s<|.mk fun s=>
 Φ .ret s
def W101_b4 (Φ:EP) (L0:SP) (s:St):Prop:=
 @sOp (some 15) (xIx 4 (s.τ 11) (s.τ 13) s.H) s<|.mk fun s=>
 @sLd 16 4 15 true s<|.mk fun s=>
 @sOp (some 5) (xAlloc 5 33 [.int .i64 0,.int .i64 0,.str ⟨#[]⟩,.nils] s.H) s<|.mk fun s=>
 @sOp none (xStore 4 (s.τ 5) (s.τ 16) s.H) s<|.mk fun s=>
 @sMv 17 3 s<|.mk fun s=>
 @sLd 18 4 5 true s<|.mk fun s=>
 @sCall Tryz.prog (.func 101 []) [(s.τ 18)] (some 19) s<|.mk fun s=>
 @sOp (some 20) (xLit 4 1 [.int .i64 0,.int .i64 0,.str ⟨#[]⟩,.nils] [(0,(s.τ 19))] s.H) s<|.mk fun s=>
 @sOp (some 21) (xApp Tryz.prog 33 4 56 (some 21) (s.τ 17) (s.τ 20) s.H) s<|.mk fun s=>
 @sMv 3 21 s<|.mk fun s=>
 @sOp (some 22) (xBin .add false (s.τ 13) (.int .i64 1) s.H) s<|.mk fun s=>
 @sMv 13 22 s<|.mk fun s=>
 L0 s
def W101_l5 (Φ:EP) (L0:SP) (s:St):Prop:=
 @sOp (some 14) (xBin .lss false (s.τ 13) (s.τ 12) s.H) s<|.mk fun s=>
 @sIf (s.τ 14) ⟨W101_b4 Φ L0 s⟩ ⟨W101_k2 Φ s⟩
def W101 (Φ:EP) (s:St):Prop:=
 @sOp (some 1) (xBox 1 33 (s.τ 0) s.H) s<|.mk fun s=>
 @sOp (some 2) (xAlloc 2 33 [.int .i64 0,.int .i64 0,.str ⟨#[]⟩,.nils] s.H) s<|.mk fun s=>
 @sFl 6 3 1 s<|.mk fun s=>
 @sLd 7 1 6 false s<|.mk fun s=>
 @sOp (some 8) (xLen (s.τ 7) s.H) s<|.mk fun s=>
 @sOp (some 9) (xMks 9 33 4 56 [.int .i64 0,.int .i64 0,.str ⟨#[]⟩,.nils] (.int .i64 0) (s.τ 8) s.H) s<|.mk fun s=>
 @sMv 3 9 s<|.mk fun s=>
 @sFl 10 3 1 s<|.mk fun s=>
 @sLd 11 1 10 false s<|.mk fun s=>
 @sOp (some 12) (xLen (s.τ 11) s.H) s<|.mk fun s=>
 @sOp (some 13) (xMov (.int .i64 0) s.H) s<|.mk fun s=>
 @sLoop s ⟨fun L0 s=>W101_l5 Φ L0 s⟩
theorem W101_rs (τ:Nat → AV) (H:Heap):resV Tryz.prog τ H [.cell 2 33] = rdV H 4 true (τ 2):=by kernel_rfl
theorem W101_eq (Φ:EP) (s:St):awp Tryz.prog (Tryz.f101.body.getD .skip) Φ s = W101 Φ s:=by kernel_rfl
theorem W101_S {args:List AV} {r:AV} (hl:args.length ≤ 27) (h:∀ vs,W101 (retK Tryz.prog [.cell 2 33] r) ⟨Am.look (argT 0 args),hls [] vs,noG⟩):Am.Spec Tryz.prog 101 args r:=.of_W (W:=W101) Tryz.func101 (by kernel_rfl) (by kernel_rfl) (by kernel_rfl) Tryz.ntmps101 W101_eq (by kernel_rfl) hl h
-- 102 "penance/stacks.mapped[[]penance/api.Term]"
def W102_k2 (Φ:EP) (s:St):Prop:=
 @sMv 22 5 s<|.mk fun s=>
 @sOp (some 23) (xLen (s.τ 22) s.H) s<|.mk fun s=>
 @sMv 8 23 s<|.mk fun s=>
 @sMv 24 5 s<|.mk fun s=>
 @sMv 25 8 s<|.mk fun s=>
 @sMv 26 8 s<|.mk fun s=>
 @sOp (some 27) (xSl3 1 (s.τ 24) (s.τ 25) (s.τ 26) (frz s.H (s.τ 24))) s<|.mk fun s=>
 @sCall Tryz.prog (.func 131 []) [(s.τ 27)] (some 28) s<|.mk fun s=>
 @sMv 4 28 s<|.mk fun s=>
 Φ .ret s
def W102_b4 (Φ:EP) (L0:SP) (s:St):Prop:=
 @sOp (some 13) (xIx 1 (s.τ 9) (s.τ 11) s.H) s<|.mk fun s=>
 @sLd 14 1 13 false s<|.mk fun s=>
 @sMv 7 14 s<|.mk fun s=>
 @sMv 15 5 s<|.mk fun s=>
 @sMv 16 1 s<|.mk fun s=>
 @sMv 17 7 s<|.mk fun s=>
 @sCall Tryz.prog (s.τ 16) [(s.τ 17)] (some 18) s<|.mk fun s=>
 @sLit (some 19) (xLit 1 1 [.nils] [(0,(s.τ 18))] s.H) (xLitR 1 1 [.nils] [(0,(s.τ 18))] s.H) s<|.mk fun s=>
 @sOp (some 20) (xApp Tryz.prog 27 1 24 (some 20) (s.τ 15) (s.τ 19) s.H) s<|.mk fun s=>
 @sMv 5 20 s<|.mk fun s=>
 @sOp (some 21) (xBin .add false (s.τ 11) (.int .i64 1) s.H) s<|.mk fun s=>
 @sMv 11 21 s<|.mk fun s=>
 L0 s
def W102_l5 (Φ:EP) (L0:SP) (s:St):Prop:=
 @sOp (some 12) (xBin .lss false (s.τ 11) (s.τ 10) s.H) s<|.mk fun s=>
 @sIf (s.τ 12) ⟨W102_b4 Φ L0 s⟩ ⟨W102_k2 Φ s⟩
def W102 (Φ:EP) (s:St):Prop:=
 @sOp (some 4) (xMov (.nils) s.H) s<|.mk fun s=>
 @sOp (some 5) (xMov (.nils) s.H) s<|.mk fun s=>
 @sMv 9 0 s<|.mk fun s=>
 @sOp (some 10) (xLen (s.τ 9) s.H) s<|.mk fun s=>
 @sOp (some 11) (xMov (.int .i64 0) s.H) s<|.mk fun s=>
 @sLoop s ⟨fun L0 s=>W102_l5 Φ L0 s⟩
theorem W102_rs (τ:Nat → AV) (H:Heap):resV Tryz.prog τ H [.tmp 4] = some (τ 4):=by kernel_rfl
theorem W102_eq (Φ:EP) (s:St):awp Tryz.prog (Tryz.f102.body.getD .skip) Φ s = W102 Φ s:=by kernel_rfl
theorem W102_S {args:List AV} {r:AV} (hl:args.length ≤ 29) (h:∀ vs,W102 (retK Tryz.prog [.tmp 4] r) ⟨Am.look (argT 0 args),hls [] vs,noG⟩):Am.Spec Tryz.prog 102 args r:=.of_W (W:=W102) Tryz.func102 (by kernel_rfl) (by kernel_rfl) (by kernel_rfl) Tryz.ntmps102 W102_eq (by kernel_rfl) hl h
-- 103 "penance/stacks.own$1"
def W103 (Φ:EP) (s:St):Prop:=
 @sOp (some 2) (xMov (.nils) s.H) s<|.mk fun s=>
 @sMv 3 0 s<|.mk fun s=>
 @sCall Tryz.prog (.func 104 []) [(s.τ 3),(.func 88 [])] (some 4) s<|.mk fun s=>
 @sMv 2 4 s<|.mk fun s=>
 Φ .ret s
theorem W103_rs (τ:Nat → AV) (H:Heap):resV Tryz.prog τ H [.tmp 2] = some (τ 2):=by kernel_rfl
theorem W103_eq (Φ:EP) (s:St):awp Tryz.prog (Tryz.f103.body.getD .skip) Φ s = W103 Φ s:=by kernel_rfl
theorem W103_S {args:List AV} {r:AV} (hl:args.length ≤ 5) (h:∀ vs,W103 (retK Tryz.prog [.tmp 2] r) ⟨Am.look (argT 0 args),hls [] vs,noG⟩):Am.Spec Tryz.prog 103 args r:=.of_W (W:=W103) Tryz.func103 (by kernel_rfl) (by kernel_rfl) (by kernel_rfl) Tryz.ntmps103 W103_eq (by kernel_rfl) hl h
-- 104 "penance/stacks.mapped[penance/api.Term]"
def W104_k2 (Φ:EP) (s:St):Prop:=
 @sMv 22 5 s<|.mk fun s=>
 @sOp (some 23) (xLen (s.τ 22) s.H) s<|.mk fun s=>
 @sMv 8 23 s<|.mk fun s=>
 @sMv 24 5 s<|.mk fun s=>
 @sMv 25 8 s<|.mk fun s=>
 @sMv 26 8 s<|.mk fun s=>
 @sOp (some 27) (xSl3 9 (s.τ 24) (s.τ 25) (s.τ 26) (frz s.H (s.τ 24))) s<|.mk fun s=>
 @sCall Tryz.prog (.func 82 []) [(s.τ 27)] (some 28) s<|.mk fun s=>
 @sMv 4 28 s<|.mk fun s=>
 Φ .ret s
def W104_b4 (Φ:EP) (L0:SP) (s:St):Prop:=
 @sOp (some 13) (xIx 9 (s.τ 9) (s.τ 11) s.H) s<|.mk fun s=>
 @sLd 14 9 13 true s<|.mk fun s=>
 @sOp (some 7) (xAlloc 7 35 [.int .i64 0,.int .i64 0,.int .i64 0,.str ⟨#[]⟩,.int .i64 0,.int .i64 0,.str ⟨#[]⟩,.nils,.nils] s.H) s<|.mk fun s=>
 @sOp none (xStore 9 (s.τ 7) (s.τ 14) s.H) s<|.mk fun s=>
 @sMv 15 5 s<|.mk fun s=>
 @sMv 16 1 s<|.mk fun s=>
 @sLd 17 9 7 true s<|.mk fun s=>
 @sCall Tryz.prog (s.τ 16) [(s.τ 17)] (some 18) s<|.mk fun s=>
 @sOp (some 19) (xLit 9 1 [.int .i64 0,.int .i64 0,.int .i64 0,.str ⟨#[]⟩,.int .i64 0,.int .i64 0,.str ⟨#[]⟩,.nils,.nils] [(0,(s.τ 18))] s.H) s<|.mk fun s=>
 @sOp (some 20) (xApp Tryz.prog 35 9 120 (some 20) (s.τ 15) (s.τ 19) s.H) s<|.mk fun s=>
 @sMv 5 20 s<|.mk fun s=>
 @sOp (some 21) (xBin .add false (s.τ 11) (.int .i64 1) s.H) s<|.mk fun s=>
 @sMv 11 21 s<|.mk fun s=>
 L0 s
def W104_l5 (Φ:EP) (L0:SP) (s:St):Prop:=
 @sOp (some 12) (xBin .lss false (s.τ 11) (s.τ 10) s.H) s<|.mk fun s=>
 @sIf (s.τ 12) ⟨W104_b4 Φ L0 s⟩ ⟨W104_k2 Φ s⟩
def W104 (Φ:EP) (s:St):Prop:=
 @sOp (some 4) (xMov (.nils) s.H) s<|.mk fun s=>
 @sOp (some 5) (xMov (.nils) s.H) s<|.mk fun s=>
 @sMv 9 0 s<|.mk fun s=>
 @sOp (some 10) (xLen (s.τ 9) s.H) s<|.mk fun s=>
 @sOp (some 11) (xMov (.int .i64 0) s.H) s<|.mk fun s=>
 @sLoop s ⟨fun L0 s=>W104_l5 Φ L0 s⟩
theorem W104_rs (τ:Nat → AV) (H:Heap):resV Tryz.prog τ H [.tmp 4] = some (τ 4):=by kernel_rfl
theorem W104_eq (Φ:EP) (s:St):awp Tryz.prog (Tryz.f104.body.getD .skip) Φ s = W104 Φ s:=by kernel_rfl
theorem W104_S {args:List AV} {r:AV} (hl:args.length ≤ 29) (h:∀ vs,W104 (retK Tryz.prog [.tmp 4] r) ⟨Am.look (argT 0 args),hls [] vs,noG⟩):Am.Spec Tryz.prog 104 args r:=.of_W (W:=W104) Tryz.func104 (by kernel_rfl) (by kernel_rfl) (by kernel_rfl) Tryz.ntmps104 W104_eq (by kernel_rfl) hl h
-- 105 "penance/run.nodes$1"
def W105 (Φ:EP) (s:St):Prop:=
 @sLd 3 9 1 true s<|.mk fun s=>
 @sMv 4 0 s<|.mk fun s=>
 @sCall Tryz.prog (.func 106 []) [(s.τ 3),(s.τ 4)] (some 5) s<|.mk fun s=>
 Φ .normal s
theorem W105_rs (τ:Nat → AV) (H:Heap):resV Tryz.prog τ H [] = ob (some []) fun vs=>some (.tup vs):=by kernel_rfl
theorem W105_eq (Φ:EP) (s:St):awp Tryz.prog (Tryz.f105.body.getD .skip) Φ s = W105 Φ s:=by kernel_rfl
theorem W105_S {args:List AV} {r:AV} (hl:args.length ≤ 6) (h:∀ vs,W105 (retK Tryz.prog [] r) ⟨Am.look (argT 0 args),hls [] vs,noG⟩):Am.Spec Tryz.prog 105 args r:=.of_W (W:=W105) Tryz.func105 (by kernel_rfl) (by kernel_rfl) (by kernel_rfl) Tryz.ntmps105 W105_eq (by kernel_rfl) hl h
-- 106 "penance/run.walk"
def W106_b1 (Φ:EP) (s:St):Prop:=
 @sOp (some 4) (xMov (.bool false) s.H) s<|.mk fun s=>
 Φ .ret s
def W106_k2 (Φ:EP) (s:St):Prop:=
 @sOp (some 4) (xMov (.bool true) s.H) s<|.mk fun s=>
 Φ .ret s
def W106_b3 (Φ:EP) (L0:SP) (s:St):Prop:=
 @sOp (some 4) (xMov (.bool false) s.H) s<|.mk fun s=>
 Φ .ret s
def W106_b4 (Φ:EP) (L0:SP) (s:St):Prop:=
 @sOp (some 22) (xBin .add false (s.τ 14) (.int .i64 1) s.H) s<|.mk fun s=>
 @sMv 14 22 s<|.mk fun s=>
 L0 s
def W106_b6 (Φ:EP) (L0:SP) (s:St):Prop:=
 @sOp (some 16) (xIx 9 (s.τ 12) (s.τ 14) s.H) s<|.mk fun s=>
 @sLd 17 9 16 true s<|.mk fun s=>
 @sOp (some 6) (xAlloc 6 35 [.int .i64 0,.int .i64 0,.int .i64 0,.str ⟨#[]⟩,.int .i64 0,.int .i64 0,.str ⟨#[]⟩,.nils,.nils] s.H) s<|.mk fun s=>
 @sOp none (xStore 9 (s.τ 6) (s.τ 17) s.H) s<|.mk fun s=>
 @sLd 18 9 6 true s<|.mk fun s=>
 @sMv 19 1 s<|.mk fun s=>
 @sCall Tryz.prog (.func 106 []) [(s.τ 18),(s.τ 19)] (some 20) s<|.mk fun s=>
 @sOp (some 21) (xNot (s.τ 20) s.H) s<|.mk fun s=>
 @sIf (s.τ 21) ⟨W106_b3 Φ L0 s⟩ ⟨W106_b4 Φ L0 s⟩
def W106_l7 (Φ:EP) (L0:SP) (s:St):Prop:=
 @sOp (some 15) (xBin .lss false (s.τ 14) (s.τ 13) s.H) s<|.mk fun s=>
 @sIf (s.τ 15) ⟨W106_b6 Φ L0 s⟩ ⟨W106_k2 Φ s⟩
def W106_b8 (Φ:EP) (s:St):Prop:=
 @sFl 11 8 2 s<|.mk fun s=>
 @sLd 12 1 11 false s<|.mk fun s=>
 @sOp (some 13) (xLen (s.τ 12) s.H) s<|.mk fun s=>
 @sOp (some 14) (xMov (.int .i64 0) s.H) s<|.mk fun s=>
 @sLoop s ⟨fun L0 s=>W106_l7 Φ L0 s⟩
def W106 (Φ:EP) (s:St):Prop:=
 @sOp (some 2) (xBox 2 35 (s.τ 0) s.H) s<|.mk fun s=>
 @sOp (some 4) (xMov (.bool false) s.H) s<|.mk fun s=>
 @sMv 7 1 s<|.mk fun s=>
 @sLd 8 9 2 true s<|.mk fun s=>
 @sCall Tryz.prog (s.τ 7) [(s.τ 8)] (some 9) s<|.mk fun s=>
 @sOp (some 10) (xNot (s.τ 9) s.H) s<|.mk fun s=>
 @sIf (s.τ 10) ⟨W106_b1 Φ s⟩ ⟨W106_b8 Φ s⟩
theorem W106_rs (τ:Nat → AV) (H:Heap):resV Tryz.prog τ H [.tmp 4] = some (τ 4):=by kernel_rfl
theorem W106_eq (Φ:EP) (s:St):awp Tryz.prog (Tryz.f106.body.getD .skip) Φ s = W106 Φ s:=by kernel_rfl
theorem W106_S {args:List AV} {r:AV} (hl:args.length ≤ 23) (h:∀ vs,W106 (retK Tryz.prog [.tmp 4] r) ⟨Am.look (argT 0 args),hls [] vs,noG⟩):Am.Spec Tryz.prog 106 args r:=.of_W (W:=W106) Tryz.func106 (by kernel_rfl) (by kernel_rfl) (by kernel_rfl) Tryz.ntmps106 W106_eq (by kernel_rfl) hl h
-- 107 "penance/term.shapes"
def W107 (Φ:EP) (s:St):Prop:=
 @sOp (some 0) (xMov (.nils) s.H) s<|.mk fun s=>
 @sOp (some 1) (xBuild [.int .i64 0,.int .i64 0,.bool false,.bool false,.int .i64 0] [] s.H) s<|.mk fun s=>
 @sOp (some 2) (xBuild [.int .i64 0,.int .i64 0,.bool false,.bool false,.int .i64 0] [(0,1,(.int .i64 2)),(2,1,(.bool true))] s.H) s<|.mk fun s=>
 @sOp (some 3) (xBuild [.int .i64 0,.int .i64 0,.bool false,.bool false,.int .i64 0] [(0,1,(.int .i64 1)),(3,1,(.bool true))] s.H) s<|.mk fun s=>
 @sOp (some 4) (xBuild [.int .i64 0,.int .i64 0,.bool false,.bool false,.int .i64 0] [(0,1,(.int .i64 3)),(4,1,(.int .i64 1))] s.H) s<|.mk fun s=>
 @sOp (some 5) (xBuild [.int .i64 0,.int .i64 0,.bool false,.bool false,.int .i64 0] [(0,1,(.int .i64 3))] s.H) s<|.mk fun s=>
 @sOp (some 6) (xBuild [.int .i64 0,.int .i64 0,.bool false,.bool false,.int .i64 0] [(0,1,(.int .i64 3))] s.H) s<|.mk fun s=>
 @sOp (some 7) (xBuild [.int .i64 0,.int .i64 0,.bool false,.bool false,.int .i64 0] [(0,1,(.int .i64 3)),(1,1,(.int .i64 3))] s.H) s<|.mk fun s=>
 @sOp (some 8) (xBuild [.int .i64 0,.int .i64 0,.bool false,.bool false,.int .i64 0] [(4,1,(.int .i64 1))] s.H) s<|.mk fun s=>
 @sOp (some 9) (xBuild [.int .i64 0,.int .i64 0,.bool false,.bool false,.int .i64 0] [] s.H) s<|.mk fun s=>
 @sOp (some 10) (xBuild [.int .i64 0,.int .i64 0,.bool false,.bool false,.int .i64 0] [(3,1,(.bool true)),(4,1,(.int .i64 2))] s.H) s<|.mk fun s=>
 @sOp (some 11) (xBuild [.int .i64 0,.int .i64 0,.bool false,.bool false,.int .i64 0] [(4,1,(.int .i64 2))] s.H) s<|.mk fun s=>
 @sOp (some 12) (xBuild [.int .i64 0,.int .i64 0,.bool false,.bool false,.int .i64 0] [(4,1,(.int .i64 2))] s.H) s<|.mk fun s=>
 @sOp (some 13) (xBuild [.int .i64 0,.int .i64 0,.bool false,.bool false,.int .i64 0] [(4,1,(.int .i64 2))] s.H) s<|.mk fun s=>
 @sOp (some 14) (xBuild [.int .i64 0,.int .i64 0,.bool false,.bool false,.int .i64 0] [(0,1,(.int .i64 4))] s.H) s<|.mk fun s=>
 @sOp (some 15) (xBuild [.int .i64 0,.int .i64 0,.bool false,.bool false,.int .i64 0] [(0,1,(.int .i64 5)),(1,1,(.int .i64 2)),(2,1,(.bool true))] s.H) s<|.mk fun s=>
 @sOp (some 16) (xLit 5 15 [.int .i64 0,.int .i64 0,.bool false,.bool false,.int .i64 0] [(0,(s.τ 1)),(1,(s.τ 2)),(2,(s.τ 3)),(3,(s.τ 4)),(4,(s.τ 5)),(5,(s.τ 6)),(6,(s.τ 7)),(7,(s.τ 8)),(8,(s.τ 9)),(9,(s.τ 10)),(10,(s.τ 11)),(11,(s.τ 12)),(12,(s.τ 13)),(13,(s.τ 14)),(14,(s.τ 15))] s.H) s<|.mk fun s=>
 @sMv 0 16 s<|.mk fun s=>
 Φ .ret s
theorem W107_rs (τ:Nat → AV) (H:Heap):resV Tryz.prog τ H [.tmp 0] = some (τ 0):=by kernel_rfl
theorem W107_eq (Φ:EP) (s:St):awp Tryz.prog (Tryz.f107.body.getD .skip) Φ s = W107 Φ s:=by kernel_rfl
theorem W107_S {args:List AV} {r:AV} (hl:args.length ≤ 17) (h:∀ vs,W107 (retK Tryz.prog [.tmp 0] r) ⟨Am.look (argT 0 args),hls [] vs,noG⟩):Am.Spec Tryz.prog 107 args r:=.of_W (W:=W107) Tryz.func107 (by kernel_rfl) (by kernel_rfl) (by kernel_rfl) Tryz.ntmps107 W107_eq (by kernel_rfl) hl h
-- 108 "(penance/term.bounds).number"
def W108_b5 (Φ:EP) (s:St):Prop:=
 @sMv 10 2 s<|.mk fun s=>
 @sOp (some 11) (xBin .geq false (s.τ 10) (.int .i64 0) s.H) s<|.mk fun s=>
 @sMv 12 11 s<|.mk fun s=>
 @sGm 13 2 12 true s<|.mk fun s=>
 @sGf 14 0 3 12 true s<|.mk fun s=>
 @sGl 15 1 14 12 false true s<|.mk fun s=>
 @sGo 16 12 true s (fun s=>(xBin .lss false (s.τ 13) (s.τ 15) s.H))<|.mk fun s=>
 @sOp (some 17) (xPick (s.τ 12) (s.τ 16) (.bool false) s.H) s<|.mk fun s=>
 @sMv 6 17 s<|.mk fun s=>
 Φ .ret s
def W108_b10 (Φ:EP) (s:St):Prop:=
 @sMv 20 2 s<|.mk fun s=>
 @sOp (some 21) (xBin .geq false (s.τ 20) (.int .i64 (-1)) s.H) s<|.mk fun s=>
 @sMv 22 21 s<|.mk fun s=>
 @sGm 23 2 22 true s<|.mk fun s=>
 @sGf 24 0 3 22 true s<|.mk fun s=>
 @sGl 25 1 24 22 false true s<|.mk fun s=>
 @sGo 26 22 true s (fun s=>(xBin .lss false (s.τ 23) (s.τ 25) s.H))<|.mk fun s=>
 @sOp (some 27) (xPick (s.τ 22) (s.τ 26) (.bool false) s.H) s<|.mk fun s=>
 @sMv 6 27 s<|.mk fun s=>
 Φ .ret s
def W108_b15 (Φ:EP) (s:St):Prop:=
 @sMv 30 2 s<|.mk fun s=>
 @sOp (some 31) (xBin .geq false (s.τ 30) (.int .i64 0) s.H) s<|.mk fun s=>
 @sMv 32 31 s<|.mk fun s=>
 @sGm 33 2 32 true s<|.mk fun s=>
 @sGf 34 1 3 32 true s<|.mk fun s=>
 @sGl 35 1 34 32 false true s<|.mk fun s=>
 @sGo 36 32 true s (fun s=>(xBin .lss false (s.τ 33) (s.τ 35) s.H))<|.mk fun s=>
 @sOp (some 37) (xPick (s.τ 32) (s.τ 36) (.bool false) s.H) s<|.mk fun s=>
 @sMv 6 37 s<|.mk fun s=>
 Φ .ret s
def W108_b20 (Φ:EP) (s:St):Prop:=
 @sMv 40 2 s<|.mk fun s=>
 @sOp (some 41) (xBin .geq false (s.τ 40) (.int .i64 0) s.H) s<|.mk fun s=>
 @sMv 42 41 s<|.mk fun s=>
 @sGm 43 2 42 true s<|.mk fun s=>
 @sGf 44 2 3 42 true s<|.mk fun s=>
 @sGl 45 1 44 42 false true s<|.mk fun s=>
 @sGo 46 42 true s (fun s=>(xBin .lss false (s.τ 43) (s.τ 45) s.H))<|.mk fun s=>
 @sOp (some 47) (xPick (s.τ 42) (s.τ 46) (.bool false) s.H) s<|.mk fun s=>
 @sMv 6 47 s<|.mk fun s=>
 Φ .ret s
def W108_b21 (Φ:EP) (s:St):Prop:=
 @sMv 50 2 s<|.mk fun s=>
 @sOp (some 51) (xBin .geq false (s.τ 50) (.int .i64 0) s.H) s<|.mk fun s=>
 @sMv 6 51 s<|.mk fun s=>
 Φ .ret s
def W108_b22 (Φ:EP) (s:St):Prop:=
 @sMv 52 2 s<|.mk fun s=>
 @sOp (some 53) (xBin .eql false (s.τ 52) (.int .i64 0) s.H) s<|.mk fun s=>
 @sMv 6 53 s<|.mk fun s=>
 Φ .ret s
def W108_b23 (Φ:EP) (s:St):Prop:=
 @sOp (some 49) (xBin .eql false (s.τ 7) (.int .i64 5) s.H) s<|.mk fun s=>
 @sMv 48 49 s<|.mk fun s=>
 @sIf (s.τ 48) ⟨W108_b21 Φ s⟩ ⟨W108_b22 Φ s⟩
def W108_b24 (Φ:EP) (s:St):Prop:=
 @sOp (some 39) (xBin .eql false (s.τ 7) (.int .i64 4) s.H) s<|.mk fun s=>
 @sMv 38 39 s<|.mk fun s=>
 @sIf (s.τ 38) ⟨W108_b20 Φ s⟩ ⟨W108_b23 Φ s⟩
def W108_b25 (Φ:EP) (s:St):Prop:=
 @sOp (some 29) (xBin .eql false (s.τ 7) (.int .i64 3) s.H) s<|.mk fun s=>
 @sMv 28 29 s<|.mk fun s=>
 @sIf (s.τ 28) ⟨W108_b15 Φ s⟩ ⟨W108_b24 Φ s⟩
def W108_b26 (Φ:EP) (s:St):Prop:=
 @sOp (some 19) (xBin .eql false (s.τ 7) (.int .i64 2) s.H) s<|.mk fun s=>
 @sMv 18 19 s<|.mk fun s=>
 @sIf (s.τ 18) ⟨W108_b10 Φ s⟩ ⟨W108_b25 Φ s⟩
def W108 (Φ:EP) (s:St):Prop:=
 @sOp (some 3) (xBox 3 133 (s.τ 0) s.H) s<|.mk fun s=>
 @sOp (some 6) (xMov (.bool false) s.H) s<|.mk fun s=>
 @sMv 7 1 s<|.mk fun s=>
 @sOp (some 9) (xBin .eql false (s.τ 7) (.int .i64 1) s.H) s<|.mk fun s=>
 @sMv 8 9 s<|.mk fun s=>
 @sIf (s.τ 8) ⟨W108_b5 Φ s⟩ ⟨W108_b26 Φ s⟩
theorem W108_rs (τ:Nat → AV) (H:Heap):resV Tryz.prog τ H [.tmp 6] = some (τ 6):=by kernel_rfl
theorem W108_eq (Φ:EP) (s:St):awp Tryz.prog (Tryz.f108.body.getD .skip) Φ s = W108 Φ s:=by kernel_rfl
theorem W108_S {args:List AV} {r:AV} (hl:args.length ≤ 54) (h:∀ vs,W108 (retK Tryz.prog [.tmp 6] r) ⟨Am.look (argT 0 args),hls [] vs,noG⟩):Am.Spec Tryz.prog 108 args r:=.of_W (W:=W108) Tryz.func108 (by kernel_rfl) (by kernel_rfl) (by kernel_rfl) Tryz.ntmps108 W108_eq (by kernel_rfl) hl h
end Go.Proofs.YtnngddgaobhkiaaGreat
set_option linter.unusedVariables false
set_option maxRecDepth 100000
namespace Go.Proofs.YtnngddgaobhkiaaGreat
open Go Go.Am
-- 109 "penance/term.none"
def W109 (Φ:EP) (s:St):Prop:=
 @sOp (some 1) (xBox 1 33 (s.τ 0) s.H) s<|.mk fun s=>
 @sOp (some 2) (xMov (.bool false) s.H) s<|.mk fun s=>
 @sFl 3 0 1 s<|.mk fun s=>
 @sLd 4 1 3 false s<|.mk fun s=>
 @sOp (some 5) (xBin .eql false (s.τ 4) (.int .i64 0) s.H) s<|.mk fun s=>
 @sMv 6 5 s<|.mk fun s=>
 @sGf 7 1 1 6 true s<|.mk fun s=>
 @sGl 8 1 7 6 false true s<|.mk fun s=>
 @sGo 9 6 true s (fun s=>(xBin .eql false (s.τ 8) (.int .i64 0) s.H))<|.mk fun s=>
 @sOp (some 10) (xPick (s.τ 6) (s.τ 9) (.bool false) s.H) s<|.mk fun s=>
 @sMv 11 10 s<|.mk fun s=>
 @sGf 12 2 1 11 true s<|.mk fun s=>
 @sGl 13 1 12 11 false true s<|.mk fun s=>
 @sGo 14 11 true s (fun s=>(xBin .eql false (s.τ 13) (.str ⟨#[]⟩) s.H))<|.mk fun s=>
 @sOp (some 15) (xPick (s.τ 11) (s.τ 14) (.bool false) s.H) s<|.mk fun s=>
 @sMv 16 15 s<|.mk fun s=>
 @sGf 17 3 1 16 true s<|.mk fun s=>
 @sGl 18 1 17 16 false true s<|.mk fun s=>
 @sGo 19 16 true s (fun s=>(xLen (s.τ 18) s.H))<|.mk fun s=>
 @sGo 20 16 true s (fun s=>(xBin .eql false (s.τ 19) (.int .i64 0) s.H))<|.mk fun s=>
 @sOp (some 21) (xPick (s.τ 16) (s.τ 20) (.bool false) s.H) s<|.mk fun s=>
 @sMv 2 21 s<|.mk fun s=>
 Φ .ret s
theorem W109_rs (τ:Nat → AV) (H:Heap):resV Tryz.prog τ H [.tmp 2] = some (τ 2):=by kernel_rfl
theorem W109_eq (Φ:EP) (s:St):awp Tryz.prog (Tryz.f109.body.getD .skip) Φ s = W109 Φ s:=by kernel_rfl
theorem W109_S {args:List AV} {r:AV} (hl:args.length ≤ 22) (h:∀ vs,W109 (retK Tryz.prog [.tmp 2] r) ⟨Am.look (argT 0 args),hls [] vs,noG⟩):Am.Spec Tryz.prog 109 args r:=.of_W (W:=W109) Tryz.func109 (by kernel_rfl) (by kernel_rfl) (by kernel_rfl) Tryz.ntmps109 W109_eq (by kernel_rfl) hl h
-- 110 "penance/lex.Name"
def W110_b1 (Φ:EP) (s:St):Prop:=
 @sOp (some 2) (xMov (.bool false) s.H) s<|.mk fun s=>
 Φ .ret s
def W110_k2 (Φ:EP) (s:St):Prop:=
 @sOp (some 2) (xMov (.bool true) s.H) s<|.mk fun s=>
 Φ .ret s
def W110_b3 (Φ:EP) (L0:SP) (s:St):Prop:=
 @sOp (some 2) (xMov (.bool false) s.H) s<|.mk fun s=>
 Φ .ret s
def W110_b16 (Φ:EP) (L0:SP) (s:St):Prop:=
 @sOp (some 21) (xExt (s.τ 19) 1 s.H) s<|.mk fun s=>
 @sOp (some 22) (xExt (s.τ 19) 2 s.H) s<|.mk fun s=>
 @sMv 3 21 s<|.mk fun s=>
 @sMv 4 22 s<|.mk fun s=>
 @sMv 23 4 s<|.mk fun s=>
 @sOp (some 24) (xBin .gtr false (s.τ 23) (.int .i32 127) s.H) s<|.mk fun s=>
 @sMv 25 24 s<|.mk fun s=>
 @sGm 26 3 25 false s<|.mk fun s=>
 @sGo 27 25 false s (fun s=>(xBin .eql false (s.τ 26) (.int .i64 0) s.H))<|.mk fun s=>
 @sGm 28 27 25 false s<|.mk fun s=>
 @sGm 29 4 28 true s<|.mk fun s=>
 @sGo 30 28 true s (fun s=>(xConv .u8 (s.τ 29) s.H))<|.mk fun s=>
 @sGrd (guardOf (s.τ 28) true) (some 31) s ⟨fun s K=>@sCall Tryz.prog (.func 133 []) [(s.τ 30)] (some 31) s ⟨K⟩⟩<|.mk fun s=>
 @sGo 32 28 true s (fun s=>(xNot (s.τ 31) s.H))<|.mk fun s=>
 @sGo 33 25 false s (fun s=>(xPick (s.τ 28) (s.τ 32) (.bool false) s.H))<|.mk fun s=>
 @sOp (some 34) (xPick (s.τ 25) (.bool true) (s.τ 33) s.H) s<|.mk fun s=>
 @sMv 35 34 s<|.mk fun s=>
 @sGm 36 4 35 false s<|.mk fun s=>
 @sGo 37 35 false s (fun s=>(xConv .u8 (s.τ 36) s.H))<|.mk fun s=>
 @sGrd (guardOf (s.τ 35) false) (some 38) s ⟨fun s K=>@sCall Tryz.prog (.func 134 []) [(s.τ 37)] (some 38) s ⟨K⟩⟩<|.mk fun s=>
 @sGo 39 35 false s (fun s=>(xNot (s.τ 38) s.H))<|.mk fun s=>
 @sOp (some 40) (xPick (s.τ 35) (.bool true) (s.τ 39) s.H) s<|.mk fun s=>
 @sIf (s.τ 40) ⟨W110_b3 Φ L0 s⟩ ⟨L0 s⟩
def W110_l17 (Φ:EP) (L0:SP) (s:St):Prop:=
 @sOp (some 19) (xNxt (s.τ 18) s.H) s<|.mk fun s=>
 @sOp (some 20) (xExt (s.τ 19) 0 s.H) s<|.mk fun s=>
 @sIf (s.τ 20) ⟨W110_b16 Φ L0 s⟩ ⟨W110_k2 Φ s⟩
def W110_b18 (Φ:EP) (s:St):Prop:=
 @sMv 17 0 s<|.mk fun s=>
 @sOp (some 18) (xRng 18 (s.τ 17) s.H) s<|.mk fun s=>
 @sLoop s ⟨fun L0 s=>W110_l17 Φ L0 s⟩
def W110 (Φ:EP) (s:St):Prop:=
 @sOp (some 2) (xMov (.bool false) s.H) s<|.mk fun s=>
 @sMv 5 0 s<|.mk fun s=>
 @sOp (some 6) (xSlen (s.τ 5) s.H) s<|.mk fun s=>
 @sOp (some 7) (xBin .lss false (s.τ 6) (.int .i64 1) s.H) s<|.mk fun s=>
 @sMv 8 7 s<|.mk fun s=>
 @sGm 9 0 8 false s<|.mk fun s=>
 @sGo 10 8 false s (fun s=>(xSlen (s.τ 9) s.H))<|.mk fun s=>
 @sGo 11 8 false s (fun s=>(xBin .gtr false (s.τ 10) (.int .i64 20) s.H))<|.mk fun s=>
 @sOp (some 12) (xPick (s.τ 8) (.bool true) (s.τ 11) s.H) s<|.mk fun s=>
 @sMv 13 12 s<|.mk fun s=>
 @sGm 14 0 13 false s<|.mk fun s=>
 @sGrd (guardOf (s.τ 13) false) (some 15) s ⟨fun s K=>@sCall Tryz.prog (.func 132 []) [(s.τ 14)] (some 15) s ⟨K⟩⟩<|.mk fun s=>
 @sOp (some 16) (xPick (s.τ 13) (.bool true) (s.τ 15) s.H) s<|.mk fun s=>
 @sIf (s.τ 16) ⟨W110_b1 Φ s⟩ ⟨W110_b18 Φ s⟩
theorem W110_rs (τ:Nat → AV) (H:Heap):resV Tryz.prog τ H [.tmp 2] = some (τ 2):=by kernel_rfl
theorem W110_eq (Φ:EP) (s:St):awp Tryz.prog (Tryz.f110.body.getD .skip) Φ s = W110 Φ s:=by kernel_rfl
theorem W110_S {args:List AV} {r:AV} (hl:args.length ≤ 41) (h:∀ vs,W110 (retK Tryz.prog [.tmp 2] r) ⟨Am.look (argT 0 args),hls [] vs,noG⟩):Am.Spec Tryz.prog 110 args r:=.of_W (W:=W110) Tryz.func110 (by kernel_rfl) (by kernel_rfl) (by kernel_rfl) Tryz.ntmps110 W110_eq (by kernel_rfl) hl h
-- 111 "penance/expr.Right"
def W111_k1 (Φ:EP) (s:St):Prop:=
 @sOp none (xStore 1 (s.τ 4) (.bool true) s.H) s<|.mk fun s=>
 Φ .ret s
def W111_b2 (Φ:EP) (s:St):Prop:=
 @sOp none (xStore 1 (s.τ 4) (.bool false) s.H) s<|.mk fun s=>
 Φ .ret s
def W111_b3 (Φ:EP) (s:St):Prop:=
 @sOp none (xStore 1 (s.τ 4) (.bool false) s.H) s<|.mk fun s=>
 Φ .ret s
def W111_b29 (Φ:EP) (s:St):Prop:=
 @sFl 31 0 5 s<|.mk fun s=>
 @sLd 32 1 31 false s<|.mk fun s=>
 @sOp (some 33) (xBin .eql false (s.τ 32) (.int .i64 1) s.H) s<|.mk fun s=>
 @sMv 34 33 s<|.mk fun s=>
 @sGf 35 1 5 34 true s<|.mk fun s=>
 @sGl 36 1 35 34 false true s<|.mk fun s=>
 @sGo 37 34 true s (fun s=>(xBin .lss false (s.τ 36) (.int .i64 0) s.H))<|.mk fun s=>
 @sOp (some 38) (xPick (s.τ 34) (s.τ 37) (.bool false) s.H) s<|.mk fun s=>
 @sMv 39 38 s<|.mk fun s=>
 @sGf 40 0 5 39 false s<|.mk fun s=>
 @sGl 41 1 40 39 false false s<|.mk fun s=>
 @sGo 42 39 false s (fun s=>(xBin .eql false (s.τ 41) (.int .i64 2) s.H))<|.mk fun s=>
 @sGm 43 42 39 false s<|.mk fun s=>
 @sGf 44 1 5 43 true s<|.mk fun s=>
 @sGl 45 1 44 43 false true s<|.mk fun s=>
 @sGo 46 43 true s (fun s=>(xBin .lss false (s.τ 45) (.int .i64 0) s.H))<|.mk fun s=>
 @sGm 47 46 43 true s<|.mk fun s=>
 @sGf 48 1 5 47 false s<|.mk fun s=>
 @sGl 49 1 48 47 false false s<|.mk fun s=>
 @sGl 50 1 3 47 false false s<|.mk fun s=>
 @sGo 51 47 false s (fun s=>(xBin .geq false (s.τ 49) (s.τ 50) s.H))<|.mk fun s=>
 @sGo 52 43 true s (fun s=>(xPick (s.τ 47) (.bool true) (s.τ 51) s.H))<|.mk fun s=>
 @sGo 53 39 false s (fun s=>(xPick (s.τ 43) (s.τ 52) (.bool false) s.H))<|.mk fun s=>
 @sOp (some 54) (xPick (s.τ 39) (.bool true) (s.τ 53) s.H) s<|.mk fun s=>
 @sMv 55 54 s<|.mk fun s=>
 @sGf 56 0 5 55 false s<|.mk fun s=>
 @sGl 57 1 56 55 false false s<|.mk fun s=>
 @sGo 58 55 false s (fun s=>(xBin .gtr false (s.τ 57) (.int .i64 2) s.H))<|.mk fun s=>
 @sGm 59 58 55 false s<|.mk fun s=>
 @sGf 60 1 5 59 true s<|.mk fun s=>
 @sGl 61 1 60 59 false true s<|.mk fun s=>
 @sGo 62 59 true s (fun s=>(xBin .neq false (s.τ 61) (.int .i64 0) s.H))<|.mk fun s=>
 @sGo 63 55 false s (fun s=>(xPick (s.τ 59) (s.τ 62) (.bool false) s.H))<|.mk fun s=>
 @sOp (some 64) (xPick (s.τ 55) (.bool true) (s.τ 63) s.H) s<|.mk fun s=>
 @sIf (s.τ 64) ⟨W111_b3 Φ s⟩ ⟨Φ .normal s⟩
def W111_r43 (Φ:EP) (s:St):Prop:=
 @sOp (some 5) (xAlloc 5 33 [.int .i64 0,.int .i64 0,.str ⟨#[]⟩,.nils] s.H) s<|.mk fun s=>
 @sOp none (xStore 4 (s.τ 5) (s.τ 8) s.H) s<|.mk fun s=>
 @sFl 9 0 5 s<|.mk fun u1=>
 @sLd 10 1 9 false u1<|.mk fun u2=>
 @sOp (some 11) (xBin .lss false (u2.τ 10) (.int .i64 1) u2.H) u2<|.mk fun u3=>
 @sMv 12 11 u3<|.mk fun u4=>
 @sGf 13 0 5 12 false u4<|.mk fun u5=>
 @sGl 14 1 13 12 false false u5<|.mk fun u6=>
 @sGo 15 12 false u6 (fun s=>(xBin .gtr false (s.τ 14) (.int .i64 17) s.H))<|.mk fun u7=>
 @sOp (some 16) (xPick (u7.τ 12) (.bool true) (u7.τ 15) u7.H) u7<|.mk fun u8=>
 @sMv 17 16 u8<|.mk fun u9=>
 @sGf 18 2 5 17 false u9<|.mk fun u10=>
 @sGl 19 1 18 17 false false u10<|.mk fun u11=>
 @sGo 20 17 false u11 (fun s=>(xBin .neq false (s.τ 19) (.str ⟨#[]⟩) s.H))<|.mk fun u12=>
 @sOp (some 21) (xPick (u12.τ 17) (.bool true) (u12.τ 20) u12.H) u12<|.mk fun u13=>
 @sMv 22 21 u13<|.mk fun u14=>
 @sGf 23 3 5 22 false u14<|.mk fun u15=>
 @sGl 24 1 23 22 false false u15<|.mk fun u16=>
 @sGo 25 22 false u16 (fun s=>(xLen (s.τ 24) s.H))<|.mk fun u17=>
 @sGf 26 0 5 22 false u17<|.mk fun u18=>
 @sGl 27 1 26 22 false false u18<|.mk fun u19=>
 @sChk (compat (occ (u14.τ 5),[]) (cfp 28 136 [(u19.τ 27)])) <| .mk <|
 @sChk (compat (occ (u15.τ 23),[]) (cfp 28 136 [(u19.τ 27)])) <| .mk <|
 @sChk (compat (occ (u16.τ 24),[]) (cfp 28 136 [(u19.τ 27)])) <| .mk <|
 @sGrd (guardOf (u19.τ 22) false) (some 28) u19 ⟨fun s K=>@sCall0 Tryz.prog (.func 136 []) [(s.τ 27)] (some 28) s ⟨K⟩⟩<|.mk fun u20=>
 @sGo 29 22 false u20 (fun s=>(xBin .neq false (s.τ 25) (s.τ 28) s.H))<|.mk fun u21=>
 @sOp (some 30) (xPick (u21.τ 22) (.bool true) (u21.τ 29) u21.H) u21<|.mk fun s=>
 @sIf (s.τ 30) ⟨W111_b2 Φ s⟩ ⟨W111_b29 Φ s⟩
def W111 (Φ:EP) (s:St):Prop:=
 @sOp (some 2) (xBox 2 33 (s.τ 0) s.H) s<|.mk fun s=>
 @sOp (some 3) (xBox 3 3 (s.τ 1) s.H) s<|.mk fun s=>
 @sOp (some 4) (xAlloc 4 4 [.bool false] s.H) s<|.mk fun s=>
 @sLd 6 4 2 true s<|.mk fun s=>
 @sCall Tryz.prog (.func 135 []) [(s.τ 6)] (some 7) s<|.mk fun s=>
 @sRange Tryz.prog (s.τ 7) [8] s ⟨fun Φ s=>W111_r43 Φ s⟩ ⟨(blkK 0 (thenK (W111_k1 Φ) Φ))⟩
theorem W111_rs (τ:Nat → AV) (H:Heap):resV Tryz.prog τ H [.cell 4 4] = rdV H 1 false (τ 4):=by kernel_rfl
theorem W111_eq (Φ:EP) (s:St):awp Tryz.prog (Tryz.f111.body.getD .skip) Φ s = W111 Φ s:=by kernel_rfl
theorem W111_S {args:List AV} {r:AV} (hl:args.length ≤ 65) (h:∀ vs,W111 (retK Tryz.prog [.cell 4 4] r) ⟨Am.look (argT 0 args),hls [] vs,noG⟩):Am.Spec Tryz.prog 111 args r:=.of_W (W:=W111) Tryz.func111 (by kernel_rfl) (by kernel_rfl) (by kernel_rfl) Tryz.ntmps111 W111_eq (by kernel_rfl) hl h
-- 112 "penance/steps.places$1"
def W112 (Φ:EP) (s:St):Prop:=
 @sLd 3 9 1 true s<|.mk fun u1=>
 @sLd 4 9 1 true u1<|.mk fun u2=>
 @sChk (compat (occ (s.τ 1),[]) (cfp 5 114 [(u2.τ 4)])) <| .mk <|
 @sCall0 Tryz.prog (.func 114 []) [(u2.τ 4)] (some 5) u2<|.mk fun u3=>
 @sOp (some 6) (xLen (u3.τ 5) u3.H) u3<|.mk fun u4=>
 @sOp (some 7) (xBin .gtr false (u4.τ 6) (.int .i64 0) u4.H) u4<|.mk fun u5=>
 @sOp (some 8) (xBuild [.int .i64 0,.int .i64 0,.int .i64 0,.str ⟨#[]⟩,.int .i64 0,.int .i64 0,.str ⟨#[]⟩,.nils,.nils,.nils,.bool false] [(0,9,(u5.τ 3)),(9,1,(.nils)),(10,1,(u5.τ 7))] u5.H) u5<|.mk fun u6=>
 @sMv 9 0 u6<|.mk fun u7=>
 @sCall Tryz.prog (.func 113 []) [(u7.τ 8),(u7.τ 9)] (some 10) u7<|.mk fun s=>
 Φ .normal s
theorem W112_rs (τ:Nat → AV) (H:Heap):resV Tryz.prog τ H [] = ob (some []) fun vs=>some (.tup vs):=by kernel_rfl
theorem W112_eq (Φ:EP) (s:St):awp Tryz.prog (Tryz.f112.body.getD .skip) Φ s = W112 Φ s:=by kernel_rfl
theorem W112_S {args:List AV} {r:AV} (hl:args.length ≤ 11) (h:∀ vs,W112 (retK Tryz.prog [] r) ⟨Am.look (argT 0 args),hls [] vs,noG⟩):Am.Spec Tryz.prog 112 args r:=.of_W (W:=W112) Tryz.func112 (by kernel_rfl) (by kernel_rfl) (by kernel_rfl) Tryz.ntmps112 W112_eq (by kernel_rfl) hl h
-- 113 "penance/steps.walk"
def W113_b1 (Φ:EP) (s:St):Prop:=
 @sOp (some 4) (xMov (.bool false) s.H) s<|.mk fun s=>
 Φ .ret s
def W113_k2 (Φ:EP) (s:St):Prop:=
 @sOp (some 4) (xMov (.bool true) s.H) s<|.mk fun s=>
 Φ .ret s
def W113_b3 (Φ:EP) (L0:SP) (s:St):Prop:=
 @sOp (some 4) (xMov (.bool false) s.H) s<|.mk fun s=>
 Φ .ret s
def W113_b4 (Φ:EP) (L0:SP) (s:St):Prop:=
 @sOp (some 35) (xBin .add false (s.τ 26) (.int .i64 1) s.H) s<|.mk fun s=>
 @sMv 26 35 s<|.mk fun s=>
 L0 s
def W113_b7 (Φ:EP) (L0:SP) (s:St):Prop:=
 @sMv 28 26 s<|.mk fun s=>
 @sMv 6 28 s<|.mk fun s=>
 @sLd 29 11 2 true s<|.mk fun s=>
 @sMv 30 6 s<|.mk fun s=>
 @sCall Tryz.prog (.func 137 []) [(s.τ 29),(s.τ 30)] (some 31) s<|.mk fun s=>
 @sMv 32 1 s<|.mk fun s=>
 @sCall Tryz.prog (.func 113 []) [(s.τ 31),(s.τ 32)] (some 33) s<|.mk fun s=>
 @sOp (some 34) (xNot (s.τ 33) s.H) s<|.mk fun s=>
 @sIf (s.τ 34) ⟨W113_b3 Φ L0 s⟩ ⟨W113_b4 Φ L0 s⟩
def W113_l8 (Φ:EP) (L0:SP) (s:St):Prop:=
 @sOp (some 27) (xBin .lss false (s.τ 26) (s.τ 25) s.H) s<|.mk fun s=>
 @sIf (s.τ 27) ⟨W113_b7 Φ L0 s⟩ ⟨W113_k2 Φ s⟩
def W113_k9 (Φ:EP) (s:St):Prop:=
 @sMv 25 5 s<|.mk fun s=>
 @sOp (some 26) (xMov (.int .i64 0) s.H) s<|.mk fun s=>
 @sLoop s ⟨fun L0 s=>W113_l8 Φ L0 s⟩
def W113_b10 (Φ:EP) (s:St):Prop:=
 @sMv 21 5 s<|.mk fun s=>
 @sOp (some 22) (xMin (s.τ 21) (.int .i64 1) s.H) s<|.mk fun s=>
 @sMv 5 22 s<|.mk fun s=>
 W113_k9 Φ s
def W113_b11 (Φ:EP) (s:St):Prop:=
 @sOp (some 5) (xMov (.int .i64 0) s.H) s<|.mk fun s=>
 W113_k9 Φ s
def W113_b12 (Φ:EP) (s:St):Prop:=
 @sOp (some 24) (xBin .eql false (s.τ 17) (.int .i64 11) s.H) s<|.mk fun s=>
 @sMv 23 24 s<|.mk fun s=>
 @sIf (s.τ 23) ⟨W113_k9 Φ s⟩ ⟨W113_b11 Φ s⟩
def W113_k13 (Φ:EP) (s:St):Prop:=
 @sIf (s.τ 18) ⟨W113_b10 Φ s⟩ ⟨W113_b12 Φ s⟩
def W113_b14 (Φ:EP) (s:St):Prop:=
 @sOp (some 20) (xBin .eql false (s.τ 17) (.int .i64 7) s.H) s<|.mk fun s=>
 @sMv 18 20 s<|.mk fun s=>
 W113_k13 Φ s
def W113_b15 (Φ:EP) (s:St):Prop:=
 @sFl 11 0 2 s<|.mk fun s=>
 @sFl 12 8 11 s<|.mk fun s=>
 @sLd 13 1 12 false s<|.mk fun s=>
 @sOp (some 14) (xLen (s.τ 13) s.H) s<|.mk fun s=>
 @sMv 5 14 s<|.mk fun s=>
 @sFl 15 0 2 s<|.mk fun s=>
 @sFl 16 0 15 s<|.mk fun s=>
 @sLd 17 1 16 false s<|.mk fun s=>
 @sOp (some 19) (xBin .eql false (s.τ 17) (.int .i64 12) s.H) s<|.mk fun s=>
 @sMv 18 19 s<|.mk fun s=>
 @sIf (s.τ 18) ⟨W113_k13 Φ s⟩ ⟨W113_b14 Φ s⟩
def W113 (Φ:EP) (s:St):Prop:=
 @sOp (some 2) (xBox 2 140 (s.τ 0) s.H) s<|.mk fun s=>
 @sOp (some 4) (xMov (.bool false) s.H) s<|.mk fun s=>
 @sMv 7 1 s<|.mk fun s=>
 @sLd 8 11 2 true s<|.mk fun s=>
 @sCall Tryz.prog (s.τ 7) [(s.τ 8)] (some 9) s<|.mk fun s=>
 @sOp (some 10) (xNot (s.τ 9) s.H) s<|.mk fun s=>
 @sIf (s.τ 10) ⟨W113_b1 Φ s⟩ ⟨W113_b15 Φ s⟩
theorem W113_rs (τ:Nat → AV) (H:Heap):resV Tryz.prog τ H [.tmp 4] = some (τ 4):=by kernel_rfl
theorem W113_eq (Φ:EP) (s:St):awp Tryz.prog (Tryz.f113.body.getD .skip) Φ s = W113 Φ s:=by kernel_rfl
theorem W113_S {args:List AV} {r:AV} (hl:args.length ≤ 36) (h:∀ vs,W113 (retK Tryz.prog [.tmp 4] r) ⟨Am.look (argT 0 args),hls [] vs,noG⟩):Am.Spec Tryz.prog 113 args r:=.of_W (W:=W113) Tryz.func113 (by kernel_rfl) (by kernel_rfl) (by kernel_rfl) Tryz.ntmps113 W113_eq (by kernel_rfl) hl h
-- 114 "penance/term.Waits"
def W114_k2 (Φ:EP) (s:St):Prop:=
 @sLd 16 1 3 false s<|.mk fun s=>
 @sCall Tryz.prog (.func 33 []) [(s.τ 16)] (some 17) s<|.mk fun s=>
 @sMv 2 17 s<|.mk fun s=>
 Φ .ret s
def W114_b3 (Φ:EP) (s:St):Prop:=
 @sLd 11 1 3 false s<|.mk fun s=>
 @sFl 12 1 4 s<|.mk fun s=>
 @sLd 13 1 12 false s<|.mk fun s=>
 @sOp (some 14) (xLit 1 1 [.int .i64 0] [(0,(s.τ 13))] s.H) s<|.mk fun s=>
 @sOp (some 15) (xApp Tryz.prog 3 1 8 (some 15) (s.τ 11) (s.τ 14) s.H) s<|.mk fun s=>
 @sOp none (xStore 1 (s.τ 3) (s.τ 15) s.H) s<|.mk fun s=>
 Φ .normal s
def W114_r4 (Φ:EP) (s:St):Prop:=
 @sOp (some 4) (xAlloc 4 35 [.int .i64 0,.int .i64 0,.int .i64 0,.str ⟨#[]⟩,.int .i64 0,.int .i64 0,.str ⟨#[]⟩,.nils,.nils] s.H) s<|.mk fun s=>
 @sOp none (xStore 9 (s.τ 4) (s.τ 7) s.H) s<|.mk fun s=>
 @sFl 8 0 4 s<|.mk fun s=>
 @sLd 9 1 8 false s<|.mk fun s=>
 @sOp (some 10) (xBin .eql false (s.τ 9) (.int .i64 14) s.H) s<|.mk fun s=>
 @sIf (s.τ 10) ⟨W114_b3 Φ s⟩ ⟨Φ .normal s⟩
def W114 (Φ:EP) (s:St):Prop:=
 @sOp (some 1) (xBox 1 35 (s.τ 0) s.H) s<|.mk fun s=>
 @sOp (some 2) (xMov (.nils) s.H) s<|.mk fun s=>
 @sOp (some 3) (xAlloc 3 25 [.nils] s.H) s<|.mk fun s=>
 @sLd 5 9 1 true s<|.mk fun s=>
 @sCall Tryz.prog (.func 138 []) [(s.τ 5)] (some 6) s<|.mk fun s=>
 @sRange Tryz.prog (s.τ 6) [7] s ⟨fun Φ s=>W114_r4 Φ s⟩ ⟨(blkK 0 (thenK (W114_k2 Φ) Φ))⟩
theorem W114_rs (τ:Nat → AV) (H:Heap):resV Tryz.prog τ H [.tmp 2] = some (τ 2):=by kernel_rfl
theorem W114_eq (Φ:EP) (s:St):awp Tryz.prog (Tryz.f114.body.getD .skip) Φ s = W114 Φ s:=by kernel_rfl
theorem W114_S {args:List AV} {r:AV} (hl:args.length ≤ 18) (h:∀ vs,W114 (retK Tryz.prog [.tmp 2] r) ⟨Am.look (argT 0 args),hls [] vs,noG⟩):Am.Spec Tryz.prog 114 args r:=.of_W (W:=W114) Tryz.func114 (by kernel_rfl) (by kernel_rfl) (by kernel_rfl) Tryz.ntmps114 W114_eq (by kernel_rfl) hl h
-- 115 "penance/expr.sum"
def W115_b1 (Φ:EP) (s:St):Prop:=
 @sOp (some 4) (xMov (.int .i64 0) s.H) s<|.mk fun s=>
 @sOp (some 5) (xMov (.int .i64 8) s.H) s<|.mk fun s=>
 Φ .ret s
def W115_b2 (Φ:EP) (s:St):Prop:=
 @sMv 24 0 s<|.mk fun s=>
 @sMv 25 1 s<|.mk fun s=>
 @sOp (some 26) (xBin .add false (s.τ 24) (s.τ 25) s.H) s<|.mk fun s=>
 @sMv 4 26 s<|.mk fun s=>
 @sOp (some 5) (xMov (.int .i64 0) s.H) s<|.mk fun s=>
 Φ .ret s
def W115 (Φ:EP) (s:St):Prop:=
 @sOp (some 4) (xMov (.int .i64 0) s.H) s<|.mk fun s=>
 @sOp (some 5) (xMov (.int .i64 0) s.H) s<|.mk fun s=>
 @sMv 6 1 s<|.mk fun s=>
 @sOp (some 7) (xBin .gtr false (s.τ 6) (.int .i64 0) s.H) s<|.mk fun s=>
 @sMv 8 7 s<|.mk fun s=>
 @sGm 9 0 8 true s<|.mk fun s=>
 @sGm 10 1 8 true s<|.mk fun s=>
 @sGo 11 8 true s (fun s=>(xBin .sub false (.int .i64 9223372036854775807) (s.τ 10) s.H))<|.mk fun s=>
 @sGo 12 8 true s (fun s=>(xBin .gtr false (s.τ 9) (s.τ 11) s.H))<|.mk fun s=>
 @sOp (some 13) (xPick (s.τ 8) (s.τ 12) (.bool false) s.H) s<|.mk fun s=>
 @sMv 14 13 s<|.mk fun s=>
 @sGm 15 1 14 false s<|.mk fun s=>
 @sGo 16 14 false s (fun s=>(xBin .lss false (s.τ 15) (.int .i64 0) s.H))<|.mk fun s=>
 @sGm 17 16 14 false s<|.mk fun s=>
 @sGm 18 0 17 true s<|.mk fun s=>
 @sGm 19 1 17 true s<|.mk fun s=>
 @sGo 20 17 true s (fun s=>(xBin .sub false (.int .i64 (-9223372036854775808)) (s.τ 19) s.H))<|.mk fun s=>
 @sGo 21 17 true s (fun s=>(xBin .lss false (s.τ 18) (s.τ 20) s.H))<|.mk fun s=>
 @sGo 22 14 false s (fun s=>(xPick (s.τ 17) (s.τ 21) (.bool false) s.H))<|.mk fun s=>
 @sOp (some 23) (xPick (s.τ 14) (.bool true) (s.τ 22) s.H) s<|.mk fun s=>
 @sIf (s.τ 23) ⟨W115_b1 Φ s⟩ ⟨W115_b2 Φ s⟩
theorem W115_rs (τ:Nat → AV) (H:Heap):resV Tryz.prog τ H [.tmp 4,.tmp 5] = ob (ob (some (τ 4)) fun v=>ob (ob (some (τ 5)) fun v=>ob (some []) fun vs=>some (v :: vs)) fun vs=>some (v :: vs)) fun vs=>some (.tup vs):=by kernel_rfl
theorem W115_eq (Φ:EP) (s:St):awp Tryz.prog (Tryz.f115.body.getD .skip) Φ s = W115 Φ s:=by kernel_rfl
theorem W115_S {args:List AV} {r:AV} (hl:args.length ≤ 27) (h:∀ vs,W115 (retK Tryz.prog [.tmp 4,.tmp 5] r) ⟨Am.look (argT 0 args),hls [] vs,noG⟩):Am.Spec Tryz.prog 115 args r:=.of_W (W:=W115) Tryz.func115 (by kernel_rfl) (by kernel_rfl) (by kernel_rfl) Tryz.ntmps115 W115_eq (by kernel_rfl) hl h
-- 116 "penance/stacks.ownExpr"
def W116 (Φ:EP) (s:St):Prop:=
 @sOp (some 1) (xBox 1 33 (s.τ 0) s.H) s<|.mk fun s=>
 @sOp (some 2) (xAlloc 2 33 [.int .i64 0,.int .i64 0,.str ⟨#[]⟩,.nils] s.H) s<|.mk fun s=>
 @sFl 3 3 1 s<|.mk fun s=>
 @sLd 4 1 3 false s<|.mk fun s=>
 @sCall Tryz.prog (.func 139 []) [(s.τ 4),(.func 116 [])] (some 5) s<|.mk fun s=>
 @sFl 6 3 1 s<|.mk fun s=>
 @sOp none (xStore 1 (s.τ 6) (s.τ 5) s.H) s<|.mk fun s=>
 @sLd 7 4 1 true s<|.mk fun s=>
 @sOp none (xStore 4 (s.τ 2) (s.τ 7) s.H) s<|.mk fun s=>
 Φ .ret s
theorem W116_rs (τ:Nat → AV) (H:Heap):resV Tryz.prog τ H [.cell 2 33] = rdV H 4 true (τ 2):=by kernel_rfl
theorem W116_eq (Φ:EP) (s:St):awp Tryz.prog (Tryz.f116.body.getD .skip) Φ s = W116 Φ s:=by kernel_rfl
theorem W116_S {args:List AV} {r:AV} (hl:args.length ≤ 8) (h:∀ vs,W116 (retK Tryz.prog [.cell 2 33] r) ⟨Am.look (argT 0 args),hls [] vs,noG⟩):Am.Spec Tryz.prog 116 args r:=.of_W (W:=W116) Tryz.func116 (by kernel_rfl) (by kernel_rfl) (by kernel_rfl) Tryz.ntmps116 W116_eq (by kernel_rfl) hl h
-- 127 "penance/penanceref4.settle"
def W127_k1 (Φ:EP) (s:St):Prop:=
 @sMv 98 5 s<|.mk fun s=>
 @sMv 2 98 s<|.mk fun s=>
 Φ .ret s
def W127_k2 (Φ:EP) (L0:SP) (L1:SP) (s:St):Prop:=
 @sMv 29 7 s<|.mk fun s=>
 @sOp (some 30) (xBin .add false (s.τ 29) (.int .i64 1) s.H) s<|.mk fun s=>
 @sMv 7 30 s<|.mk fun s=>
 L1 s
def W127_b5 (Φ:EP) (L0:SP) (L1:SP) (s:St):Prop:=
 @sMv 66 5 s<|.mk fun s=>
 @sOp (some 67) (xNil (s.τ 66) s.H) s<|.mk fun s=>
 @sFl 68 1 67 s<|.mk fun s=>
 @sLd 69 1 68 false s<|.mk fun s=>
 @sMv 70 7 s<|.mk fun s=>
 @sMv 71 5 s<|.mk fun s=>
 @sOp (some 72) (xNil (s.τ 71) s.H) s<|.mk fun s=>
 @sFl 73 2 72 s<|.mk fun s=>
 @sLd 74 1 73 false s<|.mk fun s=>
 @sMv 75 7 s<|.mk fun s=>
 @sMv 76 5 s<|.mk fun s=>
 @sOp (some 77) (xNil (s.τ 76) s.H) s<|.mk fun s=>
 @sFl 78 1 77 s<|.mk fun s=>
 @sLd 79 1 78 false s<|.mk fun s=>
 @sMv 80 7 s<|.mk fun s=>
 @sOp (some 81) (xIx 1 (s.τ 79) (s.τ 80) s.H) s<|.mk fun s=>
 @sLd 82 1 81 false s<|.mk fun s=>
 @sMv 83 82 s<|.mk fun s=>
 @sGm 84 8 83 false s<|.mk fun s=>
 @sOp (some 85) (xPick (s.τ 83) (.bool true) (s.τ 84) s.H) s<|.mk fun s=>
 @sMv 86 5 s<|.mk fun s=>
 @sOp (some 87) (xNil (s.τ 86) s.H) s<|.mk fun s=>
 @sFl 88 2 87 s<|.mk fun s=>
 @sLd 89 1 88 false s<|.mk fun s=>
 @sMv 90 7 s<|.mk fun s=>
 @sOp (some 91) (xIx 1 (s.τ 89) (s.τ 90) s.H) s<|.mk fun s=>
 @sLd 92 1 91 false s<|.mk fun s=>
 @sMv 93 92 s<|.mk fun s=>
 @sGm 94 9 93 false s<|.mk fun s=>
 @sOp (some 95) (xPick (s.τ 93) (.bool true) (s.τ 94) s.H) s<|.mk fun s=>
 @sOp (some 96) (xIx 1 (s.τ 69) (s.τ 70) s.H) s<|.mk fun s=>
 @sOp none (xStore 1 (s.τ 96) (s.τ 85) s.H) s<|.mk fun s=>
 @sOp (some 97) (xIx 1 (s.τ 74) (s.τ 75) s.H) s<|.mk fun s=>
 @sOp none (xStore 1 (s.τ 97) (s.τ 95) s.H) s<|.mk fun s=>
 @sOp (some 6) (xMov (.bool true) s.H) s<|.mk fun s=>
 W127_k2 Φ L0 L1 s
def W127_b26 (Φ:EP) (L0:SP) (L1:SP) (s:St):Prop:=
 @sMv 32 5 s<|.mk fun s=>
 @sFl 33 2 1 s<|.mk fun s=>
 @sLd 34 1 33 false s<|.mk fun s=>
 @sMv 35 7 s<|.mk fun s=>
 @sOp (some 36) (xIx 9 (s.τ 34) (s.τ 35) s.H) s<|.mk fun s=>
 @sFl 37 1 36 s<|.mk fun s=>
 @sLd 38 8 37 true s<|.mk fun s=>
 @sCall Tryz.prog (.func 142 []) [(s.τ 32),(s.τ 38)] (some 39) s<|.mk fun s=>
 @sMv 31 39 s<|.mk fun s=>
 @sOp (some 40) (xExt (s.τ 31) 0 s.H) s<|.mk fun s=>
 @sOp (some 41) (xExt (s.τ 31) 1 s.H) s<|.mk fun s=>
 @sMv 8 40 s<|.mk fun s=>
 @sMv 9 41 s<|.mk fun s=>
 @sMv 42 8 s<|.mk fun s=>
 @sMv 43 42 s<|.mk fun s=>
 @sGm 44 5 43 true s<|.mk fun s=>
 @sGo 45 43 true s (fun s=>(xNil (s.τ 44) s.H))<|.mk fun s=>
 @sGf 46 1 45 43 true s<|.mk fun s=>
 @sGl 47 1 46 43 false true s<|.mk fun s=>
 @sGm 48 7 43 true s<|.mk fun s=>
 @sGo 49 43 true s (fun s=>(xIx 1 (s.τ 47) (s.τ 48) s.H))<|.mk fun s=>
 @sGl 50 1 49 43 false true s<|.mk fun s=>
 @sGo 51 43 true s (fun s=>(xNot (s.τ 50) s.H))<|.mk fun s=>
 @sOp (some 52) (xPick (s.τ 43) (s.τ 51) (.bool false) s.H) s<|.mk fun s=>
 @sMv 53 52 s<|.mk fun s=>
 @sGm 54 9 53 false s<|.mk fun s=>
 @sGm 55 54 53 false s<|.mk fun s=>
 @sGm 56 5 55 true s<|.mk fun s=>
 @sGo 57 55 true s (fun s=>(xNil (s.τ 56) s.H))<|.mk fun s=>
 @sGf 58 2 57 55 true s<|.mk fun s=>
 @sGl 59 1 58 55 false true s<|.mk fun s=>
 @sGm 60 7 55 true s<|.mk fun s=>
 @sGo 61 55 true s (fun s=>(xIx 1 (s.τ 59) (s.τ 60) s.H))<|.mk fun s=>
 @sGl 62 1 61 55 false true s<|.mk fun s=>
 @sGo 63 55 true s (fun s=>(xNot (s.τ 62) s.H))<|.mk fun s=>
 @sGo 64 53 false s (fun s=>(xPick (s.τ 55) (s.τ 63) (.bool false) s.H))<|.mk fun s=>
 @sOp (some 65) (xPick (s.τ 53) (.bool true) (s.τ 64) s.H) s<|.mk fun s=>
 @sIf (s.τ 65) ⟨W127_b5 Φ L0 L1 s⟩ ⟨W127_k2 Φ L0 L1 s⟩
def W127_l27 (Φ:EP) (L0:SP) (L1:SP) (s:St):Prop:=
 @sMv 25 7 s<|.mk fun s=>
 @sMv 26 4 s<|.mk fun s=>
 @sOp (some 27) (xLen (s.τ 26) s.H) s<|.mk fun s=>
 @sOp (some 28) (xBin .lss false (s.τ 25) (s.τ 27) s.H) s<|.mk fun s=>
 @sIf (s.τ 28) ⟨W127_b26 Φ L0 L1 s⟩ ⟨L0 s⟩
def W127_b28 (Φ:EP) (L0:SP) (s:St):Prop:=
 @sOp (some 6) (xMov (.bool false) s.H) s<|.mk fun s=>
 @sOp (some 7) (xMov (.int .i64 0) s.H) s<|.mk fun s=>
 @sLoop s ⟨fun L1 s=>W127_l27 Φ L0 L1 s⟩
def W127_l29 (Φ:EP) (L0:SP) (s:St):Prop:=
 @sMv 24 6 s<|.mk fun s=>
 @sIf (s.τ 24) ⟨W127_b28 Φ L0 s⟩ ⟨W127_k1 Φ s⟩
def W127 (Φ:EP) (s:St):Prop:=
 @sOp (some 1) (xBox 1 76 (s.τ 0) s.H) s<|.mk fun s=>
 @sOp (some 2) (xMov (.nilp) s.H) s<|.mk fun s=>
 @sLd 11 3 1 true s<|.mk fun s=>
 @sCall Tryz.prog (.func 65 []) [(s.τ 11)] (some 12) s<|.mk fun s=>
 @sMv 10 12 s<|.mk fun s=>
 @sOp (some 13) (xExt (s.τ 10) 0 s.H) s<|.mk fun s=>
 @sOp (some 14) (xExt (s.τ 10) 1 s.H) s<|.mk fun s=>
 @sMv 3 13 s<|.mk fun s=>
 @sMv 4 14 s<|.mk fun s=>
 @sMv 15 4 s<|.mk fun u1=>
 @sMv 16 4 u1<|.mk fun u2=>
 @sOp (some 17) (xLen (u2.τ 16) u2.H) u2<|.mk fun u3=>
 @sOp (some 18) (xMks 18 4 1 1 [.bool false] (u3.τ 17) (u3.τ 17) u3.H) u3<|.mk fun u4=>
 @sMv 19 4 u4<|.mk fun u5=>
 @sChk (compat ([18],[18]) (occ (u5.τ 19),[])) <| .mk <|
 @sOp (some 20) (xLen (u5.τ 19) u5.H) u5<|.mk fun u6=>
 @sChk (compat (occ (u2.τ 16),[]) ([21],[21])) <| .mk <|
 @sChk (compat ([18],[18]) ([21],[21])) <| .mk <|
 @sOp (some 21) (xMks 21 4 1 1 [.bool false] (u6.τ 20) (u6.τ 20) u6.H) u6<|.mk fun u7=>
 @sOp (some 22) (xBuild [.nils,.nils,.nils] [(0,1,(u7.τ 15)),(1,1,(u7.τ 18)),(2,1,(u7.τ 21))] u7.H) u7<|.mk fun u8=>
 @sOp (some 23) (xBox 23 180 (u8.τ 22) u8.H) u8<|.mk fun u9=>
 @sMv 5 23 u9<|.mk fun s=>
 @sOp (some 6) (xMov (.bool true) s.H) s<|.mk fun s=>
 @sLoop s ⟨fun L0 s=>W127_l29 Φ L0 s⟩
theorem W127_rs (τ:Nat → AV) (H:Heap):resV Tryz.prog τ H [.tmp 2] = some (τ 2):=by kernel_rfl
theorem W127_eq (Φ:EP) (s:St):awp Tryz.prog (Tryz.f127.body.getD .skip) Φ s = W127 Φ s:=by kernel_rfl
theorem W127_S {args:List AV} {r:AV} (hl:args.length ≤ 99) (h:∀ vs,W127 (retK Tryz.prog [.tmp 2] r) ⟨Am.look (argT 0 args),hls [] vs,noG⟩):Am.Spec Tryz.prog 127 args r:=.of_W (W:=W127) Tryz.func127 (by kernel_rfl) (by kernel_rfl) (by kernel_rfl) Tryz.ntmps127 W127_eq (by kernel_rfl) hl h
-- 128 "(*penance/penanceref4.may).front"
def W128_b1 (Φ:EP) (s:St):Prop:=
 @sMv 38 2 s<|.mk fun s=>
 @sMv 39 6 s<|.mk fun s=>
 @sOp (some 40) (xIx 1 (s.τ 38) (s.τ 39) s.H) s<|.mk fun s=>
 @sOp none (xStore 1 (s.τ 40) (.bool true) s.H) s<|.mk fun s=>
 Φ .normal s
def W128_b3 (Φ:EP) (s:St):Prop:=
 @sMv 29 0 s<|.mk fun s=>
 @sOp (some 30) (xNil (s.τ 29) s.H) s<|.mk fun s=>
 @sFl 31 0 30 s<|.mk fun s=>
 @sLd 32 1 31 false s<|.mk fun s=>
 @sFl 33 1 4 s<|.mk fun s=>
 @sLd 34 1 33 false s<|.mk fun s=>
 @sCall0 Tryz.prog (.func 67 []) [(s.τ 32),(s.τ 34)] (some 35) s<|.mk fun s=>
 @sMv 6 35 s<|.mk fun s=>
 @sMv 36 6 s<|.mk fun s=>
 @sOp (some 37) (xBin .geq false (s.τ 36) (.int .i64 0) s.H) s<|.mk fun s=>
 @sIf (s.τ 37) ⟨W128_b1 Φ s⟩ ⟨Φ .normal s⟩
def W128_b5 (Φ:EP) (s:St):Prop:=
 @sMv 60 0 s<|.mk fun s=>
 @sFl 61 7 4 s<|.mk fun s=>
 @sLd 62 1 61 false s<|.mk fun s=>
 @sOp (some 63) (xIx 8 (s.τ 62) (.int .i64 1) s.H) s<|.mk fun s=>
 @sLd 64 8 63 true s<|.mk fun s=>
 @sMv 65 2 s<|.mk fun s=>
 @sCall Tryz.prog (.func 128 []) [(s.τ 60),(s.τ 64),(s.τ 65)] (some 66) s<|.mk fun s=>
 Φ .normal s
def W128_b8 (Φ:EP) (s:St):Prop:=
 @sMv 43 0 s<|.mk fun s=>
 @sFl 44 7 4 s<|.mk fun s=>
 @sLd 45 1 44 false s<|.mk fun s=>
 @sOp (some 46) (xIx 8 (s.τ 45) (.int .i64 0) s.H) s<|.mk fun s=>
 @sLd 47 8 46 true s<|.mk fun s=>
 @sMv 48 2 s<|.mk fun s=>
 @sCall Tryz.prog (.func 128 []) [(s.τ 43),(s.τ 47),(s.τ 48)] (some 49) s<|.mk fun s=>
 @sMv 51 0 s<|.mk fun s=>
 @sFl 52 7 4 s<|.mk fun s=>
 @sLd 53 1 52 false s<|.mk fun s=>
 @sOp (some 54) (xIx 8 (s.τ 53) (.int .i64 0) s.H) s<|.mk fun s=>
 @sLd 55 8 54 true s<|.mk fun s=>
 @sCall Tryz.prog (.func 142 []) [(s.τ 51),(s.τ 55)] (some 56) s<|.mk fun s=>
 @sMv 50 56 s<|.mk fun s=>
 @sOp (some 57) (xExt (s.τ 50) 0 s.H) s<|.mk fun s=>
 @sOp (some 58) (xExt (s.τ 50) 1 s.H) s<|.mk fun s=>
 @sMv 7 57 s<|.mk fun s=>
 @sMv 8 58 s<|.mk fun s=>
 @sMv 59 7 s<|.mk fun s=>
 @sIf (s.τ 59) ⟨W128_b5 Φ s⟩ ⟨Φ .normal s⟩
def W128_b10 (Φ:EP) (L0:SP) (s:St):Prop:=
 @sMv 19 0 s<|.mk fun s=>
 @sFl 20 7 4 s<|.mk fun s=>
 @sLd 21 1 20 false s<|.mk fun s=>
 @sMv 22 9 s<|.mk fun s=>
 @sOp (some 23) (xIx 8 (s.τ 21) (s.τ 22) s.H) s<|.mk fun s=>
 @sLd 24 8 23 true s<|.mk fun s=>
 @sMv 25 2 s<|.mk fun s=>
 @sCall Tryz.prog (.func 128 []) [(s.τ 19),(s.τ 24),(s.τ 25)] (some 26) s<|.mk fun s=>
 @sMv 17 9 s<|.mk fun s=>
 @sOp (some 18) (xBin .add false (s.τ 17) (.int .i64 1) s.H) s<|.mk fun s=>
 @sMv 9 18 s<|.mk fun s=>
 L0 s
def W128_l11 (Φ:EP) (L0:SP) (s:St):Prop:=
 @sMv 12 9 s<|.mk fun s=>
 @sFl 13 7 4 s<|.mk fun s=>
 @sLd 14 1 13 false s<|.mk fun s=>
 @sOp (some 15) (xLen (s.τ 14) s.H) s<|.mk fun s=>
 @sOp (some 16) (xBin .lss false (s.τ 12) (s.τ 15) s.H) s<|.mk fun s=>
 @sIf (s.τ 16) ⟨W128_b10 Φ L0 s⟩ ⟨Φ .normal s⟩
def W128_b12 (Φ:EP) (s:St):Prop:=
 @sOp (some 9) (xMov (.int .i64 0) s.H) s<|.mk fun s=>
 @sLoop s ⟨fun L0 s=>W128_l11 Φ L0 s⟩
def W128_b13 (Φ:EP) (s:St):Prop:=
 @sOp (some 42) (xBin .eql false (s.τ 11) (.int .i64 12) s.H) s<|.mk fun s=>
 @sMv 41 42 s<|.mk fun s=>
 @sIf (s.τ 41) ⟨W128_b8 Φ s⟩ ⟨W128_b12 Φ s⟩
def W128 (Φ:EP) (s:St):Prop:=
 @sOp (some 4) (xBox 4 80 (s.τ 1) s.H) s<|.mk fun s=>
 @sFl 10 0 4 s<|.mk fun s=>
 @sLd 11 1 10 false s<|.mk fun s=>
 @sOp (some 28) (xBin .eql false (s.τ 11) (.int .i64 13) s.H) s<|.mk fun s=>
 @sMv 27 28 s<|.mk fun s=>
 @sIf (s.τ 27) ⟨W128_b3 Φ s⟩ ⟨W128_b13 Φ s⟩
theorem W128_rs (τ:Nat → AV) (H:Heap):resV Tryz.prog τ H [] = ob (some []) fun vs=>some (.tup vs):=by kernel_rfl
theorem W128_eq (Φ:EP) (s:St):awp Tryz.prog (Tryz.f128.body.getD .skip) Φ s = W128 Φ s:=by kernel_rfl
theorem W128_S {args:List AV} {r:AV} (hl:args.length ≤ 67) (h:∀ vs,W128 (retK Tryz.prog [] r) ⟨Am.look (argT 0 args),hls [] vs,noG⟩):Am.Spec Tryz.prog 128 args r:=.of_W (W:=W128) Tryz.func128 (by kernel_rfl) (by kernel_rfl) (by kernel_rfl) Tryz.ntmps128 W128_eq (by kernel_rfl) hl h
end Go.Proofs.YtnngddgaobhkiaaGreat
set_option linter.unusedVariables false
set_option maxRecDepth 100000
namespace Go.Proofs.YtnngddgaobhkiaaGreat
open Go Go.Am
-- 129 "(penance/penancelaw2.Raw).Make"
def W129_b2 (Φ:EP) (s:St):Prop:=
 @sOp (some 23) (xLit 1 8 [.int .i64 0] [(0,(.int .i64 0)),(1,(.int .i64 1)),(2,(.int .i64 2)),(3,(.int .i64 7)),(4,(.int .i64 99)),(5,(.int .i64 999999999999999999)),(6,(.int .i64 5)),(7,(.int .i64 3))] s.H) s<|.mk fun s=>
 @sFl 24 1 2 s<|.mk fun s=>
 @sLd 25 1 24 false s<|.mk fun s=>
 @sCall Tryz.prog (.func 143 []) [(s.τ 25),(.int .i64 8)] (some 26) s<|.mk fun s=>
 @sOp (some 27) (xIx 1 (s.τ 23) (s.τ 26) s.H) s<|.mk fun s=>
 @sLd 28 1 27 false s<|.mk fun s=>
 @sOp (some 29) (xBuild [.int .i64 0,.int .i64 0,.str ⟨#[]⟩,.nils] [(0,1,(.int .i64 1)),(1,1,(s.τ 28))] s.H) s<|.mk fun s=>
 @sOp none (xStore 4 (s.τ 4) (s.τ 29) s.H) s<|.mk fun s=>
 Φ .ret s
def W129_b4 (Φ:EP) (s:St):Prop:=
 @sMv 38 1 s<|.mk fun s=>
 @sFl 39 1 2 s<|.mk fun s=>
 @sLd 40 1 39 false s<|.mk fun s=>
 @sMv 41 1 s<|.mk fun s=>
 @sOp (some 42) (xLen (s.τ 41) s.H) s<|.mk fun s=>
 @sCall Tryz.prog (.func 143 []) [(s.τ 40),(s.τ 42)] (some 43) s<|.mk fun s=>
 @sOp (some 44) (xIx 1 (s.τ 38) (s.τ 43) s.H) s<|.mk fun s=>
 @sLd 45 1 44 false s<|.mk fun s=>
 @sOp (some 46) (xBuild [.int .i64 0,.int .i64 0,.str ⟨#[]⟩,.nils] [(0,1,(.int .i64 2)),(2,1,(s.τ 45))] s.H) s<|.mk fun s=>
 @sOp none (xStore 4 (s.τ 4) (s.τ 46) s.H) s<|.mk fun s=>
 Φ .ret s
def W129_b6 (Φ:EP) (s:St):Prop:=
 @sFl 50 1 2 s<|.mk fun s=>
 @sLd 51 1 50 false s<|.mk fun s=>
 @sCall Tryz.prog (.func 143 []) [(s.τ 51),(.int .i64 3)] (some 52) s<|.mk fun s=>
 @sOp (some 53) (xBuild [.int .i64 0,.int .i64 0,.str ⟨#[]⟩,.nils] [(0,1,(.int .i64 2)),(1,1,(s.τ 52))] s.H) s<|.mk fun s=>
 @sOp none (xStore 4 (s.τ 4) (s.τ 53) s.H) s<|.mk fun s=>
 Φ .ret s
def W129_b8 (Φ:EP) (s:St):Prop:=
 @sLd 57 3 2 true s<|.mk fun s=>
 @sMv 58 1 s<|.mk fun s=>
 @sCall Tryz.prog (.func 144 []) [(s.τ 57),(.int .i64 0),(s.τ 58)] (some 59) s<|.mk fun s=>
 @sOp (some 60) (xLit 4 1 [.int .i64 0,.int .i64 0,.str ⟨#[]⟩,.nils] [(0,(s.τ 59))] s.H) s<|.mk fun s=>
 @sOp (some 61) (xBuild [.int .i64 0,.int .i64 0,.str ⟨#[]⟩,.nils] [(0,1,(.int .i64 3)),(3,1,(s.τ 60))] s.H) s<|.mk fun s=>
 @sOp none (xStore 4 (s.τ 4) (s.τ 61) s.H) s<|.mk fun s=>
 Φ .ret s
def W129_b10 (Φ:EP) (s:St):Prop:=
 @sLd 65 3 2 true s<|.mk fun s=>
 @sMv 66 1 s<|.mk fun s=>
 @sCall Tryz.prog (.func 144 []) [(s.τ 65),(.int .i64 0),(s.τ 66)] (some 67) s<|.mk fun s=>
 @sOp (some 68) (xLit 4 1 [.int .i64 0,.int .i64 0,.str ⟨#[]⟩,.nils] [(0,(s.τ 67))] s.H) s<|.mk fun s=>
 @sOp (some 69) (xBuild [.int .i64 0,.int .i64 0,.str ⟨#[]⟩,.nils] [(0,1,(.int .i64 4)),(3,1,(s.τ 68))] s.H) s<|.mk fun s=>
 @sOp none (xStore 4 (s.τ 4) (s.τ 69) s.H) s<|.mk fun s=>
 Φ .ret s
def W129_b13 (Φ:EP) (s:St):Prop:=
 @sMv 9 5 s<|.mk fun u1=>
 @sOp (some 10) (xBin .add false (.int .i64 5) (u1.τ 9) u1.H) u1<|.mk fun u2=>
 @sOp (some 11) (xBin .sub false (u2.τ 10) (.int .i64 11) u2.H) u2<|.mk fun u3=>
 @sLd 12 3 2 true u3<|.mk fun u4=>
 @sMv 13 1 u4<|.mk fun u5=>
 @sCall0 Tryz.prog (.func 144 []) [(u5.τ 12),(.int .i64 0),(u5.τ 13)] (some 14) u5<|.mk fun u6=>
 @sChk (compat (cfp 14 144 [(u5.τ 12),(.int .i64 0),(u5.τ 13)]) (occ (u6.τ 2),[])) <| .mk <|
 @sLd 15 3 2 true u6<|.mk fun u7=>
 @sMv 16 1 u7<|.mk fun u8=>
 @sCall0 Tryz.prog (.func 144 []) [(u8.τ 15),(.int .i64 1),(u8.τ 16)] (some 17) u8<|.mk fun u9=>
 @sOp (some 18) (xLit 4 2 [.int .i64 0,.int .i64 0,.str ⟨#[]⟩,.nils] [(0,(u9.τ 14)),(1,(u9.τ 17))] u9.H) u9<|.mk fun u10=>
 @sOp (some 19) (xBuild [.int .i64 0,.int .i64 0,.str ⟨#[]⟩,.nils] [(0,1,(u10.τ 11)),(3,1,(u10.τ 18))] u10.H) u10<|.mk fun u11=>
 @sOp none (xStore 4 (u11.τ 4) (u11.τ 19) u11.H) u11<|.mk fun s=>
 Φ .ret s
def W129_b14 (Φ:EP) (s:St):Prop:=
 @sMv 63 5 s<|.mk fun s=>
 @sOp (some 64) (xBin .eql false (s.τ 63) (.int .i64 10) s.H) s<|.mk fun s=>
 @sMv 62 64 s<|.mk fun s=>
 @sIf (s.τ 62) ⟨W129_b10 Φ s⟩ ⟨W129_b13 Φ s⟩
def W129_b15 (Φ:EP) (s:St):Prop:=
 @sMv 55 5 s<|.mk fun s=>
 @sOp (some 56) (xBin .eql false (s.τ 55) (.int .i64 9) s.H) s<|.mk fun s=>
 @sMv 54 56 s<|.mk fun s=>
 @sIf (s.τ 54) ⟨W129_b8 Φ s⟩ ⟨W129_b14 Φ s⟩
def W129_b16 (Φ:EP) (s:St):Prop:=
 @sMv 48 5 s<|.mk fun s=>
 @sOp (some 49) (xBin .lss false (s.τ 48) (.int .i64 9) s.H) s<|.mk fun s=>
 @sMv 47 49 s<|.mk fun s=>
 @sIf (s.τ 47) ⟨W129_b6 Φ s⟩ ⟨W129_b15 Φ s⟩
def W129_b20 (Φ:EP) (s:St):Prop:=
 @sMv 31 5 s<|.mk fun s=>
 @sOp (some 32) (xBin .lss false (s.τ 31) (.int .i64 9) s.H) s<|.mk fun s=>
 @sMv 33 32 s<|.mk fun s=>
 @sGm 34 1 33 true s<|.mk fun s=>
 @sGo 35 33 true s (fun s=>(xLen (s.τ 34) s.H))<|.mk fun s=>
 @sGo 36 33 true s (fun s=>(xBin .gtr false (s.τ 35) (.int .i64 0) s.H))<|.mk fun s=>
 @sOp (some 37) (xPick (s.τ 33) (s.τ 36) (.bool false) s.H) s<|.mk fun s=>
 @sMv 30 37 s<|.mk fun s=>
 @sIf (s.τ 30) ⟨W129_b4 Φ s⟩ ⟨W129_b16 Φ s⟩
def W129 (Φ:EP) (s:St):Prop:=
 @sOp (some 2) (xBox 2 176 (s.τ 0) s.H) s<|.mk fun s=>
 @sOp (some 4) (xAlloc 4 33 [.int .i64 0,.int .i64 0,.str ⟨#[]⟩,.nils] s.H) s<|.mk fun s=>
 @sFl 6 0 2 s<|.mk fun s=>
 @sLd 7 1 6 false s<|.mk fun s=>
 @sCall Tryz.prog (.func 143 []) [(s.τ 7),(.int .i64 24)] (some 8) s<|.mk fun s=>
 @sMv 5 8 s<|.mk fun s=>
 @sMv 21 5 s<|.mk fun s=>
 @sOp (some 22) (xBin .lss false (s.τ 21) (.int .i64 4) s.H) s<|.mk fun s=>
 @sMv 20 22 s<|.mk fun s=>
 @sIf (s.τ 20) ⟨W129_b2 Φ s⟩ ⟨W129_b20 Φ s⟩
theorem W129_rs (τ:Nat → AV) (H:Heap):resV Tryz.prog τ H [.cell 4 33] = rdV H 4 true (τ 4):=by kernel_rfl
theorem W129_eq (Φ:EP) (s:St):awp Tryz.prog (Tryz.f129.body.getD .skip) Φ s = W129 Φ s:=by kernel_rfl
theorem W129_S {args:List AV} {r:AV} (hl:args.length ≤ 70) (h:∀ vs,W129 (retK Tryz.prog [.cell 4 33] r) ⟨Am.look (argT 0 args),hls [] vs,noG⟩):Am.Spec Tryz.prog 129 args r:=.of_W (W:=W129) Tryz.func129 (by kernel_rfl) (by kernel_rfl) (by kernel_rfl) Tryz.ntmps129 W129_eq (by kernel_rfl) hl h
-- 130 "slices.Clone[[]penance/api.Expr,penance/api.Expr]"
def W130_b1 (Φ:EP) (s:St):Prop:=
 @sOp (some 2) (xMov (.nils) s.H) s<|.mk fun s=>
 Φ .ret s
def W130_b2 (Φ:EP) (s:St):Prop:=
 @sOp (some 5) (xRow 5 33 4 0 [.int .i64 0,.int .i64 0,.str ⟨#[]⟩,.nils] [] s.H) s<|.mk fun s=>
 @sMv 6 0 s<|.mk fun s=>
 @sOp (some 7) (xApp Tryz.prog 33 4 56 (some 7) (s.τ 5) (s.τ 6) s.H) s<|.mk fun s=>
 @sMv 2 7 s<|.mk fun s=>
 Φ .ret s
def W130 (Φ:EP) (s:St):Prop:=
 @sOp (some 2) (xMov (.nils) s.H) s<|.mk fun s=>
 @sMv 3 0 s<|.mk fun s=>
 @sNil false (s.τ 3) (some 4) s<|.mk fun s=>
 @sIf (s.τ 4) ⟨W130_b1 Φ s⟩ ⟨W130_b2 Φ s⟩
theorem W130_rs (τ:Nat → AV) (H:Heap):resV Tryz.prog τ H [.tmp 2] = some (τ 2):=by kernel_rfl
theorem W130_eq (Φ:EP) (s:St):awp Tryz.prog (Tryz.f130.body.getD .skip) Φ s = W130 Φ s:=by kernel_rfl
theorem W130_S {args:List AV} {r:AV} (hl:args.length ≤ 8) (h:∀ vs,W130 (retK Tryz.prog [.tmp 2] r) ⟨Am.look (argT 0 args),hls [] vs,noG⟩):Am.Spec Tryz.prog 130 args r:=.of_W (W:=W130) Tryz.func130 (by kernel_rfl) (by kernel_rfl) (by kernel_rfl) Tryz.ntmps130 W130_eq (by kernel_rfl) hl h
-- 131 "slices.Clone[[][]penance/api.Term,[]penance/api.Term]"
def W131_b1 (Φ:EP) (s:St):Prop:=
 @sOp (some 2) (xMov (.nils) s.H) s<|.mk fun s=>
 Φ .ret s
def W131_b2 (Φ:EP) (s:St):Prop:=
 @sLit (some 5) (xRow 5 27 1 0 [.nils] [] s.H) (xLitR 1 0 [.nils] [] s.H) s<|.mk fun s=>
 @sMv 6 0 s<|.mk fun s=>
 @sOp (some 7) (xApp Tryz.prog 27 1 24 (some 7) (s.τ 5) (s.τ 6) s.H) s<|.mk fun s=>
 @sMv 2 7 s<|.mk fun s=>
 Φ .ret s
def W131 (Φ:EP) (s:St):Prop:=
 @sOp (some 2) (xMov (.nils) s.H) s<|.mk fun s=>
 @sMv 3 0 s<|.mk fun s=>
 @sNil false (s.τ 3) (some 4) s<|.mk fun s=>
 @sIf (s.τ 4) ⟨W131_b1 Φ s⟩ ⟨W131_b2 Φ s⟩
theorem W131_rs (τ:Nat → AV) (H:Heap):resV Tryz.prog τ H [.tmp 2] = some (τ 2):=by kernel_rfl
theorem W131_eq (Φ:EP) (s:St):awp Tryz.prog (Tryz.f131.body.getD .skip) Φ s = W131 Φ s:=by kernel_rfl
theorem W131_S {args:List AV} {r:AV} (hl:args.length ≤ 8) (h:∀ vs,W131 (retK Tryz.prog [.tmp 2] r) ⟨Am.look (argT 0 args),hls [] vs,noG⟩):Am.Spec Tryz.prog 131 args r:=.of_W (W:=W131) Tryz.func131 (by kernel_rfl) (by kernel_rfl) (by kernel_rfl) Tryz.ntmps131 W131_eq (by kernel_rfl) hl h
-- 132 "penance/lex.Key"
def W132 (Φ:EP) (s:St):Prop:=
 @sOp (some 2) (xMov (.bool false) s.H) s<|.mk fun s=>
 @sCall Tryz.prog (.func 146 []) [] (some 3) s<|.mk fun s=>
 @sMv 4 0 s<|.mk fun s=>
 @sCall Tryz.prog (.func 145 []) [(s.τ 3),(s.τ 4)] (some 5) s<|.mk fun s=>
 @sMv 2 5 s<|.mk fun s=>
 Φ .ret s
theorem W132_rs (τ:Nat → AV) (H:Heap):resV Tryz.prog τ H [.tmp 2] = some (τ 2):=by kernel_rfl
theorem W132_eq (Φ:EP) (s:St):awp Tryz.prog (Tryz.f132.body.getD .skip) Φ s = W132 Φ s:=by kernel_rfl
theorem W132_S {args:List AV} {r:AV} (hl:args.length ≤ 6) (h:∀ vs,W132 (retK Tryz.prog [.tmp 2] r) ⟨Am.look (argT 0 args),hls [] vs,noG⟩):Am.Spec Tryz.prog 132 args r:=.of_W (W:=W132) Tryz.func132 (by kernel_rfl) (by kernel_rfl) (by kernel_rfl) Tryz.ntmps132 W132_eq (by kernel_rfl) hl h
-- 133 "penance/lex.small"
def W133 (Φ:EP) (s:St):Prop:=
 @sOp (some 2) (xMov (.bool false) s.H) s<|.mk fun s=>
 @sMv 3 0 s<|.mk fun s=>
 @sOp (some 4) (xBin .geq false (s.τ 3) (.int .u8 97) s.H) s<|.mk fun s=>
 @sMv 5 4 s<|.mk fun s=>
 @sGm 6 0 5 true s<|.mk fun s=>
 @sGo 7 5 true s (fun s=>(xBin .leq false (s.τ 6) (.int .u8 122) s.H))<|.mk fun s=>
 @sOp (some 8) (xPick (s.τ 5) (s.τ 7) (.bool false) s.H) s<|.mk fun s=>
 @sMv 2 8 s<|.mk fun s=>
 Φ .ret s
theorem W133_rs (τ:Nat → AV) (H:Heap):resV Tryz.prog τ H [.tmp 2] = some (τ 2):=by kernel_rfl
theorem W133_eq (Φ:EP) (s:St):awp Tryz.prog (Tryz.f133.body.getD .skip) Φ s = W133 Φ s:=by kernel_rfl
theorem W133_S {args:List AV} {r:AV} (hl:args.length ≤ 9) (h:∀ vs,W133 (retK Tryz.prog [.tmp 2] r) ⟨Am.look (argT 0 args),hls [] vs,noG⟩):Am.Spec Tryz.prog 133 args r:=.of_W (W:=W133) Tryz.func133 (by kernel_rfl) (by kernel_rfl) (by kernel_rfl) Tryz.ntmps133 W133_eq (by kernel_rfl) hl h
-- 134 "penance/lex.inner"
def W134 (Φ:EP) (s:St):Prop:=
 @sOp (some 2) (xMov (.bool false) s.H) s<|.mk fun s=>
 @sMv 3 0 s<|.mk fun s=>
 @sCall Tryz.prog (.func 133 []) [(s.τ 3)] (some 4) s<|.mk fun s=>
 @sMv 5 4 s<|.mk fun s=>
 @sGm 6 0 5 false s<|.mk fun s=>
 @sGrd (guardOf (s.τ 5) false) (some 7) s ⟨fun s K=>@sCall Tryz.prog (.func 147 []) [(s.τ 6)] (some 7) s ⟨K⟩⟩<|.mk fun s=>
 @sOp (some 8) (xPick (s.τ 5) (.bool true) (s.τ 7) s.H) s<|.mk fun s=>
 @sMv 9 8 s<|.mk fun s=>
 @sGm 10 0 9 false s<|.mk fun s=>
 @sGo 11 9 false s (fun s=>(xBin .eql false (s.τ 10) (.int .u8 95) s.H))<|.mk fun s=>
 @sOp (some 12) (xPick (s.τ 9) (.bool true) (s.τ 11) s.H) s<|.mk fun s=>
 @sMv 2 12 s<|.mk fun s=>
 Φ .ret s
theorem W134_rs (τ:Nat → AV) (H:Heap):resV Tryz.prog τ H [.tmp 2] = some (τ 2):=by kernel_rfl
theorem W134_eq (Φ:EP) (s:St):awp Tryz.prog (Tryz.f134.body.getD .skip) Φ s = W134 Φ s:=by kernel_rfl
theorem W134_S {args:List AV} {r:AV} (hl:args.length ≤ 13) (h:∀ vs,W134 (retK Tryz.prog [.tmp 2] r) ⟨Am.look (argT 0 args),hls [] vs,noG⟩):Am.Spec Tryz.prog 134 args r:=.of_W (W:=W134) Tryz.func134 (by kernel_rfl) (by kernel_rfl) (by kernel_rfl) Tryz.ntmps134 W134_eq (by kernel_rfl) hl h
-- 135 "penance/expr.all"
def W135 (Φ:EP) (s:St):Prop:=
 @sOp (some 1) (xBox 1 33 (s.τ 0) s.H) s<|.mk fun s=>
 @sOp (some 2) (xMov (.nilf) s.H) s<|.mk fun s=>
 @sOp (some 3) (xMkf 148 [(s.τ 1)] s.H) s<|.mk fun s=>
 @sMv 2 3 s<|.mk fun s=>
 Φ .ret s
theorem W135_rs (τ:Nat → AV) (H:Heap):resV Tryz.prog τ H [.tmp 2] = some (τ 2):=by kernel_rfl
theorem W135_eq (Φ:EP) (s:St):awp Tryz.prog (Tryz.f135.body.getD .skip) Φ s = W135 Φ s:=by kernel_rfl
theorem W135_S {args:List AV} {r:AV} (hl:args.length ≤ 4) (h:∀ vs,W135 (retK Tryz.prog [.tmp 2] r) ⟨Am.look (argT 0 args),hls [] vs,noG⟩):Am.Spec Tryz.prog 135 args r:=.of_W (W:=W135) Tryz.func135 (by kernel_rfl) (by kernel_rfl) (by kernel_rfl) Tryz.ntmps135 W135_eq (by kernel_rfl) hl h
-- 136 "penance/expr.children"
def W136_b1 (Φ:EP) (s:St):Prop:=
 @sOp (some 2) (xMov (.int .i64 0) s.H) s<|.mk fun s=>
 Φ .ret s
def W136_b2 (Φ:EP) (s:St):Prop:=
 @sOp (some 2) (xMov (.int .i64 1) s.H) s<|.mk fun s=>
 Φ .ret s
def W136_b3 (Φ:EP) (s:St):Prop:=
 @sOp (some 2) (xMov (.int .i64 2) s.H) s<|.mk fun s=>
 Φ .ret s
def W136_b6 (Φ:EP) (s:St):Prop:=
 @sMv 11 0 s<|.mk fun s=>
 @sOp (some 12) (xBin .eql false (s.τ 11) (.int .i64 3) s.H) s<|.mk fun s=>
 @sMv 13 12 s<|.mk fun s=>
 @sGm 14 0 13 false s<|.mk fun s=>
 @sGo 15 13 false s (fun s=>(xBin .eql false (s.τ 14) (.int .i64 4) s.H))<|.mk fun s=>
 @sOp (some 16) (xPick (s.τ 13) (.bool true) (s.τ 15) s.H) s<|.mk fun s=>
 @sMv 10 16 s<|.mk fun s=>
 @sIf (s.τ 10) ⟨W136_b2 Φ s⟩ ⟨W136_b3 Φ s⟩
def W136 (Φ:EP) (s:St):Prop:=
 @sOp (some 2) (xMov (.int .i64 0) s.H) s<|.mk fun s=>
 @sMv 4 0 s<|.mk fun s=>
 @sOp (some 5) (xBin .eql false (s.τ 4) (.int .i64 1) s.H) s<|.mk fun s=>
 @sMv 6 5 s<|.mk fun s=>
 @sGm 7 0 6 false s<|.mk fun s=>
 @sGo 8 6 false s (fun s=>(xBin .eql false (s.τ 7) (.int .i64 2) s.H))<|.mk fun s=>
 @sOp (some 9) (xPick (s.τ 6) (.bool true) (s.τ 8) s.H) s<|.mk fun s=>
 @sMv 3 9 s<|.mk fun s=>
 @sIf (s.τ 3) ⟨W136_b1 Φ s⟩ ⟨W136_b6 Φ s⟩
theorem W136_rs (τ:Nat → AV) (H:Heap):resV Tryz.prog τ H [.tmp 2] = some (τ 2):=by kernel_rfl
theorem W136_eq (Φ:EP) (s:St):awp Tryz.prog (Tryz.f136.body.getD .skip) Φ s = W136 Φ s:=by kernel_rfl
theorem W136_S {args:List AV} {r:AV} (hl:args.length ≤ 17) (h:∀ vs,W136 (retK Tryz.prog [.tmp 2] r) ⟨Am.look (argT 0 args),hls [] vs,noG⟩):Am.Spec Tryz.prog 136 args r:=.of_W (W:=W136) Tryz.func136 (by kernel_rfl) (by kernel_rfl) (by kernel_rfl) Tryz.ntmps136 W136_eq (by kernel_rfl) hl h
-- 137 "(penance/steps.place).below"
def W137_k1 (Φ:EP) (s:St):Prop:=
 @sLd 31 11 5 true s<|.mk fun s=>
 @sOp none (xStore 11 (s.τ 4) (s.τ 31) s.H) s<|.mk fun s=>
 Φ .ret s
def W137_b3 (Φ:EP) (s:St):Prop:=
 @sFl 25 0 5 s<|.mk fun s=>
 @sLd 26 9 25 true s<|.mk fun s=>
 @sCall Tryz.prog (.func 114 []) [(s.τ 26)] (some 27) s<|.mk fun s=>
 @sOp (some 28) (xLen (s.τ 27) s.H) s<|.mk fun s=>
 @sOp (some 29) (xBin .gtr false (s.τ 28) (.int .i64 0) s.H) s<|.mk fun s=>
 @sFl 30 10 5 s<|.mk fun s=>
 @sOp none (xStore 1 (s.τ 30) (s.τ 29) s.H) s<|.mk fun s=>
 W137_k1 Φ s
def W137 (Φ:EP) (s:St):Prop:=
 @sOp (some 2) (xBox 2 140 (s.τ 0) s.H) s<|.mk fun s=>
 @sOp (some 4) (xAlloc 4 140 [.int .i64 0,.int .i64 0,.int .i64 0,.str ⟨#[]⟩,.int .i64 0,.int .i64 0,.str ⟨#[]⟩,.nils,.nils,.nils,.bool false] s.H) s<|.mk fun s=>
 @sFl 6 0 2 s<|.mk fun u1=>
 @sFl 7 8 6 u1<|.mk fun u2=>
 @sLd 8 1 7 false u2<|.mk fun u3=>
 @sMv 9 1 u3<|.mk fun u4=>
 @sOp (some 10) (xIx 9 (u4.τ 8) (u4.τ 9) u4.H) u4<|.mk fun u5=>
 @sLd 11 9 10 true u5<|.mk fun u6=>
 @sFl 12 9 2 u6<|.mk fun u7=>
 @sLd 13 1 12 false u7<|.mk fun u8=>
 @sChk (compat (occ (s.τ 2),[]) (cfp 14 33 [(u8.τ 13)])) <| .mk <|
 @sChk (compat (occ (u1.τ 6),[]) (cfp 14 33 [(u8.τ 13)])) <| .mk <|
 @sChk (compat (occ (u2.τ 7),[]) (cfp 14 33 [(u8.τ 13)])) <| .mk <|
 @sChk (compat (occ (u4.τ 8),[]) (cfp 14 33 [(u8.τ 13)])) <| .mk <|
 @sChk (compat (occ (u5.τ 10),[]) (cfp 14 33 [(u8.τ 13)])) <| .mk <|
 @sCall0 Tryz.prog (.func 33 []) [(u8.τ 13)] (some 14) u8<|.mk fun u9=>
 @sMv 15 1 u9<|.mk fun u10=>
 @sChk (compat (occ (s.τ 2),[]) ([16] ++ occL [(u10.τ 15)],[16] ++ occL [(u10.τ 15)])) <| .mk <|
 @sChk (compat (occ (u1.τ 6),[]) ([16] ++ occL [(u10.τ 15)],[16] ++ occL [(u10.τ 15)])) <| .mk <|
 @sChk (compat (occ (u2.τ 7),[]) ([16] ++ occL [(u10.τ 15)],[16] ++ occL [(u10.τ 15)])) <| .mk <|
 @sChk (compat (occ (u4.τ 8),[]) ([16] ++ occL [(u10.τ 15)],[16] ++ occL [(u10.τ 15)])) <| .mk <|
 @sChk (compat (occ (u5.τ 10),[]) ([16] ++ occL [(u10.τ 15)],[16] ++ occL [(u10.τ 15)])) <| .mk <|
 @sChk (compat (occ (u6.τ 2),[]) ([16] ++ occL [(u10.τ 15)],[16] ++ occL [(u10.τ 15)])) <| .mk <|
 @sChk (compat (occ (u7.τ 12),[]) ([16] ++ occL [(u10.τ 15)],[16] ++ occL [(u10.τ 15)])) <| .mk <|
 @sChk (compat (cfp 14 33 [(u8.τ 13)]) ([16] ++ occL [(u10.τ 15)],[16] ++ occL [(u10.τ 15)])) <| .mk <|
 @sOp (some 16) (xLit 1 1 [.int .i64 0] [(0,(u10.τ 15))] u10.H) u10<|.mk fun u11=>
 @sChk (compat (occ (s.τ 2),[]) ([17] ++ (occ (u11.τ 14) ++ occ (u11.τ 16)),[17] ++ occ (u11.τ 14))) <| .mk <|
 @sChk (compat (occ (u1.τ 6),[]) ([17] ++ (occ (u11.τ 14) ++ occ (u11.τ 16)),[17] ++ occ (u11.τ 14))) <| .mk <|
 @sChk (compat (occ (u2.τ 7),[]) ([17] ++ (occ (u11.τ 14) ++ occ (u11.τ 16)),[17] ++ occ (u11.τ 14))) <| .mk <|
 @sChk (compat (occ (u4.τ 8),[]) ([17] ++ (occ (u11.τ 14) ++ occ (u11.τ 16)),[17] ++ occ (u11.τ 14))) <| .mk <|
 @sChk (compat (occ (u5.τ 10),[]) ([17] ++ (occ (u11.τ 14) ++ occ (u11.τ 16)),[17] ++ occ (u11.τ 14))) <| .mk <|
 @sOp (some 17) (xApp Tryz.prog 3 1 8 (some 17) (u11.τ 14) (u11.τ 16) u11.H) u11<|.mk fun u12=>
 @sChk (compat (cfp 14 33 [(u8.τ 13)]) (occ (u12.τ 2),[])) <| .mk <|
 @sChk (compat ([16] ++ occL [(u10.τ 15)],[16] ++ occL [(u10.τ 15)]) (occ (u12.τ 2),[])) <| .mk <|
 @sChk (compat ([17] ++ (occ (u11.τ 14) ++ occ (u11.τ 16)),[17] ++ occ (u11.τ 14)) (occ (u12.τ 2),[])) <| .mk <|
 @sFl 18 10 2 u12<|.mk fun u13=>
 @sChk (compat (cfp 14 33 [(u8.τ 13)]) (occ (u13.τ 18),[])) <| .mk <|
 @sChk (compat ([16] ++ occL [(u10.τ 15)],[16] ++ occL [(u10.τ 15)]) (occ (u13.τ 18),[])) <| .mk <|
 @sChk (compat ([17] ++ (occ (u11.τ 14) ++ occ (u11.τ 16)),[17] ++ occ (u11.τ 14)) (occ (u13.τ 18),[])) <| .mk <|
 @sLd 19 1 18 false u13<|.mk fun u14=>
 @sOp (some 20) (xBuild [.int .i64 0,.int .i64 0,.int .i64 0,.str ⟨#[]⟩,.int .i64 0,.int .i64 0,.str ⟨#[]⟩,.nils,.nils,.nils,.bool false] [(0,9,(u14.τ 11)),(9,1,(u14.τ 17)),(10,1,(u14.τ 19))] u14.H) u14<|.mk fun u15=>
 @sChk (compat (occ (s.τ 2),[]) ([5],[5])) <| .mk <|
 @sChk (compat (occ (u1.τ 6),[]) ([5],[5])) <| .mk <|
 @sChk (compat (occ (u2.τ 7),[]) ([5],[5])) <| .mk <|
 @sChk (compat (occ (u4.τ 8),[]) ([5],[5])) <| .mk <|
 @sChk (compat (occ (u5.τ 10),[]) ([5],[5])) <| .mk <|
 @sChk (compat (occ (u6.τ 2),[]) ([5],[5])) <| .mk <|
 @sChk (compat (occ (u7.τ 12),[]) ([5],[5])) <| .mk <|
 @sChk (compat (cfp 14 33 [(u8.τ 13)]) ([5],[5])) <| .mk <|
 @sChk (compat ([16] ++ occL [(u10.τ 15)],[16] ++ occL [(u10.τ 15)]) ([5],[5])) <| .mk <|
 @sChk (compat ([17] ++ (occ (u11.τ 14) ++ occ (u11.τ 16)),[17] ++ occ (u11.τ 14)) ([5],[5])) <| .mk <|
 @sChk (compat (occ (u12.τ 2),[]) ([5],[5])) <| .mk <|
 @sChk (compat (occ (u13.τ 18),[]) ([5],[5])) <| .mk <|
 @sOp (some 5) (xAlloc 5 140 [.int .i64 0,.int .i64 0,.int .i64 0,.str ⟨#[]⟩,.int .i64 0,.int .i64 0,.str ⟨#[]⟩,.nils,.nils,.nils,.bool false] u15.H) u15<|.mk fun u16=>
 @sOp none (xStore 11 (u16.τ 5) (u16.τ 20) u16.H) u16<|.mk fun s=>
 @sFl 21 0 2 s<|.mk fun s=>
 @sFl 22 0 21 s<|.mk fun s=>
 @sLd 23 1 22 false s<|.mk fun s=>
 @sOp (some 24) (xBin .eql false (s.τ 23) (.int .i64 7) s.H) s<|.mk fun s=>
 @sIf (s.τ 24) ⟨W137_b3 Φ s⟩ ⟨W137_k1 Φ s⟩
theorem W137_rs (τ:Nat → AV) (H:Heap):resV Tryz.prog τ H [.cell 4 140] = rdV H 11 true (τ 4):=by kernel_rfl
theorem W137_eq (Φ:EP) (s:St):awp Tryz.prog (Tryz.f137.body.getD .skip) Φ s = W137 Φ s:=by kernel_rfl
theorem W137_S {args:List AV} {r:AV} (hl:args.length ≤ 32) (h:∀ vs,W137 (retK Tryz.prog [.cell 4 140] r) ⟨Am.look (argT 0 args),hls [] vs,noG⟩):Am.Spec Tryz.prog 137 args r:=.of_W (W:=W137) Tryz.func137 (by kernel_rfl) (by kernel_rfl) (by kernel_rfl) Tryz.ntmps137 W137_eq (by kernel_rfl) hl h
-- 138 "penance/term.active"
def W138 (Φ:EP) (s:St):Prop:=
 @sOp (some 1) (xBox 1 35 (s.τ 0) s.H) s<|.mk fun s=>
 @sOp (some 2) (xMov (.nilf) s.H) s<|.mk fun s=>
 @sOp (some 3) (xMkf 150 [(s.τ 1)] s.H) s<|.mk fun s=>
 @sMv 2 3 s<|.mk fun s=>
 Φ .ret s
theorem W138_rs (τ:Nat → AV) (H:Heap):resV Tryz.prog τ H [.tmp 2] = some (τ 2):=by kernel_rfl
theorem W138_eq (Φ:EP) (s:St):awp Tryz.prog (Tryz.f138.body.getD .skip) Φ s = W138 Φ s:=by kernel_rfl
theorem W138_S {args:List AV} {r:AV} (hl:args.length ≤ 4) (h:∀ vs,W138 (retK Tryz.prog [.tmp 2] r) ⟨Am.look (argT 0 args),hls [] vs,noG⟩):Am.Spec Tryz.prog 138 args r:=.of_W (W:=W138) Tryz.func138 (by kernel_rfl) (by kernel_rfl) (by kernel_rfl) Tryz.ntmps138 W138_eq (by kernel_rfl) hl h
-- 139 "penance/stacks.mapped[penance/api.Expr]"
def W139_k2 (Φ:EP) (s:St):Prop:=
 @sMv 22 5 s<|.mk fun s=>
 @sOp (some 23) (xLen (s.τ 22) s.H) s<|.mk fun s=>
 @sMv 8 23 s<|.mk fun s=>
 @sMv 24 5 s<|.mk fun s=>
 @sMv 25 8 s<|.mk fun s=>
 @sMv 26 8 s<|.mk fun s=>
 @sOp (some 27) (xSl3 4 (s.τ 24) (s.τ 25) (s.τ 26) (frz s.H (s.τ 24))) s<|.mk fun s=>
 @sCall Tryz.prog (.func 130 []) [(s.τ 27)] (some 28) s<|.mk fun s=>
 @sMv 4 28 s<|.mk fun s=>
 Φ .ret s
def W139_b4 (Φ:EP) (L0:SP) (s:St):Prop:=
 @sOp (some 13) (xIx 4 (s.τ 9) (s.τ 11) s.H) s<|.mk fun s=>
 @sLd 14 4 13 true s<|.mk fun s=>
 @sOp (some 7) (xAlloc 7 33 [.int .i64 0,.int .i64 0,.str ⟨#[]⟩,.nils] s.H) s<|.mk fun s=>
 @sOp none (xStore 4 (s.τ 7) (s.τ 14) s.H) s<|.mk fun s=>
 @sMv 15 5 s<|.mk fun s=>
 @sMv 16 1 s<|.mk fun s=>
 @sLd 17 4 7 true s<|.mk fun s=>
 @sCall Tryz.prog (s.τ 16) [(s.τ 17)] (some 18) s<|.mk fun s=>
 @sOp (some 19) (xLit 4 1 [.int .i64 0,.int .i64 0,.str ⟨#[]⟩,.nils] [(0,(s.τ 18))] s.H) s<|.mk fun s=>
 @sOp (some 20) (xApp Tryz.prog 33 4 56 (some 20) (s.τ 15) (s.τ 19) s.H) s<|.mk fun s=>
 @sMv 5 20 s<|.mk fun s=>
 @sOp (some 21) (xBin .add false (s.τ 11) (.int .i64 1) s.H) s<|.mk fun s=>
 @sMv 11 21 s<|.mk fun s=>
 L0 s
def W139_l5 (Φ:EP) (L0:SP) (s:St):Prop:=
 @sOp (some 12) (xBin .lss false (s.τ 11) (s.τ 10) s.H) s<|.mk fun s=>
 @sIf (s.τ 12) ⟨W139_b4 Φ L0 s⟩ ⟨W139_k2 Φ s⟩
def W139 (Φ:EP) (s:St):Prop:=
 @sOp (some 4) (xMov (.nils) s.H) s<|.mk fun s=>
 @sOp (some 5) (xMov (.nils) s.H) s<|.mk fun s=>
 @sMv 9 0 s<|.mk fun s=>
 @sOp (some 10) (xLen (s.τ 9) s.H) s<|.mk fun s=>
 @sOp (some 11) (xMov (.int .i64 0) s.H) s<|.mk fun s=>
 @sLoop s ⟨fun L0 s=>W139_l5 Φ L0 s⟩
theorem W139_rs (τ:Nat → AV) (H:Heap):resV Tryz.prog τ H [.tmp 4] = some (τ 4):=by kernel_rfl
theorem W139_eq (Φ:EP) (s:St):awp Tryz.prog (Tryz.f139.body.getD .skip) Φ s = W139 Φ s:=by kernel_rfl
theorem W139_S {args:List AV} {r:AV} (hl:args.length ≤ 29) (h:∀ vs,W139 (retK Tryz.prog [.tmp 4] r) ⟨Am.look (argT 0 args),hls [] vs,noG⟩):Am.Spec Tryz.prog 139 args r:=.of_W (W:=W139) Tryz.func139 (by kernel_rfl) (by kernel_rfl) (by kernel_rfl) Tryz.ntmps139 W139_eq (by kernel_rfl) hl h
-- 142 "(*penance/penanceref4.may).both"
def W142_b1 (Φ:EP) (s:St):Prop:=
 @sOp (some 4) (xMov (.bool false) s.H) s<|.mk fun s=>
 @sOp (some 5) (xMov (.bool false) s.H) s<|.mk fun s=>
 Φ .ret s
def W142_b2 (Φ:EP) (s:St):Prop:=
 @sOp (some 4) (xMov (.bool false) s.H) s<|.mk fun s=>
 @sOp (some 5) (xMov (.bool true) s.H) s<|.mk fun s=>
 Φ .ret s
def W142_b3 (Φ:EP) (s:St):Prop:=
 @sOp (some 4) (xMov (.bool true) s.H) s<|.mk fun s=>
 @sOp (some 5) (xMov (.bool true) s.H) s<|.mk fun s=>
 Φ .ret s
def W142_b6 (Φ:EP) (s:St):Prop:=
 @sOp (some 45) (xIxA 2 1 (s.τ 6) (.int .i64 0) s.H) s<|.mk fun s=>
 @sLd 46 1 45 false s<|.mk fun s=>
 @sMv 47 46 s<|.mk fun s=>
 @sGo 48 47 false s (fun s=>(xIxA 2 1 (s.τ 7) (.int .i64 0) s.H))<|.mk fun s=>
 @sGl 49 1 48 47 false false s<|.mk fun s=>
 @sOp (some 50) (xPick (s.τ 47) (.bool true) (s.τ 49) s.H) s<|.mk fun s=>
 @sMv 4 50 s<|.mk fun s=>
 @sOp (some 5) (xMov (.bool false) s.H) s<|.mk fun s=>
 Φ .ret s
def W142_b11 (Φ:EP) (s:St):Prop:=
 @sOp (some 54) (xIxA 2 1 (s.τ 6) (.int .i64 0) s.H) s<|.mk fun s=>
 @sLd 55 1 54 false s<|.mk fun s=>
 @sMv 56 55 s<|.mk fun s=>
 @sGo 57 56 false s (fun s=>(xIxA 2 1 (s.τ 6) (.int .i64 1) s.H))<|.mk fun s=>
 @sGl 58 1 57 56 false false s<|.mk fun s=>
 @sOp (some 59) (xPick (s.τ 56) (.bool true) (s.τ 58) s.H) s<|.mk fun s=>
 @sOp (some 60) (xIxA 2 1 (s.τ 7) (.int .i64 0) s.H) s<|.mk fun s=>
 @sLd 61 1 60 false s<|.mk fun s=>
 @sMv 62 61 s<|.mk fun s=>
 @sGo 63 62 false s (fun s=>(xIxA 2 1 (s.τ 7) (.int .i64 1) s.H))<|.mk fun s=>
 @sGl 64 1 63 62 false false s<|.mk fun s=>
 @sOp (some 65) (xPick (s.τ 62) (.bool true) (s.τ 64) s.H) s<|.mk fun s=>
 @sMv 4 59 s<|.mk fun s=>
 @sMv 5 65 s<|.mk fun s=>
 Φ .ret s
def W142_b16 (Φ:EP) (s:St):Prop:=
 @sOp (some 68) (xIxA 2 1 (s.τ 6) (.int .i64 0) s.H) s<|.mk fun s=>
 @sLd 69 1 68 false s<|.mk fun s=>
 @sMv 70 69 s<|.mk fun s=>
 @sGo 71 70 true s (fun s=>(xIxA 2 1 (s.τ 6) (.int .i64 1) s.H))<|.mk fun s=>
 @sGl 72 1 71 70 false true s<|.mk fun s=>
 @sOp (some 73) (xPick (s.τ 70) (s.τ 72) (.bool false) s.H) s<|.mk fun s=>
 @sOp (some 74) (xIxA 2 1 (s.τ 7) (.int .i64 0) s.H) s<|.mk fun s=>
 @sLd 75 1 74 false s<|.mk fun s=>
 @sMv 76 75 s<|.mk fun s=>
 @sGo 77 76 false s (fun s=>(xIxA 2 1 (s.τ 7) (.int .i64 1) s.H))<|.mk fun s=>
 @sGl 78 1 77 76 false false s<|.mk fun s=>
 @sOp (some 79) (xPick (s.τ 76) (.bool true) (s.τ 78) s.H) s<|.mk fun s=>
 @sMv 4 73 s<|.mk fun s=>
 @sMv 5 79 s<|.mk fun s=>
 Φ .ret s
def W142_b25 (Φ:EP) (s:St):Prop:=
 @sOp (some 82) (xIxA 2 1 (s.τ 6) (.int .i64 0) s.H) s<|.mk fun s=>
 @sLd 83 1 82 false s<|.mk fun s=>
 @sMv 84 83 s<|.mk fun s=>
 @sGo 85 84 true s (fun s=>(xIxA 2 1 (s.τ 6) (.int .i64 1) s.H))<|.mk fun s=>
 @sGl 86 1 85 84 false true s<|.mk fun s=>
 @sOp (some 87) (xPick (s.τ 84) (s.τ 86) (.bool false) s.H) s<|.mk fun s=>
 @sOp (some 88) (xIxA 2 1 (s.τ 7) (.int .i64 0) s.H) s<|.mk fun s=>
 @sLd 89 1 88 false s<|.mk fun s=>
 @sMv 90 89 s<|.mk fun s=>
 @sGo 91 90 false s (fun s=>(xIxA 2 1 (s.τ 6) (.int .i64 0) s.H))<|.mk fun s=>
 @sGl 92 1 91 90 false false s<|.mk fun s=>
 @sGm 93 92 90 false s<|.mk fun s=>
 @sGo 94 93 true s (fun s=>(xIxA 2 1 (s.τ 7) (.int .i64 1) s.H))<|.mk fun s=>
 @sGl 95 1 94 93 false true s<|.mk fun s=>
 @sGo 96 90 false s (fun s=>(xPick (s.τ 93) (s.τ 95) (.bool false) s.H))<|.mk fun s=>
 @sOp (some 97) (xPick (s.τ 90) (.bool true) (s.τ 96) s.H) s<|.mk fun s=>
 @sMv 4 87 s<|.mk fun s=>
 @sMv 5 97 s<|.mk fun s=>
 Φ .ret s
def W142_b41 (Φ:EP) (s:St):Prop:=
 @sMv 100 0 s<|.mk fun s=>
 @sOp (some 101) (xNil (s.τ 100) s.H) s<|.mk fun s=>
 @sFl 102 0 101 s<|.mk fun s=>
 @sLd 103 1 102 false s<|.mk fun s=>
 @sFl 104 1 3 s<|.mk fun s=>
 @sLd 105 1 104 false s<|.mk fun s=>
 @sCall0 Tryz.prog (.func 67 []) [(s.τ 103),(s.τ 105)] (some 106) s<|.mk fun s=>
 @sMv 9 106 s<|.mk fun s=>
 @sMv 107 9 s<|.mk fun s=>
 @sOp (some 108) (xBin .geq false (s.τ 107) (.int .i64 0) s.H) s<|.mk fun s=>
 @sMv 109 108 s<|.mk fun s=>
 @sGm 110 0 109 true s<|.mk fun s=>
 @sGo 111 109 true s (fun s=>(xNil (s.τ 110) s.H))<|.mk fun s=>
 @sGf 112 1 111 109 true s<|.mk fun s=>
 @sGl 113 1 112 109 false true s<|.mk fun s=>
 @sGm 114 9 109 true s<|.mk fun s=>
 @sGo 115 109 true s (fun s=>(xIx 1 (s.τ 113) (s.τ 114) s.H))<|.mk fun s=>
 @sGl 116 1 115 109 false true s<|.mk fun s=>
 @sOp (some 117) (xPick (s.τ 109) (s.τ 116) (.bool false) s.H) s<|.mk fun s=>
 @sMv 118 9 s<|.mk fun s=>
 @sOp (some 119) (xBin .geq false (s.τ 118) (.int .i64 0) s.H) s<|.mk fun s=>
 @sMv 120 119 s<|.mk fun s=>
 @sGm 121 0 120 true s<|.mk fun s=>
 @sGo 122 120 true s (fun s=>(xNil (s.τ 121) s.H))<|.mk fun s=>
 @sGf 123 2 122 120 true s<|.mk fun s=>
 @sGl 124 1 123 120 false true s<|.mk fun s=>
 @sGm 125 9 120 true s<|.mk fun s=>
 @sGo 126 120 true s (fun s=>(xIx 1 (s.τ 124) (s.τ 125) s.H))<|.mk fun s=>
 @sGl 127 1 126 120 false true s<|.mk fun s=>
 @sOp (some 128) (xPick (s.τ 120) (s.τ 127) (.bool false) s.H) s<|.mk fun s=>
 @sMv 4 117 s<|.mk fun s=>
 @sMv 5 128 s<|.mk fun s=>
 Φ .ret s
def W142_b42 (Φ:EP) (s:St):Prop:=
 @sOp (some 4) (xMov (.bool true) s.H) s<|.mk fun s=>
 @sOp (some 5) (xMov (.bool false) s.H) s<|.mk fun s=>
 Φ .ret s
def W142_b43 (Φ:EP) (s:St):Prop:=
 @sOp (some 99) (xBin .eql false (s.τ 36) (.int .i64 13) s.H) s<|.mk fun s=>
 @sMv 98 99 s<|.mk fun s=>
 @sIf (s.τ 98) ⟨W142_b41 Φ s⟩ ⟨W142_b42 Φ s⟩
def W142_b44 (Φ:EP) (s:St):Prop:=
 @sOp (some 81) (xBin .eql false (s.τ 36) (.int .i64 12) s.H) s<|.mk fun s=>
 @sMv 80 81 s<|.mk fun s=>
 @sIf (s.τ 80) ⟨W142_b25 Φ s⟩ ⟨W142_b43 Φ s⟩
def W142_b45 (Φ:EP) (s:St):Prop:=
 @sOp (some 67) (xBin .eql false (s.τ 36) (.int .i64 11) s.H) s<|.mk fun s=>
 @sMv 66 67 s<|.mk fun s=>
 @sIf (s.τ 66) ⟨W142_b16 Φ s⟩ ⟨W142_b44 Φ s⟩
def W142_k46 (Φ:EP) (s:St):Prop:=
 @sIf (s.τ 51) ⟨W142_b11 Φ s⟩ ⟨W142_b45 Φ s⟩
def W142_b47 (Φ:EP) (s:St):Prop:=
 @sOp (some 53) (xBin .eql false (s.τ 36) (.int .i64 10) s.H) s<|.mk fun s=>
 @sMv 51 53 s<|.mk fun s=>
 W142_k46 Φ s
def W142_b48 (Φ:EP) (s:St):Prop:=
 @sOp (some 52) (xBin .eql false (s.τ 36) (.int .i64 9) s.H) s<|.mk fun s=>
 @sMv 51 52 s<|.mk fun s=>
 @sIf (s.τ 51) ⟨W142_k46 Φ s⟩ ⟨W142_b47 Φ s⟩
def W142_b49 (Φ:EP) (s:St):Prop:=
 @sOp (some 44) (xBin .eql false (s.τ 36) (.int .i64 7) s.H) s<|.mk fun s=>
 @sMv 43 44 s<|.mk fun s=>
 @sIf (s.τ 43) ⟨W142_b6 Φ s⟩ ⟨W142_b48 Φ s⟩
def W142_b50 (Φ:EP) (s:St):Prop:=
 @sOp (some 42) (xBin .eql false (s.τ 36) (.int .i64 4) s.H) s<|.mk fun s=>
 @sMv 41 42 s<|.mk fun s=>
 @sIf (s.τ 41) ⟨W142_b3 Φ s⟩ ⟨W142_b49 Φ s⟩
def W142_b51 (Φ:EP) (s:St):Prop:=
 @sOp (some 40) (xBin .eql false (s.τ 36) (.int .i64 8) s.H) s<|.mk fun s=>
 @sMv 39 40 s<|.mk fun s=>
 @sIf (s.τ 39) ⟨W142_b2 Φ s⟩ ⟨W142_b50 Φ s⟩
def W142_k52 (Φ:EP) (s:St):Prop:=
 @sFl 35 0 3 s<|.mk fun s=>
 @sLd 36 1 35 false s<|.mk fun s=>
 @sOp (some 38) (xBin .eql false (s.τ 36) (.int .i64 1) s.H) s<|.mk fun s=>
 @sMv 37 38 s<|.mk fun s=>
 @sIf (s.τ 37) ⟨W142_b1 Φ s⟩ ⟨W142_b51 Φ s⟩
def W142_b54 (Φ:EP) (L0:SP) (s:St):Prop:=
 @sMv 22 8 s<|.mk fun s=>
 @sMv 23 8 s<|.mk fun s=>
 @sMv 24 0 s<|.mk fun s=>
 @sFl 25 7 3 s<|.mk fun s=>
 @sLd 26 1 25 false s<|.mk fun s=>
 @sMv 27 8 s<|.mk fun s=>
 @sOp (some 28) (xIx 8 (s.τ 26) (s.τ 27) s.H) s<|.mk fun s=>
 @sLd 29 8 28 true s<|.mk fun s=>
 @sCall Tryz.prog (.func 142 []) [(s.τ 24),(s.τ 29)] (some 30) s<|.mk fun s=>
 @sMv 21 30 s<|.mk fun s=>
 @sOp (some 31) (xExt (s.τ 21) 0 s.H) s<|.mk fun s=>
 @sOp (some 32) (xExt (s.τ 21) 1 s.H) s<|.mk fun s=>
 @sOp (some 33) (xIxA 2 1 (s.τ 6) (s.τ 22) s.H) s<|.mk fun s=>
 @sOp none (xStore 1 (s.τ 33) (s.τ 31) s.H) s<|.mk fun s=>
 @sOp (some 34) (xIxA 2 1 (s.τ 7) (s.τ 23) s.H) s<|.mk fun s=>
 @sOp none (xStore 1 (s.τ 34) (s.τ 32) s.H) s<|.mk fun s=>
 @sMv 19 8 s<|.mk fun s=>
 @sOp (some 20) (xBin .add false (s.τ 19) (.int .i64 1) s.H) s<|.mk fun s=>
 @sMv 8 20 s<|.mk fun s=>
 L0 s
def W142_l57 (Φ:EP) (L0:SP) (s:St):Prop:=
 @sMv 10 8 s<|.mk fun s=>
 @sFl 11 7 3 s<|.mk fun s=>
 @sLd 12 1 11 false s<|.mk fun s=>
 @sOp (some 13) (xLen (s.τ 12) s.H) s<|.mk fun s=>
 @sOp (some 14) (xBin .lss false (s.τ 10) (s.τ 13) s.H) s<|.mk fun s=>
 @sMv 15 14 s<|.mk fun s=>
 @sGm 16 8 15 true s<|.mk fun s=>
 @sGo 17 15 true s (fun s=>(xBin .lss false (s.τ 16) (.int .i64 2) s.H))<|.mk fun s=>
 @sOp (some 18) (xPick (s.τ 15) (s.τ 17) (.bool false) s.H) s<|.mk fun s=>
 @sIf (s.τ 18) ⟨W142_b54 Φ L0 s⟩ ⟨W142_k52 Φ s⟩
def W142 (Φ:EP) (s:St):Prop:=
 @sOp (some 3) (xBox 3 80 (s.τ 1) s.H) s<|.mk fun s=>
 @sOp (some 4) (xMov (.bool false) s.H) s<|.mk fun s=>
 @sOp (some 5) (xMov (.bool false) s.H) s<|.mk fun s=>
 @sOp (some 6) (xAlloc 6 198 [.bool false,.bool false] s.H) s<|.mk fun s=>
 @sOp (some 7) (xAlloc 7 198 [.bool false,.bool false] s.H) s<|.mk fun s=>
 @sOp (some 8) (xMov (.int .i64 0) s.H) s<|.mk fun s=>
 @sLoop s ⟨fun L0 s=>W142_l57 Φ L0 s⟩
theorem W142_rs (τ:Nat → AV) (H:Heap):resV Tryz.prog τ H [.tmp 4,.tmp 5] = ob (ob (some (τ 4)) fun v=>ob (ob (some (τ 5)) fun v=>ob (some []) fun vs=>some (v :: vs)) fun vs=>some (v :: vs)) fun vs=>some (.tup vs):=by kernel_rfl
theorem W142_eq (Φ:EP) (s:St):awp Tryz.prog (Tryz.f142.body.getD .skip) Φ s = W142 Φ s:=by kernel_rfl
theorem W142_S {args:List AV} {r:AV} (hl:args.length ≤ 129) (h:∀ vs,W142 (retK Tryz.prog [.tmp 4,.tmp 5] r) ⟨Am.look (argT 0 args),hls [] vs,noG⟩):Am.Spec Tryz.prog 142 args r:=.of_W (W:=W142) Tryz.func142 (by kernel_rfl) (by kernel_rfl) (by kernel_rfl) Tryz.ntmps142 W142_eq (by kernel_rfl) hl h
-- 143 "penance/penancelaw2.within"
def W143_k1 (Φ:EP) (s:St):Prop:=
 @sMv 14 5 s<|.mk fun s=>
 @sMv 4 14 s<|.mk fun s=>
 Φ .ret s
def W143_b2 (Φ:EP) (s:St):Prop:=
 @sMv 11 5 s<|.mk fun s=>
 @sMv 12 1 s<|.mk fun s=>
 @sOp (some 13) (xBin .add false (s.τ 11) (s.τ 12) s.H) s<|.mk fun s=>
 @sMv 5 13 s<|.mk fun s=>
 W143_k1 Φ s
def W143 (Φ:EP) (s:St):Prop:=
 @sOp (some 4) (xMov (.int .i64 0) s.H) s<|.mk fun s=>
 @sMv 6 0 s<|.mk fun s=>
 @sMv 7 1 s<|.mk fun s=>
 @sOp (some 8) (xBin .rem false (s.τ 6) (s.τ 7) s.H) s<|.mk fun s=>
 @sMv 5 8 s<|.mk fun s=>
 @sMv 9 5 s<|.mk fun s=>
 @sOp (some 10) (xBin .lss false (s.τ 9) (.int .i64 0) s.H) s<|.mk fun s=>
 @sIf (s.τ 10) ⟨W143_b2 Φ s⟩ ⟨W143_k1 Φ s⟩
theorem W143_rs (τ:Nat → AV) (H:Heap):resV Tryz.prog τ H [.tmp 4] = some (τ 4):=by kernel_rfl
theorem W143_eq (Φ:EP) (s:St):awp Tryz.prog (Tryz.f143.body.getD .skip) Φ s = W143 Φ s:=by kernel_rfl
theorem W143_S {args:List AV} {r:AV} (hl:args.length ≤ 15) (h:∀ vs,W143 (retK Tryz.prog [.tmp 4] r) ⟨Am.look (argT 0 args),hls [] vs,noG⟩):Am.Spec Tryz.prog 143 args r:=.of_W (W:=W143) Tryz.func143 (by kernel_rfl) (by kernel_rfl) (by kernel_rfl) Tryz.ntmps143 W143_eq (by kernel_rfl) hl h
-- 144 "(penance/penancelaw2.Raw).part"
def W144_b2 (Φ:EP) (s:St):Prop:=
 @sFl 12 2 3 s<|.mk fun s=>
 @sLd 13 1 12 false s<|.mk fun s=>
 @sMv 14 1 s<|.mk fun s=>
 @sOp (some 15) (xIx 3 (s.τ 13) (s.τ 14) s.H) s<|.mk fun s=>
 @sLd 16 3 15 true s<|.mk fun s=>
 @sMv 17 2 s<|.mk fun s=>
 @sCall Tryz.prog (.func 129 []) [(s.τ 16),(s.τ 17)] (some 18) s<|.mk fun s=>
 @sOp none (xStore 4 (s.τ 6) (s.τ 18) s.H) s<|.mk fun s=>
 Φ .ret s
def W144_b4 (Φ:EP) (s:St):Prop:=
 @sFl 19 1 3 s<|.mk fun s=>
 @sLd 20 1 19 false s<|.mk fun s=>
 @sMv 21 1 s<|.mk fun s=>
 @sOp (some 22) (xBin .add false (s.τ 20) (s.τ 21) s.H) s<|.mk fun s=>
 @sCall Tryz.prog (.func 143 []) [(s.τ 22),(.int .i64 5)] (some 23) s<|.mk fun s=>
 @sOp (some 24) (xBuild [.int .i64 0,.int .i64 0,.str ⟨#[]⟩,.nils] [(0,1,(.int .i64 1)),(1,1,(s.τ 23))] s.H) s<|.mk fun s=>
 @sOp none (xStore 4 (s.τ 6) (s.τ 24) s.H) s<|.mk fun s=>
 Φ .ret s
def W144 (Φ:EP) (s:St):Prop:=
 @sOp (some 3) (xBox 3 176 (s.τ 0) s.H) s<|.mk fun s=>
 @sOp (some 6) (xAlloc 6 33 [.int .i64 0,.int .i64 0,.str ⟨#[]⟩,.nils] s.H) s<|.mk fun s=>
 @sMv 7 1 s<|.mk fun s=>
 @sFl 8 2 3 s<|.mk fun s=>
 @sLd 9 1 8 false s<|.mk fun s=>
 @sOp (some 10) (xLen (s.τ 9) s.H) s<|.mk fun s=>
 @sOp (some 11) (xBin .lss false (s.τ 7) (s.τ 10) s.H) s<|.mk fun s=>
 @sIf (s.τ 11) ⟨W144_b2 Φ s⟩ ⟨W144_b4 Φ s⟩
theorem W144_rs (τ:Nat → AV) (H:Heap):resV Tryz.prog τ H [.cell 6 33] = rdV H 4 true (τ 6):=by kernel_rfl
theorem W144_eq (Φ:EP) (s:St):awp Tryz.prog (Tryz.f144.body.getD .skip) Φ s = W144 Φ s:=by kernel_rfl
theorem W144_S {args:List AV} {r:AV} (hl:args.length ≤ 25) (h:∀ vs,W144 (retK Tryz.prog [.cell 6 33] r) ⟨Am.look (argT 0 args),hls [] vs,noG⟩):Am.Spec Tryz.prog 144 args r:=.of_W (W:=W144) Tryz.func144 (by kernel_rfl) (by kernel_rfl) (by kernel_rfl) Tryz.ntmps144 W144_eq (by kernel_rfl) hl h
-- 145 "slices.Contains[[]string,string]"
def W145 (Φ:EP) (s:St):Prop:=
 @sOp (some 4) (xMov (.bool false) s.H) s<|.mk fun s=>
 @sMv 5 0 s<|.mk fun s=>
 @sMv 6 1 s<|.mk fun s=>
 @sCall Tryz.prog (.func 152 []) [(s.τ 5),(s.τ 6)] (some 7) s<|.mk fun s=>
 @sOp (some 8) (xBin .geq false (s.τ 7) (.int .i64 0) s.H) s<|.mk fun s=>
 @sMv 4 8 s<|.mk fun s=>
 Φ .ret s
theorem W145_rs (τ:Nat → AV) (H:Heap):resV Tryz.prog τ H [.tmp 4] = some (τ 4):=by kernel_rfl
theorem W145_eq (Φ:EP) (s:St):awp Tryz.prog (Tryz.f145.body.getD .skip) Φ s = W145 Φ s:=by kernel_rfl
theorem W145_S {args:List AV} {r:AV} (hl:args.length ≤ 9) (h:∀ vs,W145 (retK Tryz.prog [.tmp 4] r) ⟨Am.look (argT 0 args),hls [] vs,noG⟩):Am.Spec Tryz.prog 145 args r:=.of_W (W:=W145) Tryz.func145 (by kernel_rfl) (by kernel_rfl) (by kernel_rfl) Tryz.ntmps145 W145_eq (by kernel_rfl) hl h
-- 146 "penance/lex.words"
def W146 (Φ:EP) (s:St):Prop:=
 @sOp (some 0) (xMov (.nils) s.H) s<|.mk fun s=>
 @sOp (some 1) (xLit 1 16 [.str ⟨#[]⟩] [(0,(.str ⟨#[118,97,114]⟩)),(1,(.str ⟨#[115,116,97,99,107]⟩)),(2,(.str ⟨#[112,114,111,99]⟩)),(3,(.str ⟨#[115,107,105,112]⟩)),(4,(.str ⟨#[100,111]⟩)),(5,(.str ⟨#[112,117,115,104]⟩)),(6,(.str ⟨#[114,101,118,101,114,115,101]⟩)),(7,(.str ⟨#[97,99,99,101,112,116]⟩)),(8,(.str ⟨#[109,101,114,103,101]⟩)),(9,(.str ⟨#[98,108,111,99,107]⟩)),(10,(.str ⟨#[101,120,105,116]⟩)),(11,(.str ⟨#[105,102]⟩)),(12,(.str ⟨#[101,108,115,101]⟩)),(13,(.str ⟨#[99,104,111,111,115,101]⟩)),(14,(.str ⟨#[112,97,114]⟩)),(15,(.str ⟨#[99,97,108,108]⟩))] s.H) s<|.mk fun s=>
 @sMv 0 1 s<|.mk fun s=>
 Φ .ret s
theorem W146_rs (τ:Nat → AV) (H:Heap):resV Tryz.prog τ H [.tmp 0] = some (τ 0):=by kernel_rfl
theorem W146_eq (Φ:EP) (s:St):awp Tryz.prog (Tryz.f146.body.getD .skip) Φ s = W146 Φ s:=by kernel_rfl
theorem W146_S {args:List AV} {r:AV} (hl:args.length ≤ 2) (h:∀ vs,W146 (retK Tryz.prog [.tmp 0] r) ⟨Am.look (argT 0 args),hls [] vs,noG⟩):Am.Spec Tryz.prog 146 args r:=.of_W (W:=W146) Tryz.func146 (by kernel_rfl) (by kernel_rfl) (by kernel_rfl) Tryz.ntmps146 W146_eq (by kernel_rfl) hl h
-- 147 "penance/lex.digit"
def W147 (Φ:EP) (s:St):Prop:=
 @sOp (some 2) (xMov (.bool false) s.H) s<|.mk fun s=>
 @sMv 3 0 s<|.mk fun s=>
 @sOp (some 4) (xBin .geq false (s.τ 3) (.int .u8 48) s.H) s<|.mk fun s=>
 @sMv 5 4 s<|.mk fun s=>
 @sGm 6 0 5 true s<|.mk fun s=>
 @sGo 7 5 true s (fun s=>(xBin .leq false (s.τ 6) (.int .u8 57) s.H))<|.mk fun s=>
 @sOp (some 8) (xPick (s.τ 5) (s.τ 7) (.bool false) s.H) s<|.mk fun s=>
 @sMv 2 8 s<|.mk fun s=>
 Φ .ret s
theorem W147_rs (τ:Nat → AV) (H:Heap):resV Tryz.prog τ H [.tmp 2] = some (τ 2):=by kernel_rfl
theorem W147_eq (Φ:EP) (s:St):awp Tryz.prog (Tryz.f147.body.getD .skip) Φ s = W147 Φ s:=by kernel_rfl
theorem W147_S {args:List AV} {r:AV} (hl:args.length ≤ 9) (h:∀ vs,W147 (retK Tryz.prog [.tmp 2] r) ⟨Am.look (argT 0 args),hls [] vs,noG⟩):Am.Spec Tryz.prog 147 args r:=.of_W (W:=W147) Tryz.func147 (by kernel_rfl) (by kernel_rfl) (by kernel_rfl) Tryz.ntmps147 W147_eq (by kernel_rfl) hl h
-- 148 "penance/expr.all$1"
def W148 (Φ:EP) (s:St):Prop:=
 @sLd 3 4 1 true s<|.mk fun s=>
 @sMv 4 0 s<|.mk fun s=>
 @sCall Tryz.prog (.func 149 []) [(s.τ 3),(s.τ 4)] (some 5) s<|.mk fun s=>
 Φ .normal s
theorem W148_rs (τ:Nat → AV) (H:Heap):resV Tryz.prog τ H [] = ob (some []) fun vs=>some (.tup vs):=by kernel_rfl
theorem W148_eq (Φ:EP) (s:St):awp Tryz.prog (Tryz.f148.body.getD .skip) Φ s = W148 Φ s:=by kernel_rfl
theorem W148_S {args:List AV} {r:AV} (hl:args.length ≤ 6) (h:∀ vs,W148 (retK Tryz.prog [] r) ⟨Am.look (argT 0 args),hls [] vs,noG⟩):Am.Spec Tryz.prog 148 args r:=.of_W (W:=W148) Tryz.func148 (by kernel_rfl) (by kernel_rfl) (by kernel_rfl) Tryz.ntmps148 W148_eq (by kernel_rfl) hl h
-- 149 "penance/expr.walk"
def W149_b1 (Φ:EP) (s:St):Prop:=
 @sOp (some 4) (xMov (.bool false) s.H) s<|.mk fun s=>
 Φ .ret s
def W149_k2 (Φ:EP) (s:St):Prop:=
 @sOp (some 4) (xMov (.bool true) s.H) s<|.mk fun s=>
 Φ .ret s
def W149_b3 (Φ:EP) (L0:SP) (s:St):Prop:=
 @sOp (some 4) (xMov (.bool false) s.H) s<|.mk fun s=>
 Φ .ret s
def W149_b4 (Φ:EP) (L0:SP) (s:St):Prop:=
 @sOp (some 22) (xBin .add false (s.τ 14) (.int .i64 1) s.H) s<|.mk fun s=>
 @sMv 14 22 s<|.mk fun s=>
 L0 s
def W149_b6 (Φ:EP) (L0:SP) (s:St):Prop:=
 @sOp (some 16) (xIx 4 (s.τ 12) (s.τ 14) s.H) s<|.mk fun s=>
 @sLd 17 4 16 true s<|.mk fun s=>
 @sOp (some 6) (xAlloc 6 33 [.int .i64 0,.int .i64 0,.str ⟨#[]⟩,.nils] s.H) s<|.mk fun s=>
 @sOp none (xStore 4 (s.τ 6) (s.τ 17) s.H) s<|.mk fun s=>
 @sLd 18 4 6 true s<|.mk fun s=>
 @sMv 19 1 s<|.mk fun s=>
 @sCall Tryz.prog (.func 149 []) [(s.τ 18),(s.τ 19)] (some 20) s<|.mk fun s=>
 @sOp (some 21) (xNot (s.τ 20) s.H) s<|.mk fun s=>
 @sIf (s.τ 21) ⟨W149_b3 Φ L0 s⟩ ⟨W149_b4 Φ L0 s⟩
def W149_l7 (Φ:EP) (L0:SP) (s:St):Prop:=
 @sOp (some 15) (xBin .lss false (s.τ 14) (s.τ 13) s.H) s<|.mk fun s=>
 @sIf (s.τ 15) ⟨W149_b6 Φ L0 s⟩ ⟨W149_k2 Φ s⟩
def W149_b8 (Φ:EP) (s:St):Prop:=
 @sFl 11 3 2 s<|.mk fun s=>
 @sLd 12 1 11 false s<|.mk fun s=>
 @sOp (some 13) (xLen (s.τ 12) s.H) s<|.mk fun s=>
 @sOp (some 14) (xMov (.int .i64 0) s.H) s<|.mk fun s=>
 @sLoop s ⟨fun L0 s=>W149_l7 Φ L0 s⟩
def W149 (Φ:EP) (s:St):Prop:=
 @sOp (some 2) (xBox 2 33 (s.τ 0) s.H) s<|.mk fun s=>
 @sOp (some 4) (xMov (.bool false) s.H) s<|.mk fun s=>
 @sMv 7 1 s<|.mk fun s=>
 @sLd 8 4 2 true s<|.mk fun s=>
 @sCall Tryz.prog (s.τ 7) [(s.τ 8)] (some 9) s<|.mk fun s=>
 @sOp (some 10) (xNot (s.τ 9) s.H) s<|.mk fun s=>
 @sIf (s.τ 10) ⟨W149_b1 Φ s⟩ ⟨W149_b8 Φ s⟩
theorem W149_rs (τ:Nat → AV) (H:Heap):resV Tryz.prog τ H [.tmp 4] = some (τ 4):=by kernel_rfl
theorem W149_eq (Φ:EP) (s:St):awp Tryz.prog (Tryz.f149.body.getD .skip) Φ s = W149 Φ s:=by kernel_rfl
theorem W149_S {args:List AV} {r:AV} (hl:args.length ≤ 23) (h:∀ vs,W149 (retK Tryz.prog [.tmp 4] r) ⟨Am.look (argT 0 args),hls [] vs,noG⟩):Am.Spec Tryz.prog 149 args r:=.of_W (W:=W149) Tryz.func149 (by kernel_rfl) (by kernel_rfl) (by kernel_rfl) Tryz.ntmps149 W149_eq (by kernel_rfl) hl h
-- 150 "penance/term.active$1"
def W150 (Φ:EP) (s:St):Prop:=
 @sLd 3 9 1 true s<|.mk fun s=>
 @sMv 4 0 s<|.mk fun s=>
 @sCall Tryz.prog (.func 151 []) [(s.τ 3),(s.τ 4)] (some 5) s<|.mk fun s=>
 Φ .normal s
theorem W150_rs (τ:Nat → AV) (H:Heap):resV Tryz.prog τ H [] = ob (some []) fun vs=>some (.tup vs):=by kernel_rfl
theorem W150_eq (Φ:EP) (s:St):awp Tryz.prog (Tryz.f150.body.getD .skip) Φ s = W150 Φ s:=by kernel_rfl
theorem W150_S {args:List AV} {r:AV} (hl:args.length ≤ 6) (h:∀ vs,W150 (retK Tryz.prog [] r) ⟨Am.look (argT 0 args),hls [] vs,noG⟩):Am.Spec Tryz.prog 150 args r:=.of_W (W:=W150) Tryz.func150 (by kernel_rfl) (by kernel_rfl) (by kernel_rfl) Tryz.ntmps150 W150_eq (by kernel_rfl) hl h
-- 151 "penance/term.walk"
def W151_b1 (Φ:EP) (s:St):Prop:=
 @sOp (some 4) (xMov (.bool false) s.H) s<|.mk fun s=>
 Φ .ret s
def W151_k2 (Φ:EP) (s:St):Prop:=
 @sOp (some 4) (xMov (.bool true) s.H) s<|.mk fun s=>
 Φ .ret s
def W151_b3 (Φ:EP) (L0:SP) (s:St):Prop:=
 @sOp (some 4) (xMov (.bool false) s.H) s<|.mk fun s=>
 Φ .ret s
def W151_b4 (Φ:EP) (L0:SP) (s:St):Prop:=
 @sOp (some 36) (xBin .add false (s.τ 28) (.int .i64 1) s.H) s<|.mk fun s=>
 @sMv 28 36 s<|.mk fun s=>
 L0 s
def W151_b6 (Φ:EP) (L0:SP) (s:St):Prop:=
 @sOp (some 30) (xIx 9 (s.τ 26) (s.τ 28) s.H) s<|.mk fun s=>
 @sLd 31 9 30 true s<|.mk fun s=>
 @sOp (some 7) (xAlloc 7 35 [.int .i64 0,.int .i64 0,.int .i64 0,.str ⟨#[]⟩,.int .i64 0,.int .i64 0,.str ⟨#[]⟩,.nils,.nils] s.H) s<|.mk fun s=>
 @sOp none (xStore 9 (s.τ 7) (s.τ 31) s.H) s<|.mk fun s=>
 @sLd 32 9 7 true s<|.mk fun s=>
 @sMv 33 1 s<|.mk fun s=>
 @sCall Tryz.prog (.func 151 []) [(s.τ 32),(s.τ 33)] (some 34) s<|.mk fun s=>
 @sOp (some 35) (xNot (s.τ 34) s.H) s<|.mk fun s=>
 @sIf (s.τ 35) ⟨W151_b3 Φ L0 s⟩ ⟨W151_b4 Φ L0 s⟩
def W151_l7 (Φ:EP) (L0:SP) (s:St):Prop:=
 @sOp (some 29) (xBin .lss false (s.τ 28) (s.τ 27) s.H) s<|.mk fun s=>
 @sIf (s.τ 29) ⟨W151_b6 Φ L0 s⟩ ⟨W151_k2 Φ s⟩
def W151_k8 (Φ:EP) (s:St):Prop:=
 @sMv 26 5 s<|.mk fun s=>
 @sOp (some 27) (xLen (s.τ 26) s.H) s<|.mk fun s=>
 @sOp (some 28) (xMov (.int .i64 0) s.H) s<|.mk fun s=>
 @sLoop s ⟨fun L0 s=>W151_l7 Φ L0 s⟩
def W151_b9 (Φ:EP) (s:St):Prop:=
 @sMv 18 5 s<|.mk fun s=>
 @sMv 19 5 s<|.mk fun s=>
 @sOp (some 20) (xLen (s.τ 19) s.H) s<|.mk fun s=>
 @sOp (some 21) (xMin (s.τ 20) (.int .i64 1) s.H) s<|.mk fun s=>
 @sOp (some 22) (xSlc 9 (s.τ 18) none (some (s.τ 21)) s.H) s<|.mk fun s=>
 @sMv 5 22 s<|.mk fun s=>
 W151_k8 Φ s
def W151_b10 (Φ:EP) (s:St):Prop:=
 @sOp (some 4) (xMov (.bool true) s.H) s<|.mk fun s=>
 Φ .ret s
def W151_k11 (Φ:EP) (s:St):Prop:=
 @sIf (s.τ 23) ⟨W151_k8 Φ s⟩ ⟨W151_b10 Φ s⟩
def W151_b12 (Φ:EP) (s:St):Prop:=
 @sOp (some 25) (xBin .eql false (s.τ 15) (.int .i64 7) s.H) s<|.mk fun s=>
 @sMv 23 25 s<|.mk fun s=>
 W151_k11 Φ s
def W151_b13 (Φ:EP) (s:St):Prop:=
 @sOp (some 24) (xBin .eql false (s.τ 15) (.int .i64 11) s.H) s<|.mk fun s=>
 @sMv 23 24 s<|.mk fun s=>
 @sIf (s.τ 23) ⟨W151_k11 Φ s⟩ ⟨W151_b12 Φ s⟩
def W151_b14 (Φ:EP) (s:St):Prop:=
 @sFl 12 8 2 s<|.mk fun s=>
 @sLd 13 1 12 false s<|.mk fun s=>
 @sMv 5 13 s<|.mk fun s=>
 @sFl 14 0 2 s<|.mk fun s=>
 @sLd 15 1 14 false s<|.mk fun s=>
 @sOp (some 17) (xBin .eql false (s.τ 15) (.int .i64 12) s.H) s<|.mk fun s=>
 @sMv 16 17 s<|.mk fun s=>
 @sIf (s.τ 16) ⟨W151_b9 Φ s⟩ ⟨W151_b13 Φ s⟩
def W151 (Φ:EP) (s:St):Prop:=
 @sOp (some 2) (xBox 2 35 (s.τ 0) s.H) s<|.mk fun s=>
 @sOp (some 4) (xMov (.bool false) s.H) s<|.mk fun s=>
 @sMv 8 1 s<|.mk fun s=>
 @sLd 9 9 2 true s<|.mk fun s=>
 @sCall Tryz.prog (s.τ 8) [(s.τ 9)] (some 10) s<|.mk fun s=>
 @sOp (some 11) (xNot (s.τ 10) s.H) s<|.mk fun s=>
 @sIf (s.τ 11) ⟨W151_b1 Φ s⟩ ⟨W151_b14 Φ s⟩
theorem W151_rs (τ:Nat → AV) (H:Heap):resV Tryz.prog τ H [.tmp 4] = some (τ 4):=by kernel_rfl
theorem W151_eq (Φ:EP) (s:St):awp Tryz.prog (Tryz.f151.body.getD .skip) Φ s = W151 Φ s:=by kernel_rfl
theorem W151_S {args:List AV} {r:AV} (hl:args.length ≤ 37) (h:∀ vs,W151 (retK Tryz.prog [.tmp 4] r) ⟨Am.look (argT 0 args),hls [] vs,noG⟩):Am.Spec Tryz.prog 151 args r:=.of_W (W:=W151) Tryz.func151 (by kernel_rfl) (by kernel_rfl) (by kernel_rfl) Tryz.ntmps151 W151_eq (by kernel_rfl) hl h
-- 152 "slices.Index[[]string,string]"
def W152_k1 (Φ:EP) (s:St):Prop:=
 @sOp (some 4) (xMov (.int .i64 (-1)) s.H) s<|.mk fun s=>
 Φ .ret s
def W152_b2 (Φ:EP) (L0:SP) (s:St):Prop:=
 @sMv 17 5 s<|.mk fun s=>
 @sMv 4 17 s<|.mk fun s=>
 Φ .ret s
def W152_b3 (Φ:EP) (L0:SP) (s:St):Prop:=
 @sOp (some 18) (xBin .add false (s.τ 8) (.int .i64 1) s.H) s<|.mk fun s=>
 @sMv 8 18 s<|.mk fun s=>
 L0 s
def W152_b4 (Φ:EP) (L0:SP) (s:St):Prop:=
 @sMv 10 8 s<|.mk fun s=>
 @sMv 5 10 s<|.mk fun s=>
 @sMv 11 1 s<|.mk fun s=>
 @sMv 12 0 s<|.mk fun s=>
 @sMv 13 5 s<|.mk fun s=>
 @sOp (some 14) (xIx 1 (s.τ 12) (s.τ 13) s.H) s<|.mk fun s=>
 @sLd 15 1 14 false s<|.mk fun s=>
 @sOp (some 16) (xBin .eql false (s.τ 11) (s.τ 15) s.H) s<|.mk fun s=>
 @sIf (s.τ 16) ⟨W152_b2 Φ L0 s⟩ ⟨W152_b3 Φ L0 s⟩
def W152_l5 (Φ:EP) (L0:SP) (s:St):Prop:=
 @sOp (some 9) (xBin .lss false (s.τ 8) (s.τ 7) s.H) s<|.mk fun s=>
 @sIf (s.τ 9) ⟨W152_b4 Φ L0 s⟩ ⟨W152_k1 Φ s⟩
def W152 (Φ:EP) (s:St):Prop:=
 @sOp (some 4) (xMov (.int .i64 0) s.H) s<|.mk fun s=>
 @sMv 6 0 s<|.mk fun s=>
 @sOp (some 7) (xLen (s.τ 6) s.H) s<|.mk fun s=>
 @sOp (some 8) (xMov (.int .i64 0) s.H) s<|.mk fun s=>
 @sLoop s ⟨fun L0 s=>W152_l5 Φ L0 s⟩
theorem W152_rs (τ:Nat → AV) (H:Heap):resV Tryz.prog τ H [.tmp 4] = some (τ 4):=by kernel_rfl
theorem W152_eq (Φ:EP) (s:St):awp Tryz.prog (Tryz.f152.body.getD .skip) Φ s = W152 Φ s:=by kernel_rfl
theorem W152_S {args:List AV} {r:AV} (hl:args.length ≤ 19) (h:∀ vs,W152 (retK Tryz.prog [.tmp 4] r) ⟨Am.look (argT 0 args),hls [] vs,noG⟩):Am.Spec Tryz.prog 152 args r:=.of_W (W:=W152) Tryz.func152 (by kernel_rfl) (by kernel_rfl) (by kernel_rfl) Tryz.ntmps152 W152_eq (by kernel_rfl) hl h
end Go.Proofs.YtnngddgaobhkiaaGreat
