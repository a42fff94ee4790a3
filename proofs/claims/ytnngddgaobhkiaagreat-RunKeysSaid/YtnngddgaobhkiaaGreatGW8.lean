import Derived.Test.YtnngddgaobhkiaaGreatGA5
import Derived.Test.YtnngddgaobhkiaaGreatProg
import Derived.KernelRfl
set_option linter.unusedVariables false
set_option maxRecDepth 100000
namespace Go.Proofs.YtnngddgaobhkiaaGreat
open Go Go.Am
-- 7 "penance/penancelaw8.RunKeys"
def W7_b1 (Φ:EP) (s:St):Prop:=
 @sOp (some 4) (xMov (.bool false) s.H) s<|.mk fun s=>
 Φ .ret s
def W7_b2 (Φ:EP) (s:St):Prop:=
 @sOp (some 4) (xMov (.bool true) s.H) s<|.mk fun s=>
 Φ .ret s
def W7_k3 (Φ:EP) (s:St):Prop:=
 @sFl 112 12 6 s<|.mk fun s=>
 @sLd 113 1 112 false s<|.mk fun s=>
 @sMv 114 7 s<|.mk fun s=>
 @sOp (some 115) (xBin .eql false (s.τ 113) (s.τ 114) s.H) s<|.mk fun s=>
 @sMv 4 115 s<|.mk fun s=>
 Φ .ret s
def W7_k4 (Φ:EP) (L0:SP) (s:St):Prop:=
 @sMv 32 8 s<|.mk fun s=>
 @sOp (some 33) (xBin .add false (s.τ 32) (.int .i64 1) s.H) s<|.mk fun s=>
 @sMv 8 33 s<|.mk fun s=>
 L0 s
def W7_b6 (Φ:EP) (L0:SP) (s:St):Prop:=
 @sLd 76 4 5 true s<|.mk fun s=>
 @sLd 77 13 6 true s<|.mk fun s=>
 @sMv 78 9 s<|.mk fun s=>
 @sOp (some 79) (xIx 1 (s.τ 78) (.int .i64 0) s.H) s<|.mk fun s=>
 @sLd 80 1 79 false s<|.mk fun s=>
 @sCall0 Tryz.prog (.func 19 []) [(s.τ 76),(s.τ 77),(s.τ 80),(.int .i64 1)] (some 81) s<|.mk fun s=>
 @sMv 75 81 s<|.mk fun s=>
 @sOp (some 82) (xExt (s.τ 75) 0 s.H) s<|.mk fun s=>
 @sOp (some 83) (xExt (s.τ 75) 1 s.H) s<|.mk fun s=>
 @sOp (some 84) (xExt (s.τ 75) 2 s.H) s<|.mk fun s=>
 @sOp none (xStore 13 (s.τ 6) (s.τ 82) s.H) s<|.mk fun s=>
 W7_k4 Φ L0 s
def W7_b7 (Φ:EP) (L0:SP) (s:St):Prop:=
 @sMv 72 9 s<|.mk fun s=>
 @sOp (some 73) (xLen (s.τ 72) s.H) s<|.mk fun s=>
 @sOp (some 74) (xBin .gtr false (s.τ 73) (.int .i64 0) s.H) s<|.mk fun s=>
 @sIf (s.τ 74) ⟨W7_b6 Φ L0 s⟩ ⟨W7_k4 Φ L0 s⟩
def W7_b8 (Φ:EP) (L0:SP) (s:St):Prop:=
 @sOp (some 4) (xMov (.bool false) s.H) s<|.mk fun s=>
 Φ .ret s
def W7_b9 (Φ:EP) (L0:SP) (s:St):Prop:=
 @sFl 109 12 11 s<|.mk fun s=>
 @sLd 110 1 109 false s<|.mk fun s=>
 @sMv 7 110 s<|.mk fun s=>
 @sLd 111 13 11 true s<|.mk fun s=>
 @sOp none (xStore 13 (s.τ 6) (s.τ 111) s.H) s<|.mk fun s=>
 W7_k4 Φ L0 s
def W7_b29 (Φ:EP) (L0:SP) (s:St):Prop:=
 @sMv 85 13 s<|.mk fun s=>
 @sMv 86 85 s<|.mk fun s=>
 @sGf 87 1 12 86 true s<|.mk fun s=>
 @sGl 88 1 87 86 false true s<|.mk fun s=>
 @sGm 89 7 86 true s<|.mk fun s=>
 @sGo 90 86 true s (fun s=>(xBin .neq false (s.τ 88) (s.τ 89) s.H))<|.mk fun s=>
 @sGm 91 90 86 true s<|.mk fun s=>
 @sGf 92 12 11 91 false s<|.mk fun s=>
 @sGl 93 1 92 91 false false s<|.mk fun s=>
 @sGm 94 7 91 false s<|.mk fun s=>
 @sGo 95 91 false s (fun s=>(xBin .add false (s.τ 94) (.int .i64 1) s.H))<|.mk fun s=>
 @sGo 96 91 false s (fun s=>(xBin .neq false (s.τ 93) (s.τ 95) s.H))<|.mk fun s=>
 @sGo 97 86 true s (fun s=>(xPick (s.τ 91) (.bool true) (s.τ 96) s.H))<|.mk fun s=>
 @sOp (some 98) (xPick (s.τ 86) (s.τ 97) (.bool false) s.H) s<|.mk fun s=>
 @sMv 99 98 s<|.mk fun s=>
 @sGm 100 13 99 false s<|.mk fun s=>
 @sGo 101 99 false s (fun s=>(xNot (s.τ 100) s.H))<|.mk fun s=>
 @sGm 102 101 99 false s<|.mk fun s=>
 @sGf 103 12 11 102 true s<|.mk fun s=>
 @sGl 104 1 103 102 false true s<|.mk fun s=>
 @sGm 105 7 102 true s<|.mk fun s=>
 @sGo 106 102 true s (fun s=>(xBin .neq false (s.τ 104) (s.τ 105) s.H))<|.mk fun s=>
 @sGo 107 99 false s (fun s=>(xPick (s.τ 102) (s.τ 106) (.bool false) s.H))<|.mk fun s=>
 @sOp (some 108) (xPick (s.τ 99) (.bool true) (s.τ 107) s.H) s<|.mk fun s=>
 @sIf (s.τ 108) ⟨W7_b8 Φ L0 s⟩ ⟨W7_b9 Φ L0 s⟩
def W7_k32 (Φ:EP) (L0:SP) (s:St):Prop:=
 @sLd 58 4 5 true s<|.mk fun u1=>
 @sLd 59 13 6 true u1<|.mk fun u2=>
 @sMv 60 1 u2<|.mk fun u3=>
 @sMv 61 8 u3<|.mk fun u4=>
 @sOp (some 62) (xIx 1 (u4.τ 60) (u4.τ 61) u4.H) u4<|.mk fun u5=>
 @sLd 63 1 62 false u5<|.mk fun u6=>
 @sChk (compat (occ (s.τ 5),[]) (cfp 64 18 [(u6.τ 63),(.int .i64 3)])) <| .mk <|
 @sChk (compat (occ (u1.τ 6),[]) (cfp 64 18 [(u6.τ 63),(.int .i64 3)])) <| .mk <|
 @sCall0 Tryz.prog (.func 18 []) [(u6.τ 63),(.int .i64 3)] (some 64) u6<|.mk fun u7=>
 @sCall0 Tryz.prog (.func 21 []) [(u7.τ 58),(u7.τ 59),(u7.τ 64)] (some 65) u7<|.mk fun u8=>
 @sMv 57 65 u8<|.mk fun u9=>
 @sOp (some 66) (xExt (u9.τ 57) 0 u9.H) u9<|.mk fun u10=>
 @sOp (some 67) (xExt (u10.τ 57) 1 u10.H) u10<|.mk fun u11=>
 @sOp (some 68) (xExt (u11.τ 57) 2 u11.H) u11<|.mk fun u12=>
 @sOp (some 69) (xExt (u12.τ 57) 3 u12.H) u12<|.mk fun u13=>
 @sChk (compat (occ (s.τ 5),[]) ([11],[11])) <| .mk <|
 @sChk (compat (occ (u1.τ 6),[]) ([11],[11])) <| .mk <|
 @sChk (compat (occ (u4.τ 60),[]) ([11],[11])) <| .mk <|
 @sChk (compat (occ (u5.τ 62),[]) ([11],[11])) <| .mk <|
 @sChk (compat (cfp 64 18 [(u6.τ 63),(.int .i64 3)]) ([11],[11])) <| .mk <|
 @sChk (compat (cfp 65 21 [(u7.τ 58),(u7.τ 59),(u7.τ 64)]) ([11],[11])) <| .mk <|
 @sOp (some 11) (xAlloc 11 38 [.int .i64 0,.int .i64 0,.int .i64 0,.str ⟨#[]⟩,.int .i64 0,.int .i64 0,.str ⟨#[]⟩,.nils,.nils,.nils,.nils,.int .i64 0,.int .i64 0] u13.H) u13<|.mk fun u14=>
 @sChk (compat (occ (s.τ 5),[]) ([12],[12])) <| .mk <|
 @sChk (compat (occ (u1.τ 6),[]) ([12],[12])) <| .mk <|
 @sChk (compat (occ (u4.τ 60),[]) ([12],[12])) <| .mk <|
 @sChk (compat (occ (u5.τ 62),[]) ([12],[12])) <| .mk <|
 @sChk (compat (cfp 64 18 [(u6.τ 63),(.int .i64 3)]) ([12],[12])) <| .mk <|
 @sChk (compat (cfp 65 21 [(u7.τ 58),(u7.τ 59),(u7.τ 64)]) ([12],[12])) <| .mk <|
 @sChk (compat ([11],[11]) ([12],[12])) <| .mk <|
 @sOp (some 12) (xAlloc 12 44 [.str ⟨#[]⟩,.int .i64 0,.int .i64 0] u14.H) u14<|.mk fun u15=>
 @sOp none (xStore 13 (u15.τ 11) (u15.τ 66) u15.H) u15<|.mk fun u16=>
 @sOp none (xStore 3 (u16.τ 12) (u16.τ 67) u16.H) u16<|.mk fun u17=>
 @sMv 13 68 u17<|.mk fun u18=>
 @sMv 14 69 u18<|.mk fun s=>
 @sMv 70 14 s<|.mk fun s=>
 @sOp (some 71) (xBin .neq false (s.τ 70) (.int .i64 0) s.H) s<|.mk fun s=>
 @sIf (s.τ 71) ⟨W7_b7 Φ L0 s⟩ ⟨W7_b29 Φ L0 s⟩
def W7_b33 (Φ:EP) (L0:SP) (L1:SP) (s:St):Prop:=
 @sOp (some 4) (xMov (.bool false) s.H) s<|.mk fun s=>
 Φ .ret s
def W7_b34 (Φ:EP) (L0:SP) (L1:SP) (s:St):Prop:=
 @sMv 41 10 s<|.mk fun s=>
 @sOp (some 42) (xBin .add false (s.τ 41) (.int .i64 1) s.H) s<|.mk fun s=>
 @sMv 10 42 s<|.mk fun s=>
 L1 s
def W7_b42 (Φ:EP) (L0:SP) (L1:SP) (s:St):Prop:=
 @sMv 43 9 s<|.mk fun s=>
 @sMv 44 10 s<|.mk fun s=>
 @sOp (some 45) (xIx 1 (s.τ 43) (s.τ 44) s.H) s<|.mk fun s=>
 @sLd 46 1 45 false s<|.mk fun s=>
 @sOp (some 47) (xBin .lss false (s.τ 46) (.int .i64 0) s.H) s<|.mk fun s=>
 @sMv 48 47 s<|.mk fun s=>
 @sGm 49 9 48 false s<|.mk fun s=>
 @sGm 50 10 48 false s<|.mk fun s=>
 @sGo 51 48 false s (fun s=>(xIx 1 (s.τ 49) (s.τ 50) s.H))<|.mk fun s=>
 @sGl 52 1 51 48 false false s<|.mk fun s=>
 @sGf 53 12 6 48 false s<|.mk fun s=>
 @sGl 54 1 53 48 false false s<|.mk fun s=>
 @sGo 55 48 false s (fun s=>(xBin .geq false (s.τ 52) (s.τ 54) s.H))<|.mk fun s=>
 @sOp (some 56) (xPick (s.τ 48) (.bool true) (s.τ 55) s.H) s<|.mk fun s=>
 @sIf (s.τ 56) ⟨W7_b33 Φ L0 L1 s⟩ ⟨W7_b34 Φ L0 L1 s⟩
def W7_l43 (Φ:EP) (L0:SP) (L1:SP) (s:St):Prop:=
 @sMv 37 10 s<|.mk fun s=>
 @sMv 38 9 s<|.mk fun s=>
 @sOp (some 39) (xLen (s.τ 38) s.H) s<|.mk fun s=>
 @sOp (some 40) (xBin .lss false (s.τ 37) (s.τ 39) s.H) s<|.mk fun s=>
 @sIf (s.τ 40) ⟨W7_b42 Φ L0 L1 s⟩ ⟨W7_k32 Φ L0 s⟩
def W7_b45 (Φ:EP) (L0:SP) (s:St):Prop:=
 @sFl 34 0 6 s<|.mk fun s=>
 @sLd 35 9 34 true s<|.mk fun s=>
 @sCall Tryz.prog (.func 26 []) [(s.τ 35)] (some 36) s<|.mk fun s=>
 @sMv 9 36 s<|.mk fun s=>
 @sOp (some 10) (xMov (.int .i64 0) s.H) s<|.mk fun s=>
 @sLoop s ⟨fun L1 s=>W7_l43 Φ L0 L1 s⟩
def W7_l48 (Φ:EP) (L0:SP) (s:St):Prop:=
 @sMv 24 8 s<|.mk fun s=>
 @sMv 25 1 s<|.mk fun s=>
 @sOp (some 26) (xLen (s.τ 25) s.H) s<|.mk fun s=>
 @sOp (some 27) (xBin .lss false (s.τ 24) (s.τ 26) s.H) s<|.mk fun s=>
 @sMv 28 27 s<|.mk fun s=>
 @sGm 29 8 28 true s<|.mk fun s=>
 @sGo 30 28 true s (fun s=>(xBin .lss false (s.τ 29) (.int .i64 40) s.H))<|.mk fun s=>
 @sOp (some 31) (xPick (s.τ 28) (s.τ 30) (.bool false) s.H) s<|.mk fun s=>
 @sIf (s.τ 31) ⟨W7_b45 Φ L0 s⟩ ⟨W7_k3 Φ s⟩
def W7_b51 (Φ:EP) (s:St):Prop:=
 @sLd 20 3 2 true s<|.mk fun s=>
 @sCall Tryz.prog (.func 13 []) [(s.τ 20)] (some 21) s<|.mk fun s=>
 @sOp (some 5) (xAlloc 5 29 [.nils,.int .i64 0,.nils,.int .i64 0] s.H) s<|.mk fun s=>
 @sOp none (xStore 4 (s.τ 5) (s.τ 21) s.H) s<|.mk fun s=>
 @sLd 22 4 5 true s<|.mk fun s=>
 @sCall Tryz.prog (.func 14 []) [(s.τ 22)] (some 23) s<|.mk fun s=>
 @sOp (some 6) (xAlloc 6 38 [.int .i64 0,.int .i64 0,.int .i64 0,.str ⟨#[]⟩,.int .i64 0,.int .i64 0,.str ⟨#[]⟩,.nils,.nils,.nils,.nils,.int .i64 0,.int .i64 0] s.H) s<|.mk fun s=>
 @sOp none (xStore 13 (s.τ 6) (s.τ 23) s.H) s<|.mk fun s=>
 @sOp (some 7) (xMov (.int .i64 0) s.H) s<|.mk fun s=>
 @sOp (some 8) (xMov (.int .i64 0) s.H) s<|.mk fun s=>
 @sLoop s ⟨fun L0 s=>W7_l48 Φ L0 s⟩
def W7_b53 (Φ:EP) (s:St):Prop:=
 @sLd 17 3 2 true s<|.mk fun s=>
 @sCall Tryz.prog (.func 12 []) [(s.τ 17)] (some 18) s<|.mk fun s=>
 @sOp (some 19) (xNot (s.τ 18) s.H) s<|.mk fun s=>
 @sIf (s.τ 19) ⟨W7_b2 Φ s⟩ ⟨W7_b51 Φ s⟩
def W7 (Φ:EP) (s:St):Prop:=
 @sOp (some 2) (xBox 2 24 (s.τ 0) s.H) s<|.mk fun s=>
 @sOp (some 4) (xMov (.bool false) s.H) s<|.mk fun s=>
 @sCall Tryz.prog (.func 11 []) [] (some 15) s<|.mk fun s=>
 @sOp (some 16) (xNot (s.τ 15) s.H) s<|.mk fun s=>
 @sIf (s.τ 16) ⟨W7_b1 Φ s⟩ ⟨W7_b53 Φ s⟩
theorem W7_rs (τ:Nat → AV) (H:Heap):resV Tryz.prog τ H [.tmp 4] = some (τ 4):=by kernel_rfl
theorem W7_eq (Φ:EP) (s:St):awp Tryz.prog (Tryz.f7.body.getD .skip) Φ s = W7 Φ s:=by kernel_rfl
theorem W7_S {args:List AV} {r:AV} (hl:args.length ≤ 116) (h:∀ vs,W7 (retK Tryz.prog [.tmp 4] r) ⟨Am.look (argT 0 args),hls [] vs,noG⟩):Am.Spec Tryz.prog 7 args r:=.of_W (W:=W7) Tryz.func7 (by kernel_rfl) (by kernel_rfl) (by kernel_rfl) Tryz.ntmps7 W7_eq (by kernel_rfl) hl h
end Go.Proofs.YtnngddgaobhkiaaGreat
set_option linter.unusedVariables false
set_option maxRecDepth 100000
namespace Go.Proofs.YtnngddgaobhkiaaGreat
open Go Go.Am
-- 11 "penance/penancelaw8.known"
def W11 (Φ:EP) (s:St):Prop:=
 @sOp (some 0) (xMov (.bool false) s.H) s<|.mk fun s=>
 @sOp (some 14) (xBuild [.int .i64 0,.int .i64 0,.int .i64 0,.str ⟨#[]⟩,.int .i64 0,.int .i64 0,.str ⟨#[]⟩,.nils,.nils] [(0,1,(.int .i64 1)),(1,1,(.int .i64 (-1))),(3,1,(.str ⟨#[112,97,121]⟩))] s.H) s<|.mk fun s=>
 @sOp (some 15) (xLit 9 1 [.int .i64 0,.int .i64 0,.int .i64 0,.str ⟨#[]⟩,.int .i64 0,.int .i64 0,.str ⟨#[]⟩,.nils,.nils] [(0,(s.τ 14))] s.H) s<|.mk fun s=>
 @sOp (some 16) (xBuild [.nils,.int .i64 0,.nils,.int .i64 0] [(2,1,(s.τ 15))] s.H) s<|.mk fun s=>
 @sOp (some 1) (xAlloc 1 29 [.nils,.int .i64 0,.nils,.int .i64 0] s.H) s<|.mk fun s=>
 @sOp none (xStore 4 (s.τ 1) (s.τ 16) s.H) s<|.mk fun s=>
 @sLd 17 4 1 true s<|.mk fun s=>
 @sCall Tryz.prog (.func 14 []) [(s.τ 17)] (some 18) s<|.mk fun s=>
 @sOp (some 2) (xAlloc 2 38 [.int .i64 0,.int .i64 0,.int .i64 0,.str ⟨#[]⟩,.int .i64 0,.int .i64 0,.str ⟨#[]⟩,.nils,.nils,.nils,.nils,.int .i64 0,.int .i64 0] s.H) s<|.mk fun s=>
 @sOp none (xStore 13 (s.τ 2) (s.τ 18) s.H) s<|.mk fun s=>
 @sLd 20 4 1 true s<|.mk fun s=>
 @sLd 21 13 2 true s<|.mk fun s=>
 @sCall Tryz.prog (.func 21 []) [(s.τ 20),(s.τ 21),(.int .i64 0)] (some 22) s<|.mk fun s=>
 @sMv 19 22 s<|.mk fun s=>
 @sOp (some 23) (xExt (s.τ 19) 0 s.H) s<|.mk fun s=>
 @sOp (some 24) (xExt (s.τ 19) 1 s.H) s<|.mk fun s=>
 @sOp (some 25) (xExt (s.τ 19) 2 s.H) s<|.mk fun s=>
 @sOp (some 26) (xExt (s.τ 19) 3 s.H) s<|.mk fun s=>
 @sOp (some 3) (xAlloc 3 38 [.int .i64 0,.int .i64 0,.int .i64 0,.str ⟨#[]⟩,.int .i64 0,.int .i64 0,.str ⟨#[]⟩,.nils,.nils,.nils,.nils,.int .i64 0,.int .i64 0] s.H) s<|.mk fun s=>
 @sOp (some 4) (xAlloc 4 44 [.str ⟨#[]⟩,.int .i64 0,.int .i64 0] s.H) s<|.mk fun s=>
 @sOp none (xStore 13 (s.τ 3) (s.τ 23) s.H) s<|.mk fun s=>
 @sOp none (xStore 3 (s.τ 4) (s.τ 24) s.H) s<|.mk fun s=>
 @sMv 5 25 s<|.mk fun s=>
 @sMv 6 26 s<|.mk fun s=>
 @sLd 28 4 1 true s<|.mk fun s=>
 @sLd 29 13 2 true s<|.mk fun s=>
 @sCall Tryz.prog (.func 21 []) [(s.τ 28),(s.τ 29),(.int .i64 1)] (some 30) s<|.mk fun s=>
 @sMv 27 30 s<|.mk fun s=>
 @sOp (some 31) (xExt (s.τ 27) 0 s.H) s<|.mk fun s=>
 @sOp (some 32) (xExt (s.τ 27) 1 s.H) s<|.mk fun s=>
 @sOp (some 33) (xExt (s.τ 27) 2 s.H) s<|.mk fun s=>
 @sOp (some 34) (xExt (s.τ 27) 3 s.H) s<|.mk fun s=>
 @sOp (some 7) (xAlloc 7 38 [.int .i64 0,.int .i64 0,.int .i64 0,.str ⟨#[]⟩,.int .i64 0,.int .i64 0,.str ⟨#[]⟩,.nils,.nils,.nils,.nils,.int .i64 0,.int .i64 0] s.H) s<|.mk fun s=>
 @sOp (some 8) (xAlloc 8 44 [.str ⟨#[]⟩,.int .i64 0,.int .i64 0] s.H) s<|.mk fun s=>
 @sOp none (xStore 13 (s.τ 7) (s.τ 31) s.H) s<|.mk fun s=>
 @sOp none (xStore 3 (s.τ 8) (s.τ 32) s.H) s<|.mk fun s=>
 @sMv 9 33 s<|.mk fun s=>
 @sMv 10 34 s<|.mk fun s=>
 @sLd 36 4 1 true s<|.mk fun s=>
 @sLd 37 13 3 true s<|.mk fun s=>
 @sCall Tryz.prog (.func 19 []) [(s.τ 36),(s.τ 37),(.int .i64 0),(.int .i64 7)] (some 38) s<|.mk fun s=>
 @sMv 35 38 s<|.mk fun s=>
 @sOp (some 39) (xExt (s.τ 35) 0 s.H) s<|.mk fun s=>
 @sOp (some 40) (xExt (s.τ 35) 1 s.H) s<|.mk fun s=>
 @sOp (some 41) (xExt (s.τ 35) 2 s.H) s<|.mk fun s=>
 @sOp (some 11) (xAlloc 11 38 [.int .i64 0,.int .i64 0,.int .i64 0,.str ⟨#[]⟩,.int .i64 0,.int .i64 0,.str ⟨#[]⟩,.nils,.nils,.nils,.nils,.int .i64 0,.int .i64 0] s.H) s<|.mk fun s=>
 @sOp (some 12) (xAlloc 12 44 [.str ⟨#[]⟩,.int .i64 0,.int .i64 0] s.H) s<|.mk fun s=>
 @sOp none (xStore 13 (s.τ 11) (s.τ 39) s.H) s<|.mk fun s=>
 @sOp none (xStore 3 (s.τ 12) (s.τ 40) s.H) s<|.mk fun s=>
 @sMv 13 41 s<|.mk fun s=>
 @sLd 42 4 1 true s<|.mk fun s=>
 @sCall Tryz.prog (.func 17 []) [(s.τ 42)] (some 43) s<|.mk fun s=>
 @sMv 44 43 s<|.mk fun s=>
 @sGm 45 6 44 true s<|.mk fun s=>
 @sGo 46 44 true s (fun s=>(xBin .eql false (s.τ 45) (.int .i64 0) s.H))<|.mk fun s=>
 @sOp (some 47) (xPick (s.τ 44) (s.τ 46) (.bool false) s.H) s<|.mk fun s=>
 @sMv 48 47 s<|.mk fun s=>
 @sGm 49 5 48 true s<|.mk fun s=>
 @sOp (some 50) (xPick (s.τ 48) (s.τ 49) (.bool false) s.H) s<|.mk fun s=>
 @sMv 51 50 s<|.mk fun s=>
 @sGf 52 0 4 51 true s<|.mk fun s=>
 @sGl 53 1 52 51 false true s<|.mk fun s=>
 @sGo 54 51 true s (fun s=>(xBin .eql false (s.τ 53) (.str ⟨#[112,97,121]⟩) s.H))<|.mk fun s=>
 @sOp (some 55) (xPick (s.τ 51) (s.τ 54) (.bool false) s.H) s<|.mk fun s=>
 @sMv 56 55 s<|.mk fun s=>
 @sGf 57 12 3 56 true s<|.mk fun s=>
 @sGl 58 1 57 56 false true s<|.mk fun s=>
 @sGo 59 56 true s (fun s=>(xBin .eql false (s.τ 58) (.int .i64 1) s.H))<|.mk fun s=>
 @sOp (some 60) (xPick (s.τ 56) (s.τ 59) (.bool false) s.H) s<|.mk fun s=>
 @sMv 61 60 s<|.mk fun s=>
 @sGm 62 10 61 true s<|.mk fun s=>
 @sGo 63 61 true s (fun s=>(xBin .eql false (s.τ 62) (.int .i64 12) s.H))<|.mk fun s=>
 @sOp (some 64) (xPick (s.τ 61) (s.τ 63) (.bool false) s.H) s<|.mk fun s=>
 @sMv 65 64 s<|.mk fun s=>
 @sGm 66 13 65 true s<|.mk fun s=>
 @sOp (some 67) (xPick (s.τ 65) (s.τ 66) (.bool false) s.H) s<|.mk fun s=>
 @sMv 68 67 s<|.mk fun s=>
 @sGf 69 2 12 68 true s<|.mk fun s=>
 @sGl 70 1 69 68 false true s<|.mk fun s=>
 @sGo 71 68 true s (fun s=>(xBin .eql false (s.τ 70) (.int .i64 7) s.H))<|.mk fun s=>
 @sOp (some 72) (xPick (s.τ 68) (s.τ 71) (.bool false) s.H) s<|.mk fun s=>
 @sMv 73 72 s<|.mk fun s=>
 @sGf 74 0 11 73 true s<|.mk fun s=>
 @sGf 75 0 74 73 true s<|.mk fun s=>
 @sGl 76 1 75 73 false true s<|.mk fun s=>
 @sGo 77 73 true s (fun s=>(xBin .eql false (s.τ 76) (.int .i64 0) s.H))<|.mk fun s=>
 @sOp (some 78) (xPick (s.τ 73) (s.τ 77) (.bool false) s.H) s<|.mk fun s=>
 @sMv 0 78 s<|.mk fun s=>
 Φ .ret s
theorem W11_rs (τ:Nat → AV) (H:Heap):resV Tryz.prog τ H [.tmp 0] = some (τ 0):=by kernel_rfl
theorem W11_eq (Φ:EP) (s:St):awp Tryz.prog (Tryz.f11.body.getD .skip) Φ s = W11 Φ s:=by kernel_rfl
theorem W11_S {args:List AV} {r:AV} (hl:args.length ≤ 79) (h:∀ vs,W11 (retK Tryz.prog [.tmp 0] r) ⟨Am.look (argT 0 args),hls [] vs,noG⟩):Am.Spec Tryz.prog 11 args r:=.of_W (W:=W11) Tryz.func11 (by kernel_rfl) (by kernel_rfl) (by kernel_rfl) Tryz.ntmps11 W11_eq (by kernel_rfl) hl h
-- 12 "(penance/penancelaw3.Shape).Few"
def W12_k3 (Φ:EP) (s:St):Prop:=
 @sFl 20 2 1 s<|.mk fun s=>
 @sLd 21 1 20 false s<|.mk fun s=>
 @sOp (some 22) (xLen (s.τ 21) s.H) s<|.mk fun s=>
 @sOp (some 23) (xBin .leq false (s.τ 22) (.int .i64 5) s.H) s<|.mk fun s=>
 @sMv 24 23 s<|.mk fun s=>
 @sGm 25 3 24 true s<|.mk fun s=>
 @sGo 26 24 true s (fun s=>(xBin .leq false (s.τ 25) (.int .i64 40) s.H))<|.mk fun s=>
 @sOp (some 27) (xPick (s.τ 24) (s.τ 26) (.bool false) s.H) s<|.mk fun s=>
 @sMv 2 27 s<|.mk fun s=>
 Φ .ret s
def W12_b5 (Φ:EP) (L0:SP) (s:St):Prop:=
 @sMv 12 3 s<|.mk fun s=>
 @sFl 13 2 1 s<|.mk fun s=>
 @sLd 14 1 13 false s<|.mk fun s=>
 @sMv 15 4 s<|.mk fun s=>
 @sOp (some 16) (xIx 5 (s.τ 14) (s.τ 15) s.H) s<|.mk fun s=>
 @sLd 17 5 16 true s<|.mk fun s=>
 @sCall Tryz.prog (.func 29 []) [(s.τ 17),(.int .i64 0)] (some 18) s<|.mk fun s=>
 @sOp (some 19) (xBin .add false (s.τ 12) (s.τ 18) s.H) s<|.mk fun s=>
 @sMv 3 19 s<|.mk fun s=>
 @sMv 10 4 s<|.mk fun s=>
 @sOp (some 11) (xBin .add false (s.τ 10) (.int .i64 1) s.H) s<|.mk fun s=>
 @sMv 4 11 s<|.mk fun s=>
 L0 s
def W12_l6 (Φ:EP) (L0:SP) (s:St):Prop:=
 @sMv 5 4 s<|.mk fun s=>
 @sFl 6 2 1 s<|.mk fun s=>
 @sLd 7 1 6 false s<|.mk fun s=>
 @sOp (some 8) (xLen (s.τ 7) s.H) s<|.mk fun s=>
 @sOp (some 9) (xBin .lss false (s.τ 5) (s.τ 8) s.H) s<|.mk fun s=>
 @sIf (s.τ 9) ⟨W12_b5 Φ L0 s⟩ ⟨W12_k3 Φ s⟩
def W12 (Φ:EP) (s:St):Prop:=
 @sOp (some 1) (xBox 1 24 (s.τ 0) s.H) s<|.mk fun s=>
 @sOp (some 2) (xMov (.bool false) s.H) s<|.mk fun s=>
 @sOp (some 3) (xMov (.int .i64 0) s.H) s<|.mk fun s=>
 @sOp (some 4) (xMov (.int .i64 0) s.H) s<|.mk fun s=>
 @sLoop s ⟨fun L0 s=>W12_l6 Φ L0 s⟩
theorem W12_rs (τ:Nat → AV) (H:Heap):resV Tryz.prog τ H [.tmp 2] = some (τ 2):=by kernel_rfl
theorem W12_eq (Φ:EP) (s:St):awp Tryz.prog (Tryz.f12.body.getD .skip) Φ s = W12 Φ s:=by kernel_rfl
theorem W12_S {args:List AV} {r:AV} (hl:args.length ≤ 28) (h:∀ vs,W12 (retK Tryz.prog [.tmp 2] r) ⟨Am.look (argT 0 args),hls [] vs,noG⟩):Am.Spec Tryz.prog 12 args r:=.of_W (W:=W12) Tryz.func12 (by kernel_rfl) (by kernel_rfl) (by kernel_rfl) Tryz.ntmps12 W12_eq (by kernel_rfl) hl h
-- 13 "penance/penancelaw8.Core"
def W13_b1 (Φ:EP) (s:St):Prop:=
 @sOp (some 45) (xLit 1 3 [.int .i64 0] [(0,(.int .i64 0)),(1,(.int .i64 0)),(2,(.int .i64 0))] s.H) s<|.mk fun s=>
 @sOp (some 46) (xBuild [.int .i64 0,.int .i64 0,.int .i64 0,.str ⟨#[]⟩,.int .i64 0,.int .i64 0,.str ⟨#[]⟩,.nils,.nils] [(0,1,(.int .i64 1)),(1,1,(.int .i64 0)),(3,1,(.str ⟨#[112,97,121]⟩))] s.H) s<|.mk fun s=>
 @sOp (some 47) (xLit 9 1 [.int .i64 0,.int .i64 0,.int .i64 0,.str ⟨#[]⟩,.int .i64 0,.int .i64 0,.str ⟨#[]⟩,.nils,.nils] [(0,(s.τ 46))] s.H) s<|.mk fun s=>
 @sOp (some 48) (xBuild [.nils,.int .i64 0,.nils,.int .i64 0] [(0,1,(s.τ 45)),(1,1,(.int .i64 2)),(2,1,(s.τ 47))] s.H) s<|.mk fun s=>
 @sOp none (xStore 4 (s.τ 2) (s.τ 48) s.H) s<|.mk fun s=>
 Φ .ret s
def W13_b2 (Φ:EP) (s:St):Prop:=
 @sLd 49 4 3 true s<|.mk fun s=>
 @sOp none (xStore 4 (s.τ 2) (s.τ 49) s.H) s<|.mk fun s=>
 Φ .ret s
def W13_k3 (Φ:EP) (s:St):Prop:=
 @sMv 43 4 s<|.mk fun s=>
 @sOp (some 44) (xBin .neq false (s.τ 43) (.int .i64 0) s.H) s<|.mk fun s=>
 @sIf (s.τ 44) ⟨W13_b1 Φ s⟩ ⟨W13_b2 Φ s⟩
def W13_k5 (Φ:EP) (s:St):Prop:=
 @sLd 39 3 5 true s<|.mk fun s=>
 @sCall Tryz.prog (.func 30 []) [(s.τ 39)] (some 40) s<|.mk fun s=>
 @sMv 38 40 s<|.mk fun s=>
 @sOp (some 41) (xExt (s.τ 38) 0 s.H) s<|.mk fun s=>
 @sOp (some 42) (xExt (s.τ 38) 1 s.H) s<|.mk fun s=>
 @sOp none (xStore 4 (s.τ 3) (s.τ 41) s.H) s<|.mk fun s=>
 @sMv 4 42 s<|.mk fun s=>
 W13_k3 Φ s
def W13_b6 (Φ:EP) (L0:SP) (s:St):Prop:=
 @sFl 24 2 5 s<|.mk fun u1=>
 @sLd 25 1 24 false u1<|.mk fun u2=>
 @sMv 26 6 u2<|.mk fun u3=>
 @sOp (some 27) (xBuild [.int .i64 0,.str ⟨#[]⟩,.str ⟨#[]⟩,.int .i64 0,.int .i64 0,.str ⟨#[]⟩,.nils,.nils] [(0,1,(.int .i64 1)),(1,1,(.str ⟨#[112,97,121]⟩)),(2,1,(.str ⟨#[120]⟩))] u3.H) u3<|.mk fun u4=>
 @sFl 28 2 5 u4<|.mk fun u5=>
 @sLd 29 1 28 false u5<|.mk fun u6=>
 @sMv 30 6 u6<|.mk fun u7=>
 @sOp (some 31) (xIx 9 (u7.τ 29) (u7.τ 30) u7.H) u7<|.mk fun u8=>
 @sFl 32 1 31 u8<|.mk fun u9=>
 @sLd 33 8 32 true u9<|.mk fun u10=>
 @sChk (compat (occ (s.τ 5),[]) ([34] ++ occL [(u10.τ 27),(u10.τ 33)],[34] ++ occL [(u10.τ 27),(u10.τ 33)])) <| .mk <|
 @sChk (compat (occ (u1.τ 24),[]) ([34] ++ occL [(u10.τ 27),(u10.τ 33)],[34] ++ occL [(u10.τ 27),(u10.τ 33)])) <| .mk <|
 @sOp (some 34) (xLit 8 2 [.int .i64 0,.str ⟨#[]⟩,.str ⟨#[]⟩,.int .i64 0,.int .i64 0,.str ⟨#[]⟩,.nils,.nils] [(0,(u10.τ 27)),(1,(u10.τ 33))] u10.H) u10<|.mk fun u11=>
 @sOp (some 35) (xBuild [.int .i64 0,.str ⟨#[]⟩,.str ⟨#[]⟩,.int .i64 0,.int .i64 0,.str ⟨#[]⟩,.nils,.nils] [(0,1,(.int .i64 12)),(7,1,(u11.τ 34))] u11.H) u11<|.mk fun u12=>
 @sOp (some 36) (xIx 9 (u12.τ 25) (u12.τ 26) u12.H) u12<|.mk fun u13=>
 @sFl 37 1 36 u13<|.mk fun u14=>
 @sOp none (xStore 8 (u14.τ 37) (u14.τ 35) u14.H) u14<|.mk fun s=>
 @sMv 22 6 s<|.mk fun s=>
 @sOp (some 23) (xBin .add false (s.τ 22) (.int .i64 1) s.H) s<|.mk fun s=>
 @sMv 6 23 s<|.mk fun s=>
 L0 s
def W13_l7 (Φ:EP) (L0:SP) (s:St):Prop:=
 @sMv 17 6 s<|.mk fun s=>
 @sFl 18 2 5 s<|.mk fun s=>
 @sLd 19 1 18 false s<|.mk fun s=>
 @sOp (some 20) (xLen (s.τ 19) s.H) s<|.mk fun s=>
 @sOp (some 21) (xBin .lss false (s.τ 17) (s.τ 20) s.H) s<|.mk fun s=>
 @sIf (s.τ 21) ⟨W13_b6 Φ L0 s⟩ ⟨W13_k5 Φ s⟩
def W13_b9 (Φ:EP) (s:St):Prop:=
 @sLd 15 3 1 true s<|.mk fun s=>
 @sCall Tryz.prog (.func 31 []) [(s.τ 15)] (some 16) s<|.mk fun s=>
 @sOp (some 5) (xAlloc 5 76 [.nils,.nils,.nils] s.H) s<|.mk fun s=>
 @sOp none (xStore 3 (s.τ 5) (s.τ 16) s.H) s<|.mk fun s=>
 @sOp (some 6) (xMov (.int .i64 0) s.H) s<|.mk fun s=>
 @sLoop s ⟨fun L0 s=>W13_l7 Φ L0 s⟩
def W13 (Φ:EP) (s:St):Prop:=
 @sOp (some 1) (xBox 1 24 (s.τ 0) s.H) s<|.mk fun s=>
 @sOp (some 2) (xAlloc 2 29 [.nils,.int .i64 0,.nils,.int .i64 0] s.H) s<|.mk fun s=>
 @sLd 8 3 1 true s<|.mk fun s=>
 @sCall Tryz.prog (.func 31 []) [(s.τ 8)] (some 9) s<|.mk fun s=>
 @sCall Tryz.prog (.func 30 []) [(s.τ 9)] (some 10) s<|.mk fun s=>
 @sMv 7 10 s<|.mk fun s=>
 @sOp (some 11) (xExt (s.τ 7) 0 s.H) s<|.mk fun s=>
 @sOp (some 12) (xExt (s.τ 7) 1 s.H) s<|.mk fun s=>
 @sOp (some 3) (xAlloc 3 29 [.nils,.int .i64 0,.nils,.int .i64 0] s.H) s<|.mk fun s=>
 @sOp none (xStore 4 (s.τ 3) (s.τ 11) s.H) s<|.mk fun s=>
 @sMv 4 12 s<|.mk fun s=>
 @sMv 13 4 s<|.mk fun s=>
 @sOp (some 14) (xBin .neq false (s.τ 13) (.int .i64 0) s.H) s<|.mk fun s=>
 @sIf (s.τ 14) ⟨W13_b9 Φ s⟩ ⟨W13_k3 Φ s⟩
theorem W13_rs (τ:Nat → AV) (H:Heap):resV Tryz.prog τ H [.cell 2 29] = rdV H 4 true (τ 2):=by kernel_rfl
theorem W13_eq (Φ:EP) (s:St):awp Tryz.prog (Tryz.f13.body.getD .skip) Φ s = W13 Φ s:=by kernel_rfl
theorem W13_S {args:List AV} {r:AV} (hl:args.length ≤ 50) (h:∀ vs,W13 (retK Tryz.prog [.cell 2 29] r) ⟨Am.look (argT 0 args),hls [] vs,noG⟩):Am.Spec Tryz.prog 13 args r:=.of_W (W:=W13) Tryz.func13 (by kernel_rfl) (by kernel_rfl) (by kernel_rfl) Tryz.ntmps13 W13_eq (by kernel_rfl) hl h
-- 14 "penance/run.Begin"
def W14 (Φ:EP) (s:St):Prop:=
 @sOp (some 1) (xBox 1 29 (s.τ 0) s.H) s<|.mk fun s=>
 @sOp (some 2) (xAlloc 2 38 [.int .i64 0,.int .i64 0,.int .i64 0,.str ⟨#[]⟩,.int .i64 0,.int .i64 0,.str ⟨#[]⟩,.nils,.nils,.nils,.nils,.int .i64 0,.int .i64 0] s.H) s<|.mk fun s=>
 @sFl 3 2 1 s<|.mk fun u1=>
 @sLd 4 1 3 false u1<|.mk fun u2=>
 @sFl 5 3 1 u2<|.mk fun u3=>
 @sLd 6 1 5 false u3<|.mk fun u4=>
 @sOp (some 7) (xIx 9 (u4.τ 4) (u4.τ 6) u4.H) u4<|.mk fun u5=>
 @sLd 8 9 7 true u5<|.mk fun u6=>
 @sCall0 Tryz.prog (.func 32 []) [(u6.τ 8)] (some 9) u6<|.mk fun u7=>
 @sChk (compat (cfp 9 32 [(u6.τ 8)]) (occ (u7.τ 1),[])) <| .mk <|
 @sFl 10 0 1 u7<|.mk fun u8=>
 @sChk (compat (cfp 9 32 [(u6.τ 8)]) (occ (u8.τ 10),[])) <| .mk <|
 @sLd 11 1 10 false u8<|.mk fun u9=>
 @sCall0 Tryz.prog (.func 33 []) [(u9.τ 11)] (some 12) u9<|.mk fun u10=>
 @sChk (compat (cfp 9 32 [(u6.τ 8)]) (occ (u10.τ 1),[])) <| .mk <|
 @sChk (compat (cfp 12 33 [(u9.τ 11)]) (occ (u10.τ 1),[])) <| .mk <|
 @sFl 13 1 1 u10<|.mk fun u11=>
 @sChk (compat (cfp 9 32 [(u6.τ 8)]) (occ (u11.τ 13),[])) <| .mk <|
 @sChk (compat (cfp 12 33 [(u9.τ 11)]) (occ (u11.τ 13),[])) <| .mk <|
 @sLd 14 1 13 false u11<|.mk fun u12=>
 @sChk (compat (occ (s.τ 1),[]) ([15],[15])) <| .mk <|
 @sChk (compat (occ (u1.τ 3),[]) ([15],[15])) <| .mk <|
 @sChk (compat (occ (u2.τ 1),[]) ([15],[15])) <| .mk <|
 @sChk (compat (occ (u3.τ 5),[]) ([15],[15])) <| .mk <|
 @sChk (compat (occ (u4.τ 4),[]) ([15],[15])) <| .mk <|
 @sChk (compat (occ (u5.τ 7),[]) ([15],[15])) <| .mk <|
 @sChk (compat (cfp 9 32 [(u6.τ 8)]) ([15],[15])) <| .mk <|
 @sChk (compat (occ (u7.τ 1),[]) ([15],[15])) <| .mk <|
 @sChk (compat (occ (u8.τ 10),[]) ([15],[15])) <| .mk <|
 @sChk (compat (cfp 12 33 [(u9.τ 11)]) ([15],[15])) <| .mk <|
 @sOp (some 15) (xMks 15 27 1 24 [.nils] (u12.τ 14) (u12.τ 14) u12.H) u12<|.mk fun u13=>
 @sCall0 Tryz.prog (.func 34 []) [(u13.τ 15),(.int .i64 0),(.int .i64 0)] (some 16) u13<|.mk fun u14=>
 @sOp (some 17) (xBuild [.int .i64 0,.int .i64 0,.int .i64 0,.str ⟨#[]⟩,.int .i64 0,.int .i64 0,.str ⟨#[]⟩,.nils,.nils,.nils,.nils,.int .i64 0,.int .i64 0] [(0,9,(u14.τ 9)),(9,1,(u14.τ 12)),(10,1,(u14.τ 16))] u14.H) u14<|.mk fun u15=>
 @sOp none (xStore 13 (u15.τ 2) (u15.τ 17) u15.H) u15<|.mk fun s=>
 Φ .ret s
theorem W14_rs (τ:Nat → AV) (H:Heap):resV Tryz.prog τ H [.cell 2 38] = rdV H 13 true (τ 2):=by kernel_rfl
theorem W14_eq (Φ:EP) (s:St):awp Tryz.prog (Tryz.f14.body.getD .skip) Φ s = W14 Φ s:=by kernel_rfl
theorem W14_S {args:List AV} {r:AV} (hl:args.length ≤ 18) (h:∀ vs,W14 (retK Tryz.prog [.cell 2 38] r) ⟨Am.look (argT 0 args),hls [] vs,noG⟩):Am.Spec Tryz.prog 14 args r:=.of_W (W:=W14) Tryz.func14 (by kernel_rfl) (by kernel_rfl) (by kernel_rfl) Tryz.ntmps14 W14_eq (by kernel_rfl) hl h
end Go.Proofs.YtnngddgaobhkiaaGreat
set_option linter.unusedVariables false
set_option maxRecDepth 100000
namespace Go.Proofs.YtnngddgaobhkiaaGreat
open Go Go.Am
-- 17 "penance/run.Check"
def W17_b1 (Φ:EP) (s:St):Prop:=
 @sOp (some 2) (xMov (.bool false) s.H) s<|.mk fun s=>
 Φ .ret s
def W17_k2 (Φ:EP) (s:St):Prop:=
 @sOp (some 2) (xMov (.bool true) s.H) s<|.mk fun s=>
 Φ .ret s
def W17_b3 (Φ:EP) (L0:SP) (s:St):Prop:=
 @sOp (some 2) (xMov (.bool false) s.H) s<|.mk fun s=>
 Φ .ret s
def W17_b4 (Φ:EP) (L0:SP) (s:St):Prop:=
 @sOp (some 71) (xBin .add false (s.τ 47) (.int .i64 1) s.H) s<|.mk fun s=>
 @sMv 47 71 s<|.mk fun s=>
 L0 s
def W17_b19 (Φ:EP) (L0:SP) (s:St):Prop:=
 @sOp (some 49) (xIx 9 (s.τ 45) (s.τ 47) s.H) s<|.mk fun s=>
 @sLd 50 9 49 true s<|.mk fun s=>
 @sOp (some 4) (xAlloc 4 35 [.int .i64 0,.int .i64 0,.int .i64 0,.str ⟨#[]⟩,.int .i64 0,.int .i64 0,.str ⟨#[]⟩,.nils,.nils] s.H) s<|.mk fun s=>
 @sOp none (xStore 9 (s.τ 4) (s.τ 50) s.H) s<|.mk fun s=>
 @sLd 51 9 4 true s<|.mk fun s=>
 @sCall Tryz.prog (.func 38 []) [(s.τ 51)] (some 52) s<|.mk fun s=>
 @sOp (some 53) (xBin .gtr false (s.τ 52) (.int .i64 2000) s.H) s<|.mk fun s=>
 @sMv 54 53 s<|.mk fun s=>
 @sGl 55 9 4 54 true false s<|.mk fun s=>
 @sGrd (guardOf (s.τ 54) false) (some 56) s ⟨fun s K=>@sCall Tryz.prog (.func 39 []) [(s.τ 55)] (some 56) s ⟨K⟩⟩<|.mk fun s=>
 @sOp (some 57) (xPick (s.τ 54) (.bool true) (s.τ 56) s.H) s<|.mk fun s=>
 @sMv 58 57 s<|.mk fun s=>
 @sGl 59 9 4 58 true false s<|.mk fun s=>
 @sGf 60 0 1 58 false s<|.mk fun s=>
 @sGl 61 1 60 58 false false s<|.mk fun s=>
 @sGo 62 58 false s (fun s=>(xLen (s.τ 61) s.H))<|.mk fun s=>
 @sGf 63 1 1 58 false s<|.mk fun s=>
 @sGl 64 1 63 58 false false s<|.mk fun s=>
 @sGf 65 2 1 58 false s<|.mk fun s=>
 @sGl 66 1 65 58 false false s<|.mk fun s=>
 @sGo 67 58 false s (fun s=>(xLen (s.τ 66) s.H))<|.mk fun s=>
 @sGrd (guardOf (s.τ 58) false) (some 68) s ⟨fun s K=>@sCall Tryz.prog (.func 40 []) [(s.τ 59),(s.τ 62),(s.τ 64),(s.τ 67)] (some 68) s ⟨K⟩⟩<|.mk fun s=>
 @sGo 69 58 false s (fun s=>(xNot (s.τ 68) s.H))<|.mk fun s=>
 @sOp (some 70) (xPick (s.τ 58) (.bool true) (s.τ 69) s.H) s<|.mk fun s=>
 @sIf (s.τ 70) ⟨W17_b3 Φ L0 s⟩ ⟨W17_b4 Φ L0 s⟩
def W17_l20 (Φ:EP) (L0:SP) (s:St):Prop:=
 @sOp (some 48) (xBin .lss false (s.τ 47) (s.τ 46) s.H) s<|.mk fun s=>
 @sIf (s.τ 48) ⟨W17_b19 Φ L0 s⟩ ⟨W17_k2 Φ s⟩
def W17_b21 (Φ:EP) (s:St):Prop:=
 @sFl 44 2 1 s<|.mk fun s=>
 @sLd 45 1 44 false s<|.mk fun s=>
 @sOp (some 46) (xLen (s.τ 45) s.H) s<|.mk fun s=>
 @sOp (some 47) (xMov (.int .i64 0) s.H) s<|.mk fun s=>
 @sLoop s ⟨fun L0 s=>W17_l20 Φ L0 s⟩
def W17 (Φ:EP) (s:St):Prop:=
 @sOp (some 1) (xBox 1 29 (s.τ 0) s.H) s<|.mk fun s=>
 @sOp (some 2) (xMov (.bool false) s.H) s<|.mk fun s=>
 @sFl 5 0 1 s<|.mk fun s=>
 @sLd 6 1 5 false s<|.mk fun s=>
 @sOp (some 7) (xLen (s.τ 6) s.H) s<|.mk fun s=>
 @sOp (some 8) (xBin .gtr false (s.τ 7) (.int .i64 20) s.H) s<|.mk fun s=>
 @sMv 9 8 s<|.mk fun s=>
 @sGf 10 1 1 9 false s<|.mk fun s=>
 @sGl 11 1 10 9 false false s<|.mk fun s=>
 @sGo 12 9 false s (fun s=>(xBin .lss false (s.τ 11) (.int .i64 0) s.H))<|.mk fun s=>
 @sOp (some 13) (xPick (s.τ 9) (.bool true) (s.τ 12) s.H) s<|.mk fun s=>
 @sMv 14 13 s<|.mk fun s=>
 @sGf 15 1 1 14 false s<|.mk fun s=>
 @sGl 16 1 15 14 false false s<|.mk fun s=>
 @sGo 17 14 false s (fun s=>(xBin .gtr false (s.τ 16) (.int .i64 10) s.H))<|.mk fun s=>
 @sOp (some 18) (xPick (s.τ 14) (.bool true) (s.τ 17) s.H) s<|.mk fun s=>
 @sMv 19 18 s<|.mk fun s=>
 @sGf 20 2 1 19 false s<|.mk fun s=>
 @sGl 21 1 20 19 false false s<|.mk fun s=>
 @sGo 22 19 false s (fun s=>(xLen (s.τ 21) s.H))<|.mk fun s=>
 @sGo 23 19 false s (fun s=>(xBin .lss false (s.τ 22) (.int .i64 1) s.H))<|.mk fun s=>
 @sOp (some 24) (xPick (s.τ 19) (.bool true) (s.τ 23) s.H) s<|.mk fun s=>
 @sMv 25 24 s<|.mk fun s=>
 @sGf 26 2 1 25 false s<|.mk fun s=>
 @sGl 27 1 26 25 false false s<|.mk fun s=>
 @sGo 28 25 false s (fun s=>(xLen (s.τ 27) s.H))<|.mk fun s=>
 @sGo 29 25 false s (fun s=>(xBin .gtr false (s.τ 28) (.int .i64 20) s.H))<|.mk fun s=>
 @sOp (some 30) (xPick (s.τ 25) (.bool true) (s.τ 29) s.H) s<|.mk fun s=>
 @sMv 31 30 s<|.mk fun s=>
 @sGf 32 3 1 31 false s<|.mk fun s=>
 @sGl 33 1 32 31 false false s<|.mk fun s=>
 @sGo 34 31 false s (fun s=>(xBin .lss false (s.τ 33) (.int .i64 0) s.H))<|.mk fun s=>
 @sOp (some 35) (xPick (s.τ 31) (.bool true) (s.τ 34) s.H) s<|.mk fun s=>
 @sMv 36 35 s<|.mk fun s=>
 @sGf 37 3 1 36 false s<|.mk fun s=>
 @sGl 38 1 37 36 false false s<|.mk fun s=>
 @sGf 39 2 1 36 false s<|.mk fun s=>
 @sGl 40 1 39 36 false false s<|.mk fun s=>
 @sGo 41 36 false s (fun s=>(xLen (s.τ 40) s.H))<|.mk fun s=>
 @sGo 42 36 false s (fun s=>(xBin .geq false (s.τ 38) (s.τ 41) s.H))<|.mk fun s=>
 @sOp (some 43) (xPick (s.τ 36) (.bool true) (s.τ 42) s.H) s<|.mk fun s=>
 @sIf (s.τ 43) ⟨W17_b1 Φ s⟩ ⟨W17_b21 Φ s⟩
theorem W17_rs (τ:Nat → AV) (H:Heap):resV Tryz.prog τ H [.tmp 2] = some (τ 2):=by kernel_rfl
theorem W17_eq (Φ:EP) (s:St):awp Tryz.prog (Tryz.f17.body.getD .skip) Φ s = W17 Φ s:=by kernel_rfl
theorem W17_S {args:List AV} {r:AV} (hl:args.length ≤ 72) (h:∀ vs,W17 (retK Tryz.prog [.tmp 2] r) ⟨Am.look (argT 0 args),hls [] vs,noG⟩):Am.Spec Tryz.prog 17 args r:=.of_W (W:=W17) Tryz.func17 (by kernel_rfl) (by kernel_rfl) (by kernel_rfl) Tryz.ntmps17 W17_eq (by kernel_rfl) hl h
-- 18 "penance/penancelaw8.within"
def W18_k1 (Φ:EP) (s:St):Prop:=
 @sMv 14 5 s<|.mk fun s=>
 @sMv 4 14 s<|.mk fun s=>
 Φ .ret s
def W18_b2 (Φ:EP) (s:St):Prop:=
 @sMv 11 5 s<|.mk fun s=>
 @sMv 12 1 s<|.mk fun s=>
 @sOp (some 13) (xBin .add false (s.τ 11) (s.τ 12) s.H) s<|.mk fun s=>
 @sMv 5 13 s<|.mk fun s=>
 W18_k1 Φ s
def W18 (Φ:EP) (s:St):Prop:=
 @sOp (some 4) (xMov (.int .i64 0) s.H) s<|.mk fun s=>
 @sMv 6 0 s<|.mk fun s=>
 @sMv 7 1 s<|.mk fun s=>
 @sOp (some 8) (xBin .rem false (s.τ 6) (s.τ 7) s.H) s<|.mk fun s=>
 @sMv 5 8 s<|.mk fun s=>
 @sMv 9 5 s<|.mk fun s=>
 @sOp (some 10) (xBin .lss false (s.τ 9) (.int .i64 0) s.H) s<|.mk fun s=>
 @sIf (s.τ 10) ⟨W18_b2 Φ s⟩ ⟨W18_k1 Φ s⟩
theorem W18_rs (τ:Nat → AV) (H:Heap):resV Tryz.prog τ H [.tmp 4] = some (τ 4):=by kernel_rfl
theorem W18_eq (Φ:EP) (s:St):awp Tryz.prog (Tryz.f18.body.getD .skip) Φ s = W18 Φ s:=by kernel_rfl
theorem W18_S {args:List AV} {r:AV} (hl:args.length ≤ 15) (h:∀ vs,W18 (retK Tryz.prog [.tmp 4] r) ⟨Am.look (argT 0 args),hls [] vs,noG⟩):Am.Spec Tryz.prog 18 args r:=.of_W (W:=W18) Tryz.func18 (by kernel_rfl) (by kernel_rfl) (by kernel_rfl) Tryz.ntmps18 W18_eq (by kernel_rfl) hl h
-- 19 "penance/run.Tell"
def W19_b1 (Φ:EP) (s:St):Prop:=
 @sOp (some 24) (xBuild [.int .i64 0,.int .i64 0,.int .i64 0,.str ⟨#[]⟩,.int .i64 0,.int .i64 0,.str ⟨#[]⟩,.nils,.nils,.nils,.nils,.int .i64 0,.int .i64 0] [] s.H) s<|.mk fun s=>
 @sOp (some 25) (xBuild [.str ⟨#[]⟩,.int .i64 0,.int .i64 0] [] s.H) s<|.mk fun s=>
 @sOp none (xStore 13 (s.τ 8) (s.τ 24) s.H) s<|.mk fun s=>
 @sOp none (xStore 3 (s.τ 9) (s.τ 25) s.H) s<|.mk fun s=>
 @sOp (some 10) (xMov (.bool false) s.H) s<|.mk fun s=>
 Φ .ret s
def W19_k4 (Φ:EP) (s:St):Prop:=
 @sFl 47 0 8 s<|.mk fun s=>
 @sLd 48 9 47 true s<|.mk fun s=>
 @sMv 49 11 s<|.mk fun s=>
 @sOp (some 50) (xBuild [.int .i64 0,.int .i64 0,.int .i64 0,.str ⟨#[]⟩,.int .i64 0,.int .i64 0,.str ⟨#[]⟩,.nils,.nils] [] s.H) s<|.mk fun s=>
 @sCall Tryz.prog (.func 44 []) [(s.τ 48),(s.τ 49),(s.τ 50)] (some 51) s<|.mk fun s=>
 @sCall Tryz.prog (.func 32 []) [(s.τ 51)] (some 52) s<|.mk fun s=>
 @sFl 53 0 8 s<|.mk fun s=>
 @sOp none (xStore 9 (s.τ 53) (s.τ 52) s.H) s<|.mk fun s=>
 @sLd 54 13 8 true s<|.mk fun u1=>
 @sFl 55 3 12 u1<|.mk fun u2=>
 @sLd 56 1 55 false u2<|.mk fun u3=>
 @sMv 57 2 u3<|.mk fun u4=>
 @sMv 58 3 u4<|.mk fun u5=>
 @sOp (some 59) (xBuild [.str ⟨#[]⟩,.int .i64 0,.int .i64 0] [(0,1,(u5.τ 56)),(1,1,(u5.τ 57)),(2,1,(u5.τ 58))] u5.H) u5<|.mk fun u6=>
 @sChk (compat (occ (u1.τ 12),[]) (occ (u6.τ 8),occ (u6.τ 8))) <| .mk <|
 @sChk (compat (occ (u2.τ 55),[]) (occ (u6.τ 8),occ (u6.τ 8))) <| .mk <|
 @sOp none (xStore 13 (u6.τ 8) (u6.τ 54) u6.H) u6<|.mk fun u7=>
 @sOp none (xStore 3 (u7.τ 9) (u7.τ 59) u7.H) u7<|.mk fun u8=>
 @sOp (some 10) (xMov (.bool true) u8.H) u8<|.mk fun s=>
 Φ .ret s
def W19_b5 (Φ:EP) (s:St):Prop:=
 @sFl 41 9 8 s<|.mk fun s=>
 @sLd 42 1 41 false s<|.mk fun s=>
 @sFl 43 2 12 s<|.mk fun s=>
 @sLd 44 1 43 false s<|.mk fun s=>
 @sMv 45 3 s<|.mk fun s=>
 @sOp (some 46) (xIx 1 (s.τ 42) (s.τ 44) s.H) s<|.mk fun s=>
 @sOp none (xStore 1 (s.τ 46) (s.τ 45) s.H) s<|.mk fun s=>
 W19_k4 Φ s
def W19_b13 (Φ:EP) (s:St):Prop:=
 @sFl 26 0 8 s<|.mk fun s=>
 @sLd 27 9 26 true s<|.mk fun s=>
 @sMv 28 11 s<|.mk fun s=>
 @sCall Tryz.prog (.func 43 []) [(s.τ 27),(s.τ 28)] (some 29) s<|.mk fun s=>
 @sOp (some 12) (xAlloc 12 35 [.int .i64 0,.int .i64 0,.int .i64 0,.str ⟨#[]⟩,.int .i64 0,.int .i64 0,.str ⟨#[]⟩,.nils,.nils] s.H) s<|.mk fun s=>
 @sOp none (xStore 9 (s.τ 12) (s.τ 29) s.H) s<|.mk fun s=>
 @sFl 30 2 12 s<|.mk fun s=>
 @sLd 31 1 30 false s<|.mk fun s=>
 @sOp (some 32) (xBin .geq false (s.τ 31) (.int .i64 0) s.H) s<|.mk fun s=>
 @sMv 33 32 s<|.mk fun s=>
 @sGf 34 2 12 33 true s<|.mk fun s=>
 @sGl 35 1 34 33 false true s<|.mk fun s=>
 @sGf 36 9 8 33 true s<|.mk fun s=>
 @sGl 37 1 36 33 false true s<|.mk fun s=>
 @sGo 38 33 true s (fun s=>(xLen (s.τ 37) s.H))<|.mk fun s=>
 @sGo 39 33 true s (fun s=>(xBin .lss false (s.τ 35) (s.τ 38) s.H))<|.mk fun s=>
 @sOp (some 40) (xPick (s.τ 33) (s.τ 39) (.bool false) s.H) s<|.mk fun s=>
 @sIf (s.τ 40) ⟨W19_b5 Φ s⟩ ⟨W19_k4 Φ s⟩
def W19 (Φ:EP) (s:St):Prop:=
 @sOp (some 4) (xBox 4 29 (s.τ 0) s.H) s<|.mk fun s=>
 @sOp (some 5) (xBox 5 38 (s.τ 1) s.H) s<|.mk fun s=>
 @sOp (some 8) (xAlloc 8 38 [.int .i64 0,.int .i64 0,.int .i64 0,.str ⟨#[]⟩,.int .i64 0,.int .i64 0,.str ⟨#[]⟩,.nils,.nils,.nils,.nils,.int .i64 0,.int .i64 0] s.H) s<|.mk fun s=>
 @sOp (some 9) (xAlloc 9 44 [.str ⟨#[]⟩,.int .i64 0,.int .i64 0] s.H) s<|.mk fun s=>
 @sOp (some 10) (xMov (.bool false) s.H) s<|.mk fun s=>
 @sLd 13 13 5 true s<|.mk fun s=>
 @sCall Tryz.prog (.func 41 []) [(s.τ 13)] (some 14) s<|.mk fun s=>
 @sOp none (xStore 13 (s.τ 8) (s.τ 14) s.H) s<|.mk fun s=>
 @sFl 16 0 8 s<|.mk fun s=>
 @sLd 17 9 16 true s<|.mk fun s=>
 @sMv 18 2 s<|.mk fun s=>
 @sCall Tryz.prog (.func 42 []) [(s.τ 17),(s.τ 18)] (some 19) s<|.mk fun s=>
 @sMv 15 19 s<|.mk fun s=>
 @sOp (some 20) (xExt (s.τ 15) 0 s.H) s<|.mk fun s=>
 @sOp (some 21) (xExt (s.τ 15) 1 s.H) s<|.mk fun s=>
 @sMv 11 20 s<|.mk fun s=>
 @sMv 10 21 s<|.mk fun s=>
 @sMv 22 10 s<|.mk fun s=>
 @sOp (some 23) (xNot (s.τ 22) s.H) s<|.mk fun s=>
 @sIf (s.τ 23) ⟨W19_b1 Φ s⟩ ⟨W19_b13 Φ s⟩
theorem W19_rs (τ:Nat → AV) (H:Heap):resV Tryz.prog τ H [.cell 8 38,.cell 9 44,.tmp 10] = ob (ob (rdV H 13 true (τ 8)) fun v=>ob (ob (rdV H 3 true (τ 9)) fun v=>ob (ob (some (τ 10)) fun v=>ob (some []) fun vs=>some (v :: vs)) fun vs=>some (v :: vs)) fun vs=>some (v :: vs)) fun vs=>some (.tup vs):=by kernel_rfl
theorem W19_eq (Φ:EP) (s:St):awp Tryz.prog (Tryz.f19.body.getD .skip) Φ s = W19 Φ s:=by kernel_rfl
theorem W19_S {args:List AV} {r:AV} (hl:args.length ≤ 60) (h:∀ vs,W19 (retK Tryz.prog [.cell 8 38,.cell 9 44,.tmp 10] r) ⟨Am.look (argT 0 args),hls [] vs,noG⟩):Am.Spec Tryz.prog 19 args r:=.of_W (W:=W19) Tryz.func19 (by kernel_rfl) (by kernel_rfl) (by kernel_rfl) Tryz.ntmps19 W19_eq (by kernel_rfl) hl h
-- 21 "penance/run.Do"
def W21_b1 (Φ:EP) (J0:Nat → SP) (s:St):Prop:=
 @sOp (some 28) (xBuild [.int .i64 0,.int .i64 0,.int .i64 0,.str ⟨#[]⟩,.int .i64 0,.int .i64 0,.str ⟨#[]⟩,.nils,.nils,.nils,.nils,.int .i64 0,.int .i64 0] [] s.H) s<|.mk fun s=>
 @sOp (some 29) (xBuild [.str ⟨#[]⟩,.int .i64 0,.int .i64 0] [] s.H) s<|.mk fun s=>
 @sOp none (xStore 13 (s.τ 6) (s.τ 28) s.H) s<|.mk fun s=>
 @sOp none (xStore 3 (s.τ 7) (s.τ 29) s.H) s<|.mk fun s=>
 @sOp (some 8) (xMov (.bool false) s.H) s<|.mk fun s=>
 @sOp (some 9) (xMov (.int .i64 12) s.H) s<|.mk fun s=>
 Φ .ret s
def W21_b2 (Φ:EP) (J0:Nat → SP) (s:St):Prop:=
 @sOp (some 34) (xBuild [.int .i64 0,.int .i64 0,.int .i64 0,.str ⟨#[]⟩,.int .i64 0,.int .i64 0,.str ⟨#[]⟩,.nils,.nils,.nils,.nils,.int .i64 0,.int .i64 0] [] s.H) s<|.mk fun s=>
 @sOp (some 35) (xBuild [.str ⟨#[]⟩,.int .i64 0,.int .i64 0] [] s.H) s<|.mk fun s=>
 @sOp none (xStore 13 (s.τ 6) (s.τ 34) s.H) s<|.mk fun s=>
 @sOp none (xStore 3 (s.τ 7) (s.τ 35) s.H) s<|.mk fun s=>
 @sOp (some 8) (xMov (.bool false) s.H) s<|.mk fun s=>
 @sOp (some 9) (xMov (.int .i64 10) s.H) s<|.mk fun s=>
 Φ .ret s
def W21_b3 (Φ:EP) (J0:Nat → SP) (s:St):Prop:=
 @sOp (some 9) (xMov (.int .i64 11) s.H) s<|.mk fun s=>
 J0 0 s
def W21_b4 (Φ:EP) (J0:Nat → SP) (s:St):Prop:=
 @sLd 190 13 6 true s<|.mk fun u1=>
 @sLd 191 3 7 true u1<|.mk fun u2=>
 @sMv 192 8 u2<|.mk fun u3=>
 @sChk (compat (occ (u1.τ 7),[]) (occ (u3.τ 6),occ (u3.τ 6))) <| .mk <|
 @sOp none (xStore 13 (u3.τ 6) (u3.τ 190) u3.H) u3<|.mk fun u4=>
 @sOp none (xStore 3 (u4.τ 7) (u4.τ 191) u4.H) u4<|.mk fun u5=>
 @sMv 8 192 u5<|.mk fun u6=>
 @sOp (some 9) (xMov (.int .i64 0) u6.H) u6<|.mk fun s=>
 Φ .ret s
def W21_k9 (Φ:EP) (J0:Nat → SP) (s:St):Prop:=
 @sFl 171 0 6 s<|.mk fun s=>
 @sLd 172 9 171 true s<|.mk fun s=>
 @sMv 173 13 s<|.mk fun s=>
 @sLd 174 9 14 true s<|.mk fun s=>
 @sCall Tryz.prog (.func 44 []) [(s.τ 172),(s.τ 173),(s.τ 174)] (some 175) s<|.mk fun s=>
 @sCall Tryz.prog (.func 32 []) [(s.τ 175)] (some 176) s<|.mk fun s=>
 @sFl 177 0 6 s<|.mk fun s=>
 @sOp none (xStore 9 (s.τ 177) (s.τ 176) s.H) s<|.mk fun s=>
 @sFl 178 11 6 s<|.mk fun s=>
 @sLd 179 1 178 false s<|.mk fun s=>
 @sOp (some 180) (xBin .add false (s.τ 179) (.int .i64 1) s.H) s<|.mk fun s=>
 @sFl 181 11 6 s<|.mk fun s=>
 @sOp none (xStore 1 (s.τ 181) (s.τ 180) s.H) s<|.mk fun s=>
 @sFl 182 0 6 s<|.mk fun u1=>
 @sLd 183 9 182 true u1<|.mk fun u2=>
 @sCall0 Tryz.prog (.func 38 []) [(u2.τ 183)] (some 184) u2<|.mk fun u3=>
 @sChk (compat (cfp 184 38 [(u2.τ 183)]) (occ (u3.τ 6),[])) <| .mk <|
 @sFl 185 10 6 u3<|.mk fun u4=>
 @sChk (compat (cfp 184 38 [(u2.τ 183)]) (occ (u4.τ 185),[])) <| .mk <|
 @sLd 186 1 185 false u4<|.mk fun u5=>
 @sCall0 Tryz.prog (.func 52 []) [(u5.τ 186)] (some 187) u5<|.mk fun u6=>
 @sOp (some 188) (xBin .add false (u6.τ 184) (u6.τ 187) u6.H) u6<|.mk fun u7=>
 @sOp (some 189) (xBin .gtr false (u7.τ 188) (.int .i64 2000) u7.H) u7<|.mk fun s=>
 @sIf (s.τ 189) ⟨W21_b3 Φ J0 s⟩ ⟨W21_b4 Φ J0 s⟩
def W21_b10 (Φ:EP) (J0:Nat → SP) (s:St):Prop:=
 @sFl 72 12 6 s<|.mk fun s=>
 @sLd 73 1 72 false s<|.mk fun s=>
 @sFl 74 1 12 s<|.mk fun s=>
 @sLd 75 1 74 false s<|.mk fun s=>
 @sFl 76 3 12 s<|.mk fun s=>
 @sLd 77 1 76 false s<|.mk fun s=>
 @sOp (some 78) (xBuild [.int .i64 0,.int .i64 0,.int .i64 0,.str ⟨#[]⟩,.int .i64 0,.int .i64 0,.str ⟨#[]⟩,.nils,.nils] [(0,1,(.int .i64 14)),(1,1,(s.τ 73)),(2,1,(s.τ 75)),(3,1,(s.τ 77))] s.H) s<|.mk fun s=>
 @sOp none (xStore 9 (s.τ 14) (s.τ 78) s.H) s<|.mk fun s=>
 @sFl 79 3 12 s<|.mk fun s=>
 @sLd 80 1 79 false s<|.mk fun s=>
 @sFl 81 12 6 s<|.mk fun s=>
 @sLd 82 1 81 false s<|.mk fun s=>
 @sOp (some 83) (xBuild [.str ⟨#[]⟩,.int .i64 0,.int .i64 0] [(0,1,(s.τ 80)),(1,1,(s.τ 82))] s.H) s<|.mk fun s=>
 @sOp none (xStore 3 (s.τ 7) (s.τ 83) s.H) s<|.mk fun s=>
 @sOp (some 8) (xMov (.bool true) s.H) s<|.mk fun s=>
 @sFl 84 12 6 s<|.mk fun s=>
 @sLd 85 1 84 false s<|.mk fun s=>
 @sOp (some 86) (xBin .add false (s.τ 85) (.int .i64 1) s.H) s<|.mk fun s=>
 @sFl 87 12 6 s<|.mk fun s=>
 @sOp none (xStore 1 (s.τ 87) (s.τ 86) s.H) s<|.mk fun s=>
 W21_k9 Φ J0 s
def W21_b11 (Φ:EP) (J0:Nat → SP) (s:St):Prop:=
 @sFl 90 9 6 s<|.mk fun s=>
 @sLd 91 1 90 false s<|.mk fun s=>
 @sFl 92 1 12 s<|.mk fun s=>
 @sLd 93 1 92 false s<|.mk fun s=>
 @sMv 94 15 s<|.mk fun s=>
 @sOp (some 95) (xIx 1 (s.τ 91) (s.τ 93) s.H) s<|.mk fun s=>
 @sOp none (xStore 1 (s.τ 95) (s.τ 94) s.H) s<|.mk fun s=>
 W21_k9 Φ J0 s
def W21_b13 (Φ:EP) (J0:Nat → SP) (s:St):Prop:=
 @sFl 98 10 6 s<|.mk fun s=>
 @sLd 99 1 98 false s<|.mk fun s=>
 @sFl 100 1 12 s<|.mk fun s=>
 @sLd 101 1 100 false s<|.mk fun s=>
 @sFl 102 8 12 s<|.mk fun s=>
 @sLd 103 1 102 false s<|.mk fun s=>
 @sOp (some 104) (xIx 9 (s.τ 103) (.int .i64 0) s.H) s<|.mk fun s=>
 @sLd 105 9 104 true s<|.mk fun s=>
 @sCall0 Tryz.prog (.func 48 []) [(s.τ 99),(s.τ 101),(s.τ 105)] (some 106) s<|.mk fun s=>
 @sFl 107 10 6 s<|.mk fun s=>
 @sOp none (xStore 1 (s.τ 107) (s.τ 106) s.H) s<|.mk fun s=>
 W21_k9 Φ J0 s
def W21_b15 (Φ:EP) (J0:Nat → SP) (s:St):Prop:=
 @sFl 111 10 6 s<|.mk fun s=>
 @sLd 112 1 111 false s<|.mk fun s=>
 @sFl 113 1 12 s<|.mk fun s=>
 @sLd 114 1 113 false s<|.mk fun s=>
 @sCall Tryz.prog (.func 49 []) [(s.τ 112),(s.τ 114)] (some 115) s<|.mk fun s=>
 @sMv 110 115 s<|.mk fun s=>
 @sOp (some 116) (xExt (s.τ 110) 0 s.H) s<|.mk fun s=>
 @sOp (some 117) (xExt (s.τ 110) 1 s.H) s<|.mk fun s=>
 @sOp none (xStore 9 (s.τ 14) (s.τ 116) s.H) s<|.mk fun s=>
 @sFl 118 10 6 s<|.mk fun s=>
 @sOp none (xStore 1 (s.τ 118) (s.τ 117) s.H) s<|.mk fun s=>
 W21_k9 Φ J0 s
def W21_b17 (Φ:EP) (J0:Nat → SP) (s:St):Prop:=
 @sFl 121 10 6 s<|.mk fun s=>
 @sLd 122 1 121 false s<|.mk fun s=>
 @sFl 123 1 12 s<|.mk fun s=>
 @sLd 124 1 123 false s<|.mk fun s=>
 @sCall Tryz.prog (.func 50 []) [(s.τ 122),(s.τ 124)] (some 125) s<|.mk fun s=>
 @sFl 126 10 6 s<|.mk fun s=>
 @sOp none (xStore 1 (s.τ 126) (s.τ 125) s.H) s<|.mk fun s=>
 W21_k9 Φ J0 s
def W21_b19 (Φ:EP) (J0:Nat → SP) (s:St):Prop:=
 @sFl 129 10 6 s<|.mk fun s=>
 @sLd 130 1 129 false s<|.mk fun s=>
 @sFl 131 1 12 s<|.mk fun s=>
 @sLd 132 1 131 false s<|.mk fun s=>
 @sFl 133 2 12 s<|.mk fun s=>
 @sLd 134 1 133 false s<|.mk fun s=>
 @sCall Tryz.prog (.func 34 []) [(s.τ 130),(s.τ 132),(s.τ 134)] (some 135) s<|.mk fun s=>
 @sFl 136 10 6 s<|.mk fun s=>
 @sOp none (xStore 1 (s.τ 136) (s.τ 135) s.H) s<|.mk fun s=>
 W21_k9 Φ J0 s
def W21_b20 (Φ:EP) (J0:Nat → SP) (s:St):Prop:=
 @sFl 145 8 12 s<|.mk fun s=>
 @sLd 146 1 145 false s<|.mk fun s=>
 @sOp (some 147) (xIx 9 (s.τ 146) (.int .i64 0) s.H) s<|.mk fun s=>
 @sLd 148 9 147 true s<|.mk fun s=>
 @sOp none (xStore 9 (s.τ 14) (s.τ 148) s.H) s<|.mk fun s=>
 W21_k9 Φ J0 s
def W21_b21 (Φ:EP) (J0:Nat → SP) (s:St):Prop:=
 @sFl 139 8 12 s<|.mk fun s=>
 @sLd 140 1 139 false s<|.mk fun s=>
 @sOp (some 141) (xIx 9 (s.τ 140) (.int .i64 1) s.H) s<|.mk fun s=>
 @sLd 142 9 141 true s<|.mk fun s=>
 @sOp none (xStore 9 (s.τ 14) (s.τ 142) s.H) s<|.mk fun s=>
 @sMv 143 15 s<|.mk fun s=>
 @sOp (some 144) (xBin .neq false (s.τ 143) (.int .i64 0) s.H) s<|.mk fun s=>
 @sIf (s.τ 144) ⟨W21_b20 Φ J0 s⟩ ⟨W21_k9 Φ J0 s⟩
def W21_b22 (Φ:EP) (J0:Nat → SP) (s:St):Prop:=
 @sFl 151 8 12 s<|.mk fun s=>
 @sLd 152 1 151 false s<|.mk fun s=>
 @sFl 153 2 11 s<|.mk fun s=>
 @sLd 154 1 153 false s<|.mk fun s=>
 @sOp (some 155) (xIx 9 (s.τ 152) (s.τ 154) s.H) s<|.mk fun s=>
 @sLd 156 9 155 true s<|.mk fun s=>
 @sOp none (xStore 9 (s.τ 14) (s.τ 156) s.H) s<|.mk fun s=>
 W21_k9 Φ J0 s
def W21_b23 (Φ:EP) (J0:Nat → SP) (s:St):Prop:=
 @sFl 159 2 3 s<|.mk fun s=>
 @sLd 160 1 159 false s<|.mk fun s=>
 @sFl 161 1 12 s<|.mk fun s=>
 @sLd 162 1 161 false s<|.mk fun s=>
 @sOp (some 163) (xIx 9 (s.τ 160) (s.τ 162) s.H) s<|.mk fun s=>
 @sLd 164 9 163 true s<|.mk fun s=>
 @sOp none (xStore 9 (s.τ 14) (s.τ 164) s.H) s<|.mk fun s=>
 W21_k9 Φ J0 s
def W21_b25 (Φ:EP) (J0:Nat → SP) (s:St):Prop:=
 @sFl 167 0 6 s<|.mk fun s=>
 @sLd 168 9 167 true s<|.mk fun s=>
 @sMv 169 13 s<|.mk fun s=>
 @sCall Tryz.prog (.func 51 []) [(s.τ 168),(s.τ 169)] (some 170) s<|.mk fun s=>
 @sMv 13 170 s<|.mk fun s=>
 W21_k9 Φ J0 s
def W21_b26 (Φ:EP) (J0:Nat → SP) (s:St):Prop:=
 @sOp (some 166) (xBin .eql false (s.τ 69) (.int .i64 8) s.H) s<|.mk fun s=>
 @sMv 165 166 s<|.mk fun s=>
 @sIf (s.τ 165) ⟨W21_b25 Φ J0 s⟩ ⟨W21_k9 Φ J0 s⟩
def W21_b27 (Φ:EP) (J0:Nat → SP) (s:St):Prop:=
 @sOp (some 158) (xBin .eql false (s.τ 69) (.int .i64 13) s.H) s<|.mk fun s=>
 @sMv 157 158 s<|.mk fun s=>
 @sIf (s.τ 157) ⟨W21_b23 Φ J0 s⟩ ⟨W21_b26 Φ J0 s⟩
def W21_b28 (Φ:EP) (J0:Nat → SP) (s:St):Prop:=
 @sOp (some 150) (xBin .eql false (s.τ 69) (.int .i64 10) s.H) s<|.mk fun s=>
 @sMv 149 150 s<|.mk fun s=>
 @sIf (s.τ 149) ⟨W21_b22 Φ J0 s⟩ ⟨W21_b27 Φ J0 s⟩
def W21_b29 (Φ:EP) (J0:Nat → SP) (s:St):Prop:=
 @sOp (some 138) (xBin .eql false (s.τ 69) (.int .i64 9) s.H) s<|.mk fun s=>
 @sMv 137 138 s<|.mk fun s=>
 @sIf (s.τ 137) ⟨W21_b21 Φ J0 s⟩ ⟨W21_b28 Φ J0 s⟩
def W21_b30 (Φ:EP) (J0:Nat → SP) (s:St):Prop:=
 @sOp (some 128) (xBin .eql false (s.τ 69) (.int .i64 6) s.H) s<|.mk fun s=>
 @sMv 127 128 s<|.mk fun s=>
 @sIf (s.τ 127) ⟨W21_b19 Φ J0 s⟩ ⟨W21_b29 Φ J0 s⟩
def W21_b31 (Φ:EP) (J0:Nat → SP) (s:St):Prop:=
 @sOp (some 120) (xBin .eql false (s.τ 69) (.int .i64 5) s.H) s<|.mk fun s=>
 @sMv 119 120 s<|.mk fun s=>
 @sIf (s.τ 119) ⟨W21_b17 Φ J0 s⟩ ⟨W21_b30 Φ J0 s⟩
def W21_b32 (Φ:EP) (J0:Nat → SP) (s:St):Prop:=
 @sOp (some 109) (xBin .eql false (s.τ 69) (.int .i64 4) s.H) s<|.mk fun s=>
 @sMv 108 109 s<|.mk fun s=>
 @sIf (s.τ 108) ⟨W21_b15 Φ J0 s⟩ ⟨W21_b31 Φ J0 s⟩
def W21_b33 (Φ:EP) (J0:Nat → SP) (s:St):Prop:=
 @sOp (some 97) (xBin .eql false (s.τ 69) (.int .i64 3) s.H) s<|.mk fun s=>
 @sMv 96 97 s<|.mk fun s=>
 @sIf (s.τ 96) ⟨W21_b13 Φ J0 s⟩ ⟨W21_b32 Φ J0 s⟩
def W21_b34 (Φ:EP) (J0:Nat → SP) (s:St):Prop:=
 @sOp (some 89) (xBin .eql false (s.τ 69) (.int .i64 2) s.H) s<|.mk fun s=>
 @sMv 88 89 s<|.mk fun s=>
 @sIf (s.τ 88) ⟨W21_b11 Φ J0 s⟩ ⟨W21_b33 Φ J0 s⟩
def W21_k35 (Φ:EP) (J0:Nat → SP) (s:St):Prop:=
 @sFl 68 0 12 s<|.mk fun s=>
 @sLd 69 1 68 false s<|.mk fun s=>
 @sOp (some 71) (xBin .eql false (s.τ 69) (.int .i64 1) s.H) s<|.mk fun s=>
 @sMv 70 71 s<|.mk fun s=>
 @sIf (s.τ 70) ⟨W21_b10 Φ J0 s⟩ ⟨W21_b34 Φ J0 s⟩
def W21_b37 (Φ:EP) (J0:Nat → SP) (s:St):Prop:=
 @sFl 59 4 12 s<|.mk fun s=>
 @sLd 60 4 59 true s<|.mk fun s=>
 @sFl 61 9 6 s<|.mk fun s=>
 @sLd 62 1 61 false s<|.mk fun s=>
 @sCall Tryz.prog (.func 47 []) [(s.τ 60),(s.τ 62)] (some 63) s<|.mk fun s=>
 @sMv 58 63 s<|.mk fun s=>
 @sOp (some 64) (xExt (s.τ 58) 0 s.H) s<|.mk fun s=>
 @sOp (some 65) (xExt (s.τ 58) 1 s.H) s<|.mk fun s=>
 @sMv 15 64 s<|.mk fun s=>
 @sMv 9 65 s<|.mk fun s=>
 @sMv 66 9 s<|.mk fun s=>
 @sOp (some 67) (xBin .neq false (s.τ 66) (.int .i64 0) s.H) s<|.mk fun s=>
 @sIf (s.τ 67) ⟨J0 0 s⟩ ⟨W21_k35 Φ J0 s⟩
def W21_b43 (Φ:EP) (J0:Nat → SP) (s:St):Prop:=
 @sLd 36 13 4 true s<|.mk fun s=>
 @sCall Tryz.prog (.func 41 []) [(s.τ 36)] (some 37) s<|.mk fun s=>
 @sOp none (xStore 13 (s.τ 6) (s.τ 37) s.H) s<|.mk fun s=>
 @sMv 38 10 s<|.mk fun s=>
 @sMv 39 2 s<|.mk fun s=>
 @sOp (some 40) (xIx 3 (s.τ 38) (s.τ 39) s.H) s<|.mk fun s=>
 @sLd 41 3 40 true s<|.mk fun s=>
 @sOp (some 11) (xAlloc 11 60 [.int .i64 0,.nils,.int .i64 0] s.H) s<|.mk fun s=>
 @sOp none (xStore 3 (s.τ 11) (s.τ 41) s.H) s<|.mk fun s=>
 @sFl 42 0 6 s<|.mk fun s=>
 @sLd 43 9 42 true s<|.mk fun s=>
 @sFl 44 1 11 s<|.mk fun s=>
 @sLd 45 1 44 false s<|.mk fun s=>
 @sCall Tryz.prog (.func 43 []) [(s.τ 43),(s.τ 45)] (some 46) s<|.mk fun s=>
 @sOp (some 12) (xAlloc 12 35 [.int .i64 0,.int .i64 0,.int .i64 0,.str ⟨#[]⟩,.int .i64 0,.int .i64 0,.str ⟨#[]⟩,.nils,.nils] s.H) s<|.mk fun s=>
 @sOp none (xStore 9 (s.τ 12) (s.τ 46) s.H) s<|.mk fun s=>
 @sFl 47 1 11 s<|.mk fun s=>
 @sLd 48 1 47 false s<|.mk fun s=>
 @sOp (some 49) (xBuild [.int .i64 0,.int .i64 0,.int .i64 0,.str ⟨#[]⟩,.int .i64 0,.int .i64 0,.str ⟨#[]⟩,.nils,.nils] [] s.H) s<|.mk fun s=>
 @sOp (some 14) (xAlloc 14 35 [.int .i64 0,.int .i64 0,.int .i64 0,.str ⟨#[]⟩,.int .i64 0,.int .i64 0,.str ⟨#[]⟩,.nils,.nils] s.H) s<|.mk fun s=>
 @sMv 13 48 s<|.mk fun s=>
 @sOp none (xStore 9 (s.τ 14) (s.τ 49) s.H) s<|.mk fun s=>
 @sOp (some 15) (xMov (.int .i64 0) s.H) s<|.mk fun s=>
 @sFl 50 0 12 s<|.mk fun s=>
 @sLd 51 1 50 false s<|.mk fun s=>
 @sOp (some 52) (xBin .eql false (s.τ 51) (.int .i64 2) s.H) s<|.mk fun s=>
 @sMv 53 52 s<|.mk fun s=>
 @sGf 54 0 12 53 false s<|.mk fun s=>
 @sGl 55 1 54 53 false false s<|.mk fun s=>
 @sGo 56 53 false s (fun s=>(xBin .eql false (s.τ 55) (.int .i64 9) s.H))<|.mk fun s=>
 @sOp (some 57) (xPick (s.τ 53) (.bool true) (s.τ 56) s.H) s<|.mk fun s=>
 @sIf (s.τ 57) ⟨W21_b37 Φ J0 s⟩ ⟨W21_k35 Φ J0 s⟩
def W21_b44 (Φ:EP) (J0:Nat → SP) (s:St):Prop:=
 @sFl 31 11 4 s<|.mk fun s=>
 @sLd 32 1 31 false s<|.mk fun s=>
 @sOp (some 33) (xBin .geq false (s.τ 32) (.int .i64 5000) s.H) s<|.mk fun s=>
 @sMv 30 33 s<|.mk fun s=>
 @sIf (s.τ 30) ⟨W21_b2 Φ J0 s⟩ ⟨W21_b43 Φ J0 s⟩
def W21_s50 (Φ:EP) (J0:Nat → SP) (s:St):Prop:=
 @sFl 16 0 4 s<|.mk fun s=>
 @sLd 17 9 16 true s<|.mk fun s=>
 @sCall Tryz.prog (.func 46 []) [(s.τ 17)] (some 18) s<|.mk fun s=>
 @sMv 10 18 s<|.mk fun s=>
 @sMv 20 2 s<|.mk fun s=>
 @sOp (some 21) (xBin .lss false (s.τ 20) (.int .i64 0) s.H) s<|.mk fun s=>
 @sMv 22 21 s<|.mk fun s=>
 @sGm 23 2 22 false s<|.mk fun s=>
 @sGm 24 10 22 false s<|.mk fun s=>
 @sGo 25 22 false s (fun s=>(xLen (s.τ 24) s.H))<|.mk fun s=>
 @sGo 26 22 false s (fun s=>(xBin .geq false (s.τ 23) (s.τ 25) s.H))<|.mk fun s=>
 @sOp (some 27) (xPick (s.τ 22) (.bool true) (s.τ 26) s.H) s<|.mk fun s=>
 @sMv 19 27 s<|.mk fun s=>
 @sIf (s.τ 19) ⟨W21_b1 Φ J0 s⟩ ⟨W21_b44 Φ J0 s⟩
def W21_g51 (Φ:EP) (J0:Nat → SP) (s:St):Prop:=
 @sOp (some 193) (xBuild [.int .i64 0,.int .i64 0,.int .i64 0,.str ⟨#[]⟩,.int .i64 0,.int .i64 0,.str ⟨#[]⟩,.nils,.nils,.nils,.nils,.int .i64 0,.int .i64 0] [] s.H) s<|.mk fun s=>
 @sOp (some 194) (xBuild [.str ⟨#[]⟩,.int .i64 0,.int .i64 0] [] s.H) s<|.mk fun s=>
 @sMv 195 9 s<|.mk fun s=>
 @sOp none (xStore 13 (s.τ 6) (s.τ 193) s.H) s<|.mk fun s=>
 @sOp none (xStore 3 (s.τ 7) (s.τ 194) s.H) s<|.mk fun s=>
 @sOp (some 8) (xMov (.bool false) s.H) s<|.mk fun s=>
 @sMv 9 195 s<|.mk fun s=>
 Φ .ret s
def W21 (Φ:EP) (s:St):Prop:=
 @sOp (some 3) (xBox 3 29 (s.τ 0) s.H) s<|.mk fun s=>
 @sOp (some 4) (xBox 4 38 (s.τ 1) s.H) s<|.mk fun s=>
 @sOp (some 6) (xAlloc 6 38 [.int .i64 0,.int .i64 0,.int .i64 0,.str ⟨#[]⟩,.int .i64 0,.int .i64 0,.str ⟨#[]⟩,.nils,.nils,.nils,.nils,.int .i64 0,.int .i64 0] s.H) s<|.mk fun s=>
 @sOp (some 7) (xAlloc 7 44 [.str ⟨#[]⟩,.int .i64 0,.int .i64 0] s.H) s<|.mk fun s=>
 @sOp (some 8) (xMov (.bool false) s.H) s<|.mk fun s=>
 @sOp (some 9) (xMov (.int .i64 0) s.H) s<|.mk fun s=>
 @sScope s ⟨fun J0 s=>W21_s50 Φ J0 s⟩ ⟨[(0,fun J0 s=>W21_g51 Φ J0 s)]⟩
theorem W21_rs (τ:Nat → AV) (H:Heap):resV Tryz.prog τ H [.cell 6 38,.cell 7 44,.tmp 8,.tmp 9] = ob (ob (rdV H 13 true (τ 6)) fun v=>ob (ob (rdV H 3 true (τ 7)) fun v=>ob (ob (some (τ 8)) fun v=>ob (ob (some (τ 9)) fun v=>ob (some []) fun vs=>some (v :: vs)) fun vs=>some (v :: vs)) fun vs=>some (v :: vs)) fun vs=>some (v :: vs)) fun vs=>some (.tup vs):=by kernel_rfl
theorem W21_eq (Φ:EP) (s:St):awp Tryz.prog (Tryz.f21.body.getD .skip) Φ s = W21 Φ s:=by kernel_rfl
theorem W21_S {args:List AV} {r:AV} (hl:args.length ≤ 196) (h:∀ vs,W21 (retK Tryz.prog [.cell 6 38,.cell 7 44,.tmp 8,.tmp 9] r) ⟨Am.look (argT 0 args),hls [] vs,noG⟩):Am.Spec Tryz.prog 21 args r:=.of_W (W:=W21) Tryz.func21 (by kernel_rfl) (by kernel_rfl) (by kernel_rfl) Tryz.ntmps21 W21_eq (by kernel_rfl) hl h
end Go.Proofs.YtnngddgaobhkiaaGreat
set_option linter.unusedVariables false
set_option maxRecDepth 100000
namespace Go.Proofs.YtnngddgaobhkiaaGreat
open Go Go.Am
-- 26 "penance/penanceref5.Waits"
def W26_b1 (Φ:EP) (s:St):Prop:=
 @sFl 8 1 1 s<|.mk fun s=>
 @sLd 9 1 8 false s<|.mk fun s=>
 @sOp (some 10) (xLit 1 1 [.int .i64 0] [(0,(s.τ 9))] s.H) s<|.mk fun s=>
 @sMv 2 10 s<|.mk fun s=>
 Φ .ret s
def W26_k2 (Φ:EP) (s:St):Prop:=
 @sMv 25 3 s<|.mk fun s=>
 @sMv 2 25 s<|.mk fun s=>
 Φ .ret s
def W26_b4 (Φ:EP) (L0:SP) (s:St):Prop:=
 @sMv 17 3 s<|.mk fun s=>
 @sFl 18 8 1 s<|.mk fun s=>
 @sLd 19 1 18 false s<|.mk fun s=>
 @sMv 20 4 s<|.mk fun s=>
 @sOp (some 21) (xIx 9 (s.τ 19) (s.τ 20) s.H) s<|.mk fun s=>
 @sLd 22 9 21 true s<|.mk fun s=>
 @sCall Tryz.prog (.func 26 []) [(s.τ 22)] (some 23) s<|.mk fun s=>
 @sOp (some 24) (xApp Tryz.prog 3 1 8 (some 24) (s.τ 17) (s.τ 23) s.H) s<|.mk fun s=>
 @sMv 3 24 s<|.mk fun s=>
 @sMv 15 4 s<|.mk fun s=>
 @sOp (some 16) (xBin .add false (s.τ 15) (.int .i64 1) s.H) s<|.mk fun s=>
 @sMv 4 16 s<|.mk fun s=>
 L0 s
def W26_l6 (Φ:EP) (L0:SP) (s:St):Prop:=
 @sMv 11 4 s<|.mk fun s=>
 @sLd 12 9 1 true s<|.mk fun s=>
 @sCall Tryz.prog (.func 63 []) [(s.τ 12)] (some 13) s<|.mk fun s=>
 @sOp (some 14) (xBin .lss false (s.τ 11) (s.τ 13) s.H) s<|.mk fun s=>
 @sIf (s.τ 14) ⟨W26_b4 Φ L0 s⟩ ⟨W26_k2 Φ s⟩
def W26_b7 (Φ:EP) (s:St):Prop:=
 @sOp (some 3) (xMov (.nils) s.H) s<|.mk fun s=>
 @sOp (some 4) (xMov (.int .i64 0) s.H) s<|.mk fun s=>
 @sLoop s ⟨fun L0 s=>W26_l6 Φ L0 s⟩
def W26 (Φ:EP) (s:St):Prop:=
 @sOp (some 1) (xBox 1 35 (s.τ 0) s.H) s<|.mk fun s=>
 @sOp (some 2) (xMov (.nils) s.H) s<|.mk fun s=>
 @sFl 5 0 1 s<|.mk fun s=>
 @sLd 6 1 5 false s<|.mk fun s=>
 @sOp (some 7) (xBin .eql false (s.τ 6) (.int .i64 14) s.H) s<|.mk fun s=>
 @sIf (s.τ 7) ⟨W26_b1 Φ s⟩ ⟨W26_b7 Φ s⟩
theorem W26_rs (τ:Nat → AV) (H:Heap):resV Tryz.prog τ H [.tmp 2] = some (τ 2):=by kernel_rfl
theorem W26_eq (Φ:EP) (s:St):awp Tryz.prog (Tryz.f26.body.getD .skip) Φ s = W26 Φ s:=by kernel_rfl
theorem W26_S {args:List AV} {r:AV} (hl:args.length ≤ 26) (h:∀ vs,W26 (retK Tryz.prog [.tmp 2] r) ⟨Am.look (argT 0 args),hls [] vs,noG⟩):Am.Spec Tryz.prog 26 args r:=.of_W (W:=W26) Tryz.func26 (by kernel_rfl) (by kernel_rfl) (by kernel_rfl) Tryz.ntmps26 W26_eq (by kernel_rfl) hl h
-- 29 "penance/penancelaw3.size"
def W29_b1 (Φ:EP) (s:St):Prop:=
 @sOp (some 4) (xMov (.int .i64 1000) s.H) s<|.mk fun s=>
 Φ .ret s
def W29_k2 (Φ:EP) (s:St):Prop:=
 @sMv 36 5 s<|.mk fun s=>
 @sMv 4 36 s<|.mk fun s=>
 Φ .ret s
def W29_b4 (Φ:EP) (L0:SP) (s:St):Prop:=
 @sMv 26 5 s<|.mk fun s=>
 @sFl 27 4 2 s<|.mk fun s=>
 @sLd 28 1 27 false s<|.mk fun s=>
 @sMv 29 6 s<|.mk fun s=>
 @sOp (some 30) (xIx 5 (s.τ 28) (s.τ 29) s.H) s<|.mk fun s=>
 @sLd 31 5 30 true s<|.mk fun s=>
 @sMv 32 1 s<|.mk fun s=>
 @sOp (some 33) (xBin .add false (s.τ 32) (.int .i64 1) s.H) s<|.mk fun s=>
 @sCall Tryz.prog (.func 29 []) [(s.τ 31),(s.τ 33)] (some 34) s<|.mk fun s=>
 @sOp (some 35) (xBin .add false (s.τ 26) (s.τ 34) s.H) s<|.mk fun s=>
 @sMv 5 35 s<|.mk fun s=>
 @sMv 24 6 s<|.mk fun s=>
 @sOp (some 25) (xBin .add false (s.τ 24) (.int .i64 1) s.H) s<|.mk fun s=>
 @sMv 6 25 s<|.mk fun s=>
 L0 s
def W29_l7 (Φ:EP) (L0:SP) (s:St):Prop:=
 @sMv 15 6 s<|.mk fun s=>
 @sFl 16 4 2 s<|.mk fun s=>
 @sLd 17 1 16 false s<|.mk fun s=>
 @sOp (some 18) (xLen (s.τ 17) s.H) s<|.mk fun s=>
 @sOp (some 19) (xBin .lss false (s.τ 15) (s.τ 18) s.H) s<|.mk fun s=>
 @sMv 20 19 s<|.mk fun s=>
 @sGm 21 5 20 true s<|.mk fun s=>
 @sGo 22 20 true s (fun s=>(xBin .leq false (s.τ 21) (.int .i64 40) s.H))<|.mk fun s=>
 @sOp (some 23) (xPick (s.τ 20) (s.τ 22) (.bool false) s.H) s<|.mk fun s=>
 @sIf (s.τ 23) ⟨W29_b4 Φ L0 s⟩ ⟨W29_k2 Φ s⟩
def W29_b8 (Φ:EP) (s:St):Prop:=
 @sOp (some 5) (xMov (.int .i64 1) s.H) s<|.mk fun s=>
 @sOp (some 6) (xMov (.int .i64 0) s.H) s<|.mk fun s=>
 @sLoop s ⟨fun L0 s=>W29_l7 Φ L0 s⟩
def W29 (Φ:EP) (s:St):Prop:=
 @sOp (some 2) (xBox 2 69 (s.τ 0) s.H) s<|.mk fun s=>
 @sOp (some 4) (xMov (.int .i64 0) s.H) s<|.mk fun s=>
 @sMv 7 1 s<|.mk fun s=>
 @sOp (some 8) (xBin .gtr false (s.τ 7) (.int .i64 8) s.H) s<|.mk fun s=>
 @sMv 9 8 s<|.mk fun s=>
 @sGf 10 3 2 9 false s<|.mk fun s=>
 @sGl 11 1 10 9 false false s<|.mk fun s=>
 @sGrd (guardOf (s.τ 9) false) (some 12) s ⟨fun s K=>@sCall Tryz.prog (.func 64 []) [(s.τ 11)] (some 12) s ⟨K⟩⟩<|.mk fun s=>
 @sGo 13 9 false s (fun s=>(xNot (s.τ 12) s.H))<|.mk fun s=>
 @sOp (some 14) (xPick (s.τ 9) (.bool true) (s.τ 13) s.H) s<|.mk fun s=>
 @sIf (s.τ 14) ⟨W29_b1 Φ s⟩ ⟨W29_b8 Φ s⟩
theorem W29_rs (τ:Nat → AV) (H:Heap):resV Tryz.prog τ H [.tmp 4] = some (τ 4):=by kernel_rfl
theorem W29_eq (Φ:EP) (s:St):awp Tryz.prog (Tryz.f29.body.getD .skip) Φ s = W29 Φ s:=by kernel_rfl
theorem W29_S {args:List AV} {r:AV} (hl:args.length ≤ 37) (h:∀ vs,W29 (retK Tryz.prog [.tmp 4] r) ⟨Am.look (argT 0 args),hls [] vs,noG⟩):Am.Spec Tryz.prog 29 args r:=.of_W (W:=W29) Tryz.func29 (by kernel_rfl) (by kernel_rfl) (by kernel_rfl) Tryz.ntmps29 W29_eq (by kernel_rfl) hl h
-- 30 "penance/penanceref4.Lower"
def W30_b1 (Φ:EP) (s:St):Prop:=
 @sOp (some 26) (xBuild [.nils,.int .i64 0,.nils,.int .i64 0] [] s.H) s<|.mk fun s=>
 @sOp none (xStore 4 (s.τ 2) (s.τ 26) s.H) s<|.mk fun s=>
 @sOp (some 3) (xMov (.int .i64 3) s.H) s<|.mk fun s=>
 Φ .ret s
def W30_b2 (Φ:EP) (s:St):Prop:=
 @sOp (some 43) (xBuild [.nils,.int .i64 0,.nils,.int .i64 0] [] s.H) s<|.mk fun s=>
 @sOp none (xStore 4 (s.τ 2) (s.τ 43) s.H) s<|.mk fun s=>
 @sOp (some 3) (xMov (.int .i64 5) s.H) s<|.mk fun s=>
 Φ .ret s
def W30_b3 (Φ:EP) (s:St):Prop:=
 @sOp (some 99) (xBuild [.nils,.int .i64 0,.nils,.int .i64 0] [] s.H) s<|.mk fun s=>
 @sOp none (xStore 4 (s.τ 2) (s.τ 99) s.H) s<|.mk fun s=>
 @sOp (some 3) (xMov (.int .i64 4) s.H) s<|.mk fun s=>
 Φ .ret s
def W30_b4 (Φ:EP) (s:St):Prop:=
 @sOp (some 104) (xBuild [.nils,.int .i64 0,.nils,.int .i64 0] [] s.H) s<|.mk fun s=>
 @sOp none (xStore 4 (s.τ 2) (s.τ 104) s.H) s<|.mk fun s=>
 @sOp (some 3) (xMov (.int .i64 6) s.H) s<|.mk fun s=>
 Φ .ret s
def W30_b5 (Φ:EP) (s:St):Prop:=
 @sOp (some 108) (xBuild [.nils,.int .i64 0,.nils,.int .i64 0] [] s.H) s<|.mk fun s=>
 @sOp none (xStore 4 (s.τ 2) (s.τ 108) s.H) s<|.mk fun s=>
 @sOp (some 3) (xMov (.int .i64 7) s.H) s<|.mk fun s=>
 Φ .ret s
def W30_b6 (Φ:EP) (s:St):Prop:=
 @sLd 109 4 7 true s<|.mk fun s=>
 @sOp none (xStore 4 (s.τ 2) (s.τ 109) s.H) s<|.mk fun s=>
 @sOp (some 3) (xMov (.int .i64 0) s.H) s<|.mk fun s=>
 Φ .ret s
def W30_b8 (Φ:EP) (s:St):Prop:=
 @sLd 106 3 1 true s<|.mk fun s=>
 @sCall Tryz.prog (.func 69 []) [(s.τ 106)] (some 107) s<|.mk fun s=>
 @sMv 105 107 s<|.mk fun s=>
 @sIf (s.τ 105) ⟨W30_b5 Φ s⟩ ⟨W30_b6 Φ s⟩
def W30_b9 (Φ:EP) (s:St):Prop:=
 @sFl 101 3 7 s<|.mk fun s=>
 @sLd 102 1 101 false s<|.mk fun s=>
 @sOp (some 103) (xBin .lss false (s.τ 102) (.int .i64 0) s.H) s<|.mk fun s=>
 @sMv 100 103 s<|.mk fun s=>
 @sIf (s.τ 100) ⟨W30_b4 Φ s⟩ ⟨W30_b8 Φ s⟩
def W30_k10 (Φ:EP) (s:St):Prop:=
 @sMv 95 6 s<|.mk fun s=>
 @sOp (some 96) (xNil (s.τ 95) s.H) s<|.mk fun s=>
 @sFl 97 3 96 s<|.mk fun s=>
 @sLd 98 1 97 false s<|.mk fun s=>
 @sMv 94 98 s<|.mk fun s=>
 @sIf (s.τ 94) ⟨W30_b3 Φ s⟩ ⟨W30_b9 Φ s⟩
def W30_b12 (Φ:EP) (L0:SP) (s:St):Prop:=
 @sFl 81 2 7 s<|.mk fun u1=>
 @sLd 82 1 81 false u1<|.mk fun u2=>
 @sMv 83 6 u2<|.mk fun u3=>
 @sFl 84 2 1 u3<|.mk fun u4=>
 @sLd 85 1 84 false u4<|.mk fun u5=>
 @sMv 86 9 u5<|.mk fun u6=>
 @sOp (some 87) (xIx 9 (u6.τ 85) (u6.τ 86) u6.H) u6<|.mk fun u7=>
 @sFl 88 1 87 u7<|.mk fun u8=>
 @sLd 89 8 88 true u8<|.mk fun u9=>
 @sChk (compat (occ (s.τ 7),[]) (cfp 90 68 [(u9.τ 83),(u9.τ 89)])) <| .mk <|
 @sChk (compat (occ (u1.τ 81),[]) (cfp 90 68 [(u9.τ 83),(u9.τ 89)])) <| .mk <|
 @sCall0 Tryz.prog (.func 68 []) [(u9.τ 83),(u9.τ 89)] (some 90) u9<|.mk fun u10=>
 @sChk (compat (occ (s.τ 7),[]) ([91] ++ occL [(u10.τ 90)],[91] ++ occL [(u10.τ 90)])) <| .mk <|
 @sChk (compat (occ (u1.τ 81),[]) ([91] ++ occL [(u10.τ 90)],[91] ++ occL [(u10.τ 90)])) <| .mk <|
 @sOp (some 91) (xLit 9 1 [.int .i64 0,.int .i64 0,.int .i64 0,.str ⟨#[]⟩,.int .i64 0,.int .i64 0,.str ⟨#[]⟩,.nils,.nils] [(0,(u10.τ 90))] u10.H) u10<|.mk fun u11=>
 @sOp (some 92) (xApp Tryz.prog 35 9 120 (some 92) (u11.τ 82) (u11.τ 91) u11.H) u11<|.mk fun u12=>
 @sFl 93 2 7 u12<|.mk fun u13=>
 @sOp none (xStore 1 (u13.τ 93) (u13.τ 92) u13.H) u13<|.mk fun s=>
 @sMv 79 9 s<|.mk fun s=>
 @sOp (some 80) (xBin .add false (s.τ 79) (.int .i64 1) s.H) s<|.mk fun s=>
 @sMv 9 80 s<|.mk fun s=>
 L0 s
def W30_l13 (Φ:EP) (L0:SP) (s:St):Prop:=
 @sMv 74 9 s<|.mk fun s=>
 @sFl 75 2 1 s<|.mk fun s=>
 @sLd 76 1 75 false s<|.mk fun s=>
 @sOp (some 77) (xLen (s.τ 76) s.H) s<|.mk fun s=>
 @sOp (some 78) (xBin .lss false (s.τ 74) (s.τ 77) s.H) s<|.mk fun s=>
 @sIf (s.τ 78) ⟨W30_b12 Φ L0 s⟩ ⟨W30_k10 Φ s⟩
def W30_k14 (Φ:EP) (s:St):Prop:=
 @sOp (some 9) (xMov (.int .i64 0) s.H) s<|.mk fun s=>
 @sLoop s ⟨fun L0 s=>W30_l13 Φ L0 s⟩
def W30_b15 (Φ:EP) (L0:SP) (s:St):Prop:=
 @sFl 63 0 7 s<|.mk fun u1=>
 @sLd 64 1 63 false u1<|.mk fun u2=>
 @sFl 65 0 1 u2<|.mk fun u3=>
 @sLd 66 1 65 false u3<|.mk fun u4=>
 @sMv 67 8 u4<|.mk fun u5=>
 @sOp (some 68) (xIx 2 (u5.τ 66) (u5.τ 67) u5.H) u5<|.mk fun u6=>
 @sFl 69 1 68 u6<|.mk fun u7=>
 @sLd 70 1 69 false u7<|.mk fun u8=>
 @sChk (compat (occ (s.τ 7),[]) ([71] ++ occL [(u8.τ 70)],[71] ++ occL [(u8.τ 70)])) <| .mk <|
 @sChk (compat (occ (u1.τ 63),[]) ([71] ++ occL [(u8.τ 70)],[71] ++ occL [(u8.τ 70)])) <| .mk <|
 @sOp (some 71) (xLit 1 1 [.int .i64 0] [(0,(u8.τ 70))] u8.H) u8<|.mk fun u9=>
 @sOp (some 72) (xApp Tryz.prog 3 1 8 (some 72) (u9.τ 64) (u9.τ 71) u9.H) u9<|.mk fun u10=>
 @sFl 73 0 7 u10<|.mk fun u11=>
 @sOp none (xStore 1 (u11.τ 73) (u11.τ 72) u11.H) u11<|.mk fun s=>
 @sMv 61 8 s<|.mk fun s=>
 @sOp (some 62) (xBin .add false (s.τ 61) (.int .i64 1) s.H) s<|.mk fun s=>
 @sMv 8 62 s<|.mk fun s=>
 L0 s
def W30_l16 (Φ:EP) (L0:SP) (s:St):Prop:=
 @sMv 56 8 s<|.mk fun s=>
 @sFl 57 0 1 s<|.mk fun s=>
 @sLd 58 1 57 false s<|.mk fun s=>
 @sOp (some 59) (xLen (s.τ 58) s.H) s<|.mk fun s=>
 @sOp (some 60) (xBin .lss false (s.τ 56) (s.τ 59) s.H) s<|.mk fun s=>
 @sIf (s.τ 60) ⟨W30_b15 Φ L0 s⟩ ⟨W30_k14 Φ s⟩
def W30_b18 (Φ:EP) (s:St):Prop:=
 @sMv 44 4 s<|.mk fun s=>
 @sFl 45 1 1 s<|.mk fun s=>
 @sLd 46 1 45 false s<|.mk fun s=>
 @sMv 47 5 s<|.mk fun s=>
 @sOp (some 48) (xBuild [.nils,.nils,.nils,.bool false] [(0,1,(s.τ 44)),(1,1,(s.τ 46)),(2,1,(s.τ 47))] s.H) s<|.mk fun s=>
 @sOp (some 49) (xBox 49 118 (s.τ 48) s.H) s<|.mk fun s=>
 @sMv 6 49 s<|.mk fun s=>
 @sFl 50 1 1 s<|.mk fun u1=>
 @sLd 51 1 50 false u1<|.mk fun u2=>
 @sOp (some 52) (xLen (u2.τ 51) u2.H) u2<|.mk fun u3=>
 @sMv 53 5 u3<|.mk fun u4=>
 @sChk (compat (occ (s.τ 1),[]) ([54] ++ (occ (.func 67 []) ++ occL [(u4.τ 53),(.str ⟨#[109,97,105,110]⟩)]),[54] ++ (occ (.func 67 []) ++ occL [(u4.τ 53),(.str ⟨#[109,97,105,110]⟩)]))) <| .mk <|
 @sChk (compat (occ (u1.τ 50),[]) ([54] ++ (occ (.func 67 []) ++ occL [(u4.τ 53),(.str ⟨#[109,97,105,110]⟩)]),[54] ++ (occ (.func 67 []) ++ occL [(u4.τ 53),(.str ⟨#[109,97,105,110]⟩)]))) <| .mk <|
 @sChk (compat (occ (u2.τ 51),[]) ([54] ++ (occ (.func 67 []) ++ occL [(u4.τ 53),(.str ⟨#[109,97,105,110]⟩)]),[54] ++ (occ (.func 67 []) ++ occL [(u4.τ 53),(.str ⟨#[109,97,105,110]⟩)]))) <| .mk <|
 @sCall0 Tryz.prog (.func 67 []) [(u4.τ 53),(.str ⟨#[109,97,105,110]⟩)] (some 54) u4<|.mk fun u5=>
 @sOp (some 55) (xBuild [.nils,.int .i64 0,.nils,.int .i64 0] [(1,1,(u5.τ 52)),(3,1,(u5.τ 54))] u5.H) u5<|.mk fun u6=>
 @sChk (compat (occ (s.τ 1),[]) ([7],[7])) <| .mk <|
 @sChk (compat (occ (u1.τ 50),[]) ([7],[7])) <| .mk <|
 @sChk (compat (occ (u2.τ 51),[]) ([7],[7])) <| .mk <|
 @sChk (compat ([54] ++ (occ (.func 67 []) ++ occL [(u4.τ 53),(.str ⟨#[109,97,105,110]⟩)]),[54] ++ (occ (.func 67 []) ++ occL [(u4.τ 53),(.str ⟨#[109,97,105,110]⟩)])) ([7],[7])) <| .mk <|
 @sOp (some 7) (xAlloc 7 29 [.nils,.int .i64 0,.nils,.int .i64 0] u6.H) u6<|.mk fun u7=>
 @sOp none (xStore 4 (u7.τ 7) (u7.τ 55) u7.H) u7<|.mk fun s=>
 @sOp (some 8) (xMov (.int .i64 0) s.H) s<|.mk fun s=>
 @sLoop s ⟨fun L0 s=>W30_l16 Φ L0 s⟩
def W30_b26 (Φ:EP) (s:St):Prop:=
 @sLd 28 3 1 true s<|.mk fun s=>
 @sCall Tryz.prog (.func 65 []) [(s.τ 28)] (some 29) s<|.mk fun s=>
 @sMv 27 29 s<|.mk fun s=>
 @sOp (some 30) (xExt (s.τ 27) 0 s.H) s<|.mk fun s=>
 @sOp (some 31) (xExt (s.τ 27) 1 s.H) s<|.mk fun s=>
 @sMv 4 30 s<|.mk fun s=>
 @sMv 5 31 s<|.mk fun s=>
 @sMv 32 4 s<|.mk fun s=>
 @sCall Tryz.prog (.func 66 []) [(s.τ 32)] (some 33) s<|.mk fun s=>
 @sMv 34 33 s<|.mk fun s=>
 @sGf 35 1 1 34 false s<|.mk fun s=>
 @sGl 36 1 35 34 false false s<|.mk fun s=>
 @sGrd (guardOf (s.τ 34) false) (some 37) s ⟨fun s K=>@sCall Tryz.prog (.func 66 []) [(s.τ 36)] (some 37) s ⟨K⟩⟩<|.mk fun s=>
 @sOp (some 38) (xPick (s.τ 34) (.bool true) (s.τ 37) s.H) s<|.mk fun s=>
 @sMv 39 38 s<|.mk fun s=>
 @sGm 40 5 39 false s<|.mk fun s=>
 @sGrd (guardOf (s.τ 39) false) (some 41) s ⟨fun s K=>@sCall Tryz.prog (.func 66 []) [(s.τ 40)] (some 41) s ⟨K⟩⟩<|.mk fun s=>
 @sOp (some 42) (xPick (s.τ 39) (.bool true) (s.τ 41) s.H) s<|.mk fun s=>
 @sIf (s.τ 42) ⟨W30_b2 Φ s⟩ ⟨W30_b18 Φ s⟩
def W30 (Φ:EP) (s:St):Prop:=
 @sOp (some 1) (xBox 1 76 (s.τ 0) s.H) s<|.mk fun s=>
 @sOp (some 2) (xAlloc 2 29 [.nils,.int .i64 0,.nils,.int .i64 0] s.H) s<|.mk fun s=>
 @sOp (some 3) (xMov (.int .i64 0) s.H) s<|.mk fun s=>
 @sFl 10 0 1 s<|.mk fun s=>
 @sLd 11 1 10 false s<|.mk fun s=>
 @sOp (some 12) (xLen (s.τ 11) s.H) s<|.mk fun s=>
 @sOp (some 13) (xBin .gtr false (s.τ 12) (.int .i64 20) s.H) s<|.mk fun s=>
 @sMv 14 13 s<|.mk fun s=>
 @sGf 15 1 1 14 false s<|.mk fun s=>
 @sGl 16 1 15 14 false false s<|.mk fun s=>
 @sGo 17 14 false s (fun s=>(xLen (s.τ 16) s.H))<|.mk fun s=>
 @sGo 18 14 false s (fun s=>(xBin .gtr false (s.τ 17) (.int .i64 10) s.H))<|.mk fun s=>
 @sOp (some 19) (xPick (s.τ 14) (.bool true) (s.τ 18) s.H) s<|.mk fun s=>
 @sMv 20 19 s<|.mk fun s=>
 @sGf 21 2 1 20 false s<|.mk fun s=>
 @sGl 22 1 21 20 false false s<|.mk fun s=>
 @sGo 23 20 false s (fun s=>(xLen (s.τ 22) s.H))<|.mk fun s=>
 @sGo 24 20 false s (fun s=>(xBin .gtr false (s.τ 23) (.int .i64 20) s.H))<|.mk fun s=>
 @sOp (some 25) (xPick (s.τ 20) (.bool true) (s.τ 24) s.H) s<|.mk fun s=>
 @sIf (s.τ 25) ⟨W30_b1 Φ s⟩ ⟨W30_b26 Φ s⟩
theorem W30_rs (τ:Nat → AV) (H:Heap):resV Tryz.prog τ H [.cell 2 29,.tmp 3] = ob (ob (rdV H 4 true (τ 2)) fun v=>ob (ob (some (τ 3)) fun v=>ob (some []) fun vs=>some (v :: vs)) fun vs=>some (v :: vs)) fun vs=>some (.tup vs):=by kernel_rfl
theorem W30_eq (Φ:EP) (s:St):awp Tryz.prog (Tryz.f30.body.getD .skip) Φ s = W30 Φ s:=by kernel_rfl
theorem W30_S {args:List AV} {r:AV} (hl:args.length ≤ 110) (h:∀ vs,W30 (retK Tryz.prog [.cell 2 29,.tmp 3] r) ⟨Am.look (argT 0 args),hls [] vs,noG⟩):Am.Spec Tryz.prog 30 args r:=.of_W (W:=W30) Tryz.func30 (by kernel_rfl) (by kernel_rfl) (by kernel_rfl) Tryz.ntmps30 W30_eq (by kernel_rfl) hl h
-- 31 "(penance/penancelaw3.Shape).Make"
def W31_k1 (Φ:EP) (s:St):Prop:=
 @sLd 57 3 3 true s<|.mk fun s=>
 @sOp none (xStore 3 (s.τ 2) (s.τ 57) s.H) s<|.mk fun s=>
 Φ .ret s
def W31_k2 (Φ:EP) (L0:SP) (s:St):Prop:=
 @sFl 51 2 3 s<|.mk fun s=>
 @sLd 52 1 51 false s<|.mk fun s=>
 @sLd 53 9 6 true s<|.mk fun s=>
 @sOp (some 54) (xLit 9 1 [.str ⟨#[]⟩,.int .i64 0,.str ⟨#[]⟩,.str ⟨#[]⟩,.int .i64 0,.int .i64 0,.str ⟨#[]⟩,.nils,.nils] [(0,(s.τ 53))] s.H) s<|.mk fun s=>
 @sOp (some 55) (xApp Tryz.prog 82 9 136 (some 55) (s.τ 52) (s.τ 54) s.H) s<|.mk fun s=>
 @sFl 56 2 3 s<|.mk fun s=>
 @sOp none (xStore 1 (s.τ 56) (s.τ 55) s.H) s<|.mk fun s=>
 @sMv 32 5 s<|.mk fun s=>
 @sOp (some 33) (xBin .add false (s.τ 32) (.int .i64 1) s.H) s<|.mk fun s=>
 @sMv 5 33 s<|.mk fun s=>
 L0 s
def W31_b4 (Φ:EP) (L0:SP) (s:St):Prop:=
 @sFl 44 2 1 s<|.mk fun s=>
 @sLd 45 1 44 false s<|.mk fun s=>
 @sMv 46 5 s<|.mk fun s=>
 @sOp (some 47) (xIx 5 (s.τ 45) (s.τ 46) s.H) s<|.mk fun s=>
 @sLd 48 5 47 true s<|.mk fun s=>
 @sCall Tryz.prog (.func 74 []) [(s.τ 48),(.int .i64 0)] (some 49) s<|.mk fun s=>
 @sFl 50 1 6 s<|.mk fun s=>
 @sOp none (xStore 8 (s.τ 50) (s.τ 49) s.H) s<|.mk fun s=>
 W31_k2 Φ L0 s
def W31_b6 (Φ:EP) (L0:SP) (s:St):Prop:=
 @sCall Tryz.prog (.func 73 []) [] (some 34) s<|.mk fun s=>
 @sMv 35 5 s<|.mk fun s=>
 @sOp (some 36) (xIx 1 (s.τ 34) (s.τ 35) s.H) s<|.mk fun s=>
 @sLd 37 1 36 false s<|.mk fun s=>
 @sOp (some 38) (xBuild [.str ⟨#[]⟩,.int .i64 0,.str ⟨#[]⟩,.str ⟨#[]⟩,.int .i64 0,.int .i64 0,.str ⟨#[]⟩,.nils,.nils] [(0,1,(s.τ 37))] s.H) s<|.mk fun s=>
 @sOp (some 6) (xAlloc 6 82 [.str ⟨#[]⟩,.int .i64 0,.str ⟨#[]⟩,.str ⟨#[]⟩,.int .i64 0,.int .i64 0,.str ⟨#[]⟩,.nils,.nils] s.H) s<|.mk fun s=>
 @sOp none (xStore 9 (s.τ 6) (s.τ 38) s.H) s<|.mk fun s=>
 @sMv 39 5 s<|.mk fun s=>
 @sFl 40 2 1 s<|.mk fun s=>
 @sLd 41 1 40 false s<|.mk fun s=>
 @sOp (some 42) (xLen (s.τ 41) s.H) s<|.mk fun s=>
 @sOp (some 43) (xBin .lss false (s.τ 39) (s.τ 42) s.H) s<|.mk fun s=>
 @sIf (s.τ 43) ⟨W31_b4 Φ L0 s⟩ ⟨W31_k2 Φ L0 s⟩
def W31_l7 (Φ:EP) (L0:SP) (s:St):Prop:=
 @sMv 30 5 s<|.mk fun s=>
 @sOp (some 31) (xBin .lss false (s.τ 30) (.int .i64 5) s.H) s<|.mk fun s=>
 @sIf (s.τ 31) ⟨W31_b6 Φ L0 s⟩ ⟨W31_k1 Φ s⟩
def W31_k8 (Φ:EP) (s:St):Prop:=
 @sOp (some 5) (xMov (.int .i64 0) s.H) s<|.mk fun s=>
 @sLoop s ⟨fun L0 s=>W31_l7 Φ L0 s⟩
def W31_b11 (Φ:EP) (L0:SP) (s:St):Prop:=
 @sFl 13 0 3 s<|.mk fun u1=>
 @sLd 14 1 13 false u1<|.mk fun u2=>
 @sChk (compat (occ (s.τ 3),[]) (cfp 15 71 [])) <| .mk <|
 @sChk (compat (occ (u1.τ 13),[]) (cfp 15 71 [])) <| .mk <|
 @sCall0 Tryz.prog (.func 71 []) [] (some 15) u2<|.mk fun u3=>
 @sMv 16 4 u3<|.mk fun u4=>
 @sOp (some 17) (xIx 1 (u4.τ 15) (u4.τ 16) u4.H) u4<|.mk fun u5=>
 @sLd 18 1 17 false u5<|.mk fun u6=>
 @sChk (compat (cfp 15 71 []) (occ (u6.τ 1),[])) <| .mk <|
 @sFl 19 0 1 u6<|.mk fun u7=>
 @sChk (compat (cfp 15 71 []) (occ (u7.τ 19),[])) <| .mk <|
 @sLd 20 1 19 false u7<|.mk fun u8=>
 @sMv 21 4 u8<|.mk fun u9=>
 @sOp (some 22) (xBin .add false (u9.τ 21) (.int .i64 1) u9.H) u9<|.mk fun u10=>
 @sOp (some 23) (xBin .quo false (u10.τ 20) (u10.τ 22) u10.H) u10<|.mk fun u11=>
 @sChk (compat (occ (s.τ 3),[]) (cfp 24 72 [(u11.τ 23),(.int .i64 9)])) <| .mk <|
 @sChk (compat (occ (u1.τ 13),[]) (cfp 24 72 [(u11.τ 23),(.int .i64 9)])) <| .mk <|
 @sChk (compat (occ (u4.τ 15),[]) (cfp 24 72 [(u11.τ 23),(.int .i64 9)])) <| .mk <|
 @sChk (compat (occ (u5.τ 17),[]) (cfp 24 72 [(u11.τ 23),(.int .i64 9)])) <| .mk <|
 @sCall0 Tryz.prog (.func 72 []) [(u11.τ 23),(.int .i64 9)] (some 24) u11<|.mk fun u12=>
 @sOp (some 25) (xBin .sub false (u12.τ 24) (.int .i64 4) u12.H) u12<|.mk fun u13=>
 @sOp (some 26) (xBuild [.str ⟨#[]⟩,.int .i64 0] [(0,1,(u13.τ 18)),(1,1,(u13.τ 25))] u13.H) u13<|.mk fun u14=>
 @sChk (compat (occ (s.τ 3),[]) ([27] ++ occL [(u14.τ 26)],[27] ++ occL [(u14.τ 26)])) <| .mk <|
 @sChk (compat (occ (u1.τ 13),[]) ([27] ++ occL [(u14.τ 26)],[27] ++ occL [(u14.τ 26)])) <| .mk <|
 @sOp (some 27) (xLit 2 1 [.str ⟨#[]⟩,.int .i64 0] [(0,(u14.τ 26))] u14.H) u14<|.mk fun u15=>
 @sOp (some 28) (xApp Tryz.prog 121 2 24 (some 28) (u15.τ 14) (u15.τ 27) u15.H) u15<|.mk fun u16=>
 @sFl 29 0 3 u16<|.mk fun u17=>
 @sOp none (xStore 1 (u17.τ 29) (u17.τ 28) u17.H) u17<|.mk fun s=>
 @sMv 11 4 s<|.mk fun s=>
 @sOp (some 12) (xBin .add false (s.τ 11) (.int .i64 1) s.H) s<|.mk fun s=>
 @sMv 4 12 s<|.mk fun s=>
 L0 s
def W31_l12 (Φ:EP) (L0:SP) (s:St):Prop:=
 @sMv 9 4 s<|.mk fun s=>
 @sOp (some 10) (xBin .lss false (s.τ 9) (.int .i64 3) s.H) s<|.mk fun s=>
 @sIf (s.τ 10) ⟨W31_b11 Φ L0 s⟩ ⟨W31_k8 Φ s⟩
def W31 (Φ:EP) (s:St):Prop:=
 @sOp (some 1) (xBox 1 24 (s.τ 0) s.H) s<|.mk fun s=>
 @sOp (some 2) (xAlloc 2 76 [.nils,.nils,.nils] s.H) s<|.mk fun s=>
 @sCall Tryz.prog (.func 70 []) [] (some 7) s<|.mk fun s=>
 @sOp (some 8) (xBuild [.nils,.nils,.nils] [(1,1,(s.τ 7))] s.H) s<|.mk fun s=>
 @sOp (some 3) (xAlloc 3 76 [.nils,.nils,.nils] s.H) s<|.mk fun s=>
 @sOp none (xStore 3 (s.τ 3) (s.τ 8) s.H) s<|.mk fun s=>
 @sOp (some 4) (xMov (.int .i64 0) s.H) s<|.mk fun s=>
 @sLoop s ⟨fun L0 s=>W31_l12 Φ L0 s⟩
theorem W31_rs (τ:Nat → AV) (H:Heap):resV Tryz.prog τ H [.cell 2 76] = rdV H 3 true (τ 2):=by kernel_rfl
theorem W31_eq (Φ:EP) (s:St):awp Tryz.prog (Tryz.f31.body.getD .skip) Φ s = W31 Φ s:=by kernel_rfl
theorem W31_S {args:List AV} {r:AV} (hl:args.length ≤ 58) (h:∀ vs,W31 (retK Tryz.prog [.cell 2 76] r) ⟨Am.look (argT 0 args),hls [] vs,noG⟩):Am.Spec Tryz.prog 31 args r:=.of_W (W:=W31) Tryz.func31 (by kernel_rfl) (by kernel_rfl) (by kernel_rfl) Tryz.ntmps31 W31_eq (by kernel_rfl) hl h
-- 32 "penance/term.Norm"
def W32_b2 (Φ:EP) (s:St):Prop:=
 @sFl 26 8 1 s<|.mk fun s=>
 @sLd 27 1 26 false s<|.mk fun s=>
 @sOp (some 28) (xIx 9 (s.τ 27) (.int .i64 1) s.H) s<|.mk fun s=>
 @sLd 29 9 28 true s<|.mk fun s=>
 @sCall Tryz.prog (.func 32 []) [(s.τ 29)] (some 30) s<|.mk fun s=>
 @sOp none (xStore 9 (s.τ 2) (s.τ 30) s.H) s<|.mk fun s=>
 Φ .ret s
def W32_b4 (Φ:EP) (s:St):Prop:=
 @sLd 31 9 4 true s<|.mk fun u1=>
 @sFl 32 8 1 u1<|.mk fun u2=>
 @sLd 33 1 32 false u2<|.mk fun u3=>
 @sOp (some 34) (xIx 9 (u3.τ 33) (.int .i64 1) u3.H) u3<|.mk fun u4=>
 @sLd 35 9 34 true u4<|.mk fun u5=>
 @sChk (compat (occ (s.τ 4),[]) (cfp 36 76 [(u5.τ 35)])) <| .mk <|
 @sCall0 Tryz.prog (.func 76 []) [(u5.τ 35)] (some 36) u5<|.mk fun u6=>
 @sOp (some 37) (xLit 9 2 [.int .i64 0,.int .i64 0,.int .i64 0,.str ⟨#[]⟩,.int .i64 0,.int .i64 0,.str ⟨#[]⟩,.nils,.nils] [(0,(u6.τ 31)),(1,(u6.τ 36))] u6.H) u6<|.mk fun u7=>
 @sOp (some 38) (xBuild [.int .i64 0,.int .i64 0,.int .i64 0,.str ⟨#[]⟩,.int .i64 0,.int .i64 0,.str ⟨#[]⟩,.nils,.nils] [(0,1,(.int .i64 12)),(8,1,(u7.τ 37))] u7.H) u7<|.mk fun u8=>
 @sOp none (xStore 9 (u8.τ 2) (u8.τ 38) u8.H) u8<|.mk fun s=>
 Φ .ret s
def W32_b7 (Φ:EP) (s:St):Prop:=
 @sFl 18 8 1 s<|.mk fun s=>
 @sLd 19 1 18 false s<|.mk fun s=>
 @sOp (some 20) (xIx 9 (s.τ 19) (.int .i64 0) s.H) s<|.mk fun s=>
 @sLd 21 9 20 true s<|.mk fun s=>
 @sCall Tryz.prog (.func 32 []) [(s.τ 21)] (some 22) s<|.mk fun s=>
 @sOp (some 4) (xAlloc 4 35 [.int .i64 0,.int .i64 0,.int .i64 0,.str ⟨#[]⟩,.int .i64 0,.int .i64 0,.str ⟨#[]⟩,.nils,.nils] s.H) s<|.mk fun s=>
 @sOp none (xStore 9 (s.τ 4) (s.τ 22) s.H) s<|.mk fun s=>
 @sMv 23 3 s<|.mk fun s=>
 @sLd 24 9 4 true s<|.mk fun s=>
 @sCall Tryz.prog (s.τ 23) [(s.τ 24)] (some 25) s<|.mk fun s=>
 @sIf (s.τ 25) ⟨W32_b2 Φ s⟩ ⟨W32_b4 Φ s⟩
def W32_b8 (Φ:EP) (s:St):Prop:=
 @sOp (some 67) (xBuild [.int .i64 0,.int .i64 0,.int .i64 0,.str ⟨#[]⟩,.int .i64 0,.int .i64 0,.str ⟨#[]⟩,.nils,.nils] [] s.H) s<|.mk fun s=>
 @sOp none (xStore 9 (s.τ 2) (s.τ 67) s.H) s<|.mk fun s=>
 Φ .ret s
def W32_b9 (Φ:EP) (s:St):Prop:=
 @sLd 68 9 5 true s<|.mk fun s=>
 @sLd 69 9 6 true s<|.mk fun s=>
 @sOp (some 70) (xLit 9 2 [.int .i64 0,.int .i64 0,.int .i64 0,.str ⟨#[]⟩,.int .i64 0,.int .i64 0,.str ⟨#[]⟩,.nils,.nils] [(0,(s.τ 68)),(1,(s.τ 69))] s.H) s<|.mk fun s=>
 @sOp (some 71) (xBuild [.int .i64 0,.int .i64 0,.int .i64 0,.str ⟨#[]⟩,.int .i64 0,.int .i64 0,.str ⟨#[]⟩,.nils,.nils] [(0,1,(.int .i64 11)),(8,1,(s.τ 70))] s.H) s<|.mk fun s=>
 @sOp none (xStore 9 (s.τ 2) (s.τ 71) s.H) s<|.mk fun s=>
 Φ .ret s
def W32_b16 (Φ:EP) (s:St):Prop:=
 @sFl 49 8 1 s<|.mk fun u1=>
 @sLd 50 1 49 false u1<|.mk fun u2=>
 @sOp (some 51) (xIx 9 (u2.τ 50) (.int .i64 0) u2.H) u2<|.mk fun u3=>
 @sLd 52 9 51 true u3<|.mk fun u4=>
 @sCall0 Tryz.prog (.func 32 []) [(u4.τ 52)] (some 53) u4<|.mk fun u5=>
 @sChk (compat (cfp 53 32 [(u4.τ 52)]) (occ (u5.τ 1),[])) <| .mk <|
 @sFl 54 8 1 u5<|.mk fun u6=>
 @sChk (compat (cfp 53 32 [(u4.τ 52)]) (occ (u6.τ 54),[])) <| .mk <|
 @sLd 55 1 54 false u6<|.mk fun u7=>
 @sChk (compat (cfp 53 32 [(u4.τ 52)]) (occ (u7.τ 55),[])) <| .mk <|
 @sOp (some 56) (xIx 9 (u7.τ 55) (.int .i64 1) u7.H) u7<|.mk fun u8=>
 @sChk (compat (cfp 53 32 [(u4.τ 52)]) (occ (u8.τ 56),[])) <| .mk <|
 @sLd 57 9 56 true u8<|.mk fun u9=>
 @sCall0 Tryz.prog (.func 32 []) [(u9.τ 57)] (some 58) u9<|.mk fun u10=>
 @sChk (compat (occ (s.τ 1),[]) ([5],[5])) <| .mk <|
 @sChk (compat (occ (u1.τ 49),[]) ([5],[5])) <| .mk <|
 @sChk (compat (occ (u2.τ 50),[]) ([5],[5])) <| .mk <|
 @sChk (compat (occ (u3.τ 51),[]) ([5],[5])) <| .mk <|
 @sChk (compat (cfp 53 32 [(u4.τ 52)]) ([5],[5])) <| .mk <|
 @sChk (compat (occ (u5.τ 1),[]) ([5],[5])) <| .mk <|
 @sChk (compat (occ (u6.τ 54),[]) ([5],[5])) <| .mk <|
 @sChk (compat (occ (u7.τ 55),[]) ([5],[5])) <| .mk <|
 @sChk (compat (occ (u8.τ 56),[]) ([5],[5])) <| .mk <|
 @sChk (compat (cfp 58 32 [(u9.τ 57)]) ([5],[5])) <| .mk <|
 @sOp (some 5) (xAlloc 5 35 [.int .i64 0,.int .i64 0,.int .i64 0,.str ⟨#[]⟩,.int .i64 0,.int .i64 0,.str ⟨#[]⟩,.nils,.nils] u10.H) u10<|.mk fun u11=>
 @sChk (compat (occ (s.τ 1),[]) ([6],[6])) <| .mk <|
 @sChk (compat (occ (u1.τ 49),[]) ([6],[6])) <| .mk <|
 @sChk (compat (occ (u2.τ 50),[]) ([6],[6])) <| .mk <|
 @sChk (compat (occ (u3.τ 51),[]) ([6],[6])) <| .mk <|
 @sChk (compat (cfp 53 32 [(u4.τ 52)]) ([6],[6])) <| .mk <|
 @sChk (compat (occ (u5.τ 1),[]) ([6],[6])) <| .mk <|
 @sChk (compat (occ (u6.τ 54),[]) ([6],[6])) <| .mk <|
 @sChk (compat (occ (u7.τ 55),[]) ([6],[6])) <| .mk <|
 @sChk (compat (occ (u8.τ 56),[]) ([6],[6])) <| .mk <|
 @sChk (compat (cfp 58 32 [(u9.τ 57)]) ([6],[6])) <| .mk <|
 @sChk (compat ([5],[5]) ([6],[6])) <| .mk <|
 @sOp (some 6) (xAlloc 6 35 [.int .i64 0,.int .i64 0,.int .i64 0,.str ⟨#[]⟩,.int .i64 0,.int .i64 0,.str ⟨#[]⟩,.nils,.nils] u11.H) u11<|.mk fun u12=>
 @sOp none (xStore 9 (u12.τ 5) (u12.τ 53) u12.H) u12<|.mk fun u13=>
 @sOp none (xStore 9 (u13.τ 6) (u13.τ 58) u13.H) u13<|.mk fun s=>
 @sMv 59 3 s<|.mk fun s=>
 @sLd 60 9 5 true s<|.mk fun s=>
 @sCall Tryz.prog (s.τ 59) [(s.τ 60)] (some 61) s<|.mk fun s=>
 @sMv 62 61 s<|.mk fun s=>
 @sGm 63 3 62 true s<|.mk fun s=>
 @sGl 64 9 6 62 true true s<|.mk fun s=>
 @sGrd (guardOf (s.τ 62) true) (some 65) s ⟨fun s K=>@sCall Tryz.prog (s.τ 63) [(s.τ 64)] (some 65) s ⟨K⟩⟩<|.mk fun s=>
 @sOp (some 66) (xPick (s.τ 62) (s.τ 65) (.bool false) s.H) s<|.mk fun s=>
 @sIf (s.τ 66) ⟨W32_b8 Φ s⟩ ⟨W32_b9 Φ s⟩
def W32_b17 (Φ:EP) (s:St):Prop:=
 @sOp (some 90) (xBuild [.int .i64 0,.int .i64 0,.int .i64 0,.str ⟨#[]⟩,.int .i64 0,.int .i64 0,.str ⟨#[]⟩,.nils,.nils] [] s.H) s<|.mk fun s=>
 @sOp none (xStore 9 (s.τ 2) (s.τ 90) s.H) s<|.mk fun s=>
 Φ .ret s
def W32_b18 (Φ:EP) (s:St):Prop:=
 @sLd 91 9 7 true s<|.mk fun s=>
 @sOp (some 92) (xLit 9 1 [.int .i64 0,.int .i64 0,.int .i64 0,.str ⟨#[]⟩,.int .i64 0,.int .i64 0,.str ⟨#[]⟩,.nils,.nils] [(0,(s.τ 91))] s.H) s<|.mk fun s=>
 @sOp (some 93) (xBuild [.int .i64 0,.int .i64 0,.int .i64 0,.str ⟨#[]⟩,.int .i64 0,.int .i64 0,.str ⟨#[]⟩,.nils,.nils] [(0,1,(.int .i64 7)),(8,1,(s.τ 92))] s.H) s<|.mk fun s=>
 @sOp none (xStore 9 (s.τ 2) (s.τ 93) s.H) s<|.mk fun s=>
 Φ .ret s
def W32_b21 (Φ:EP) (s:St):Prop:=
 @sFl 82 8 1 s<|.mk fun s=>
 @sLd 83 1 82 false s<|.mk fun s=>
 @sOp (some 84) (xIx 9 (s.τ 83) (.int .i64 0) s.H) s<|.mk fun s=>
 @sLd 85 9 84 true s<|.mk fun s=>
 @sCall Tryz.prog (.func 32 []) [(s.τ 85)] (some 86) s<|.mk fun s=>
 @sOp (some 7) (xAlloc 7 35 [.int .i64 0,.int .i64 0,.int .i64 0,.str ⟨#[]⟩,.int .i64 0,.int .i64 0,.str ⟨#[]⟩,.nils,.nils] s.H) s<|.mk fun s=>
 @sOp none (xStore 9 (s.τ 7) (s.τ 86) s.H) s<|.mk fun s=>
 @sMv 87 3 s<|.mk fun s=>
 @sLd 88 9 7 true s<|.mk fun s=>
 @sCall Tryz.prog (s.τ 87) [(s.τ 88)] (some 89) s<|.mk fun s=>
 @sIf (s.τ 89) ⟨W32_b17 Φ s⟩ ⟨W32_b18 Φ s⟩
def W32_b23 (Φ:EP) (s:St):Prop:=
 @sLd 94 9 1 true s<|.mk fun s=>
 @sCall Tryz.prog (.func 76 []) [(s.τ 94)] (some 95) s<|.mk fun s=>
 @sOp none (xStore 9 (s.τ 2) (s.τ 95) s.H) s<|.mk fun s=>
 Φ .ret s
def W32_b28 (Φ:EP) (s:St):Prop:=
 @sFl 73 0 1 s<|.mk fun s=>
 @sLd 74 1 73 false s<|.mk fun s=>
 @sOp (some 75) (xBin .eql false (s.τ 74) (.int .i64 7) s.H) s<|.mk fun s=>
 @sMv 76 75 s<|.mk fun s=>
 @sGf 77 8 1 76 true s<|.mk fun s=>
 @sGl 78 1 77 76 false true s<|.mk fun s=>
 @sGo 79 76 true s (fun s=>(xLen (s.τ 78) s.H))<|.mk fun s=>
 @sGo 80 76 true s (fun s=>(xBin .eql false (s.τ 79) (.int .i64 1) s.H))<|.mk fun s=>
 @sOp (some 81) (xPick (s.τ 76) (s.τ 80) (.bool false) s.H) s<|.mk fun s=>
 @sMv 72 81 s<|.mk fun s=>
 @sIf (s.τ 72) ⟨W32_b21 Φ s⟩ ⟨W32_b23 Φ s⟩
def W32_b33 (Φ:EP) (s:St):Prop:=
 @sFl 40 0 1 s<|.mk fun s=>
 @sLd 41 1 40 false s<|.mk fun s=>
 @sOp (some 42) (xBin .eql false (s.τ 41) (.int .i64 11) s.H) s<|.mk fun s=>
 @sMv 43 42 s<|.mk fun s=>
 @sGf 44 8 1 43 true s<|.mk fun s=>
 @sGl 45 1 44 43 false true s<|.mk fun s=>
 @sGo 46 43 true s (fun s=>(xLen (s.τ 45) s.H))<|.mk fun s=>
 @sGo 47 43 true s (fun s=>(xBin .eql false (s.τ 46) (.int .i64 2) s.H))<|.mk fun s=>
 @sOp (some 48) (xPick (s.τ 43) (s.τ 47) (.bool false) s.H) s<|.mk fun s=>
 @sMv 39 48 s<|.mk fun s=>
 @sIf (s.τ 39) ⟨W32_b16 Φ s⟩ ⟨W32_b28 Φ s⟩
def W32 (Φ:EP) (s:St):Prop:=
 @sOp (some 1) (xBox 1 35 (s.τ 0) s.H) s<|.mk fun s=>
 @sOp (some 2) (xAlloc 2 35 [.int .i64 0,.int .i64 0,.int .i64 0,.str ⟨#[]⟩,.int .i64 0,.int .i64 0,.str ⟨#[]⟩,.nils,.nils] s.H) s<|.mk fun s=>
 @sOp (some 3) (xMov (.func 75 []) s.H) s<|.mk fun s=>
 @sFl 9 0 1 s<|.mk fun s=>
 @sLd 10 1 9 false s<|.mk fun s=>
 @sOp (some 11) (xBin .eql false (s.τ 10) (.int .i64 12) s.H) s<|.mk fun s=>
 @sMv 12 11 s<|.mk fun s=>
 @sGf 13 8 1 12 true s<|.mk fun s=>
 @sGl 14 1 13 12 false true s<|.mk fun s=>
 @sGo 15 12 true s (fun s=>(xLen (s.τ 14) s.H))<|.mk fun s=>
 @sGo 16 12 true s (fun s=>(xBin .eql false (s.τ 15) (.int .i64 2) s.H))<|.mk fun s=>
 @sOp (some 17) (xPick (s.τ 12) (s.τ 16) (.bool false) s.H) s<|.mk fun s=>
 @sMv 8 17 s<|.mk fun s=>
 @sIf (s.τ 8) ⟨W32_b7 Φ s⟩ ⟨W32_b33 Φ s⟩
theorem W32_rs (τ:Nat → AV) (H:Heap):resV Tryz.prog τ H [.cell 2 35] = rdV H 9 true (τ 2):=by kernel_rfl
theorem W32_eq (Φ:EP) (s:St):awp Tryz.prog (Tryz.f32.body.getD .skip) Φ s = W32 Φ s:=by kernel_rfl
theorem W32_S {args:List AV} {r:AV} (hl:args.length ≤ 96) (h:∀ vs,W32 (retK Tryz.prog [.cell 2 35] r) ⟨Am.look (argT 0 args),hls [] vs,noG⟩):Am.Spec Tryz.prog 32 args r:=.of_W (W:=W32) Tryz.func32 (by kernel_rfl) (by kernel_rfl) (by kernel_rfl) Tryz.ntmps32 W32_eq (by kernel_rfl) hl h
-- 33 "slices.Clone[[]int,int]"
def W33_b1 (Φ:EP) (s:St):Prop:=
 @sOp (some 2) (xMov (.nils) s.H) s<|.mk fun s=>
 Φ .ret s
def W33_b2 (Φ:EP) (s:St):Prop:=
 @sOp (some 5) (xRow 5 3 1 0 [.int .i64 0] [] s.H) s<|.mk fun s=>
 @sMv 6 0 s<|.mk fun s=>
 @sOp (some 7) (xApp Tryz.prog 3 1 8 (some 7) (s.τ 5) (s.τ 6) s.H) s<|.mk fun s=>
 @sMv 2 7 s<|.mk fun s=>
 Φ .ret s
def W33 (Φ:EP) (s:St):Prop:=
 @sOp (some 2) (xMov (.nils) s.H) s<|.mk fun s=>
 @sMv 3 0 s<|.mk fun s=>
 @sNil false (s.τ 3) (some 4) s<|.mk fun s=>
 @sIf (s.τ 4) ⟨W33_b1 Φ s⟩ ⟨W33_b2 Φ s⟩
theorem W33_rs (τ:Nat → AV) (H:Heap):resV Tryz.prog τ H [.tmp 2] = some (τ 2):=by kernel_rfl
theorem W33_eq (Φ:EP) (s:St):awp Tryz.prog (Tryz.f33.body.getD .skip) Φ s = W33 Φ s:=by kernel_rfl
theorem W33_S {args:List AV} {r:AV} (hl:args.length ≤ 8) (h:∀ vs,W33 (retK Tryz.prog [.tmp 2] r) ⟨Am.look (argT 0 args),hls [] vs,noG⟩):Am.Spec Tryz.prog 33 args r:=.of_W (W:=W33) Tryz.func33 (by kernel_rfl) (by kernel_rfl) (by kernel_rfl) Tryz.ntmps33 W33_eq (by kernel_rfl) hl h
-- 34 "penance/stacks.Merge"
def W34_k1 (Φ:EP) (s:St):Prop:=
 @sMv 38 7 s<|.mk fun s=>
 @sMv 6 38 s<|.mk fun s=>
 Φ .ret s
def W34_b2 (Φ:EP) (s:St):Prop:=
 @sMv 23 7 s<|.mk fun s=>
 @sMv 24 2 s<|.mk fun s=>
 @sMv 25 7 s<|.mk fun s=>
 @sMv 26 1 s<|.mk fun s=>
 @sMv 27 7 s<|.mk fun s=>
 @sMv 28 2 s<|.mk fun s=>
 @sOp (some 29) (xIx 1 (s.τ 27) (s.τ 28) s.H) s<|.mk fun s=>
 @sLd 30 1 29 false s<|.mk fun s=>
 @sMv 31 7 s<|.mk fun s=>
 @sMv 32 1 s<|.mk fun s=>
 @sOp (some 33) (xIx 1 (s.τ 31) (s.τ 32) s.H) s<|.mk fun s=>
 @sLd 34 1 33 false s<|.mk fun s=>
 @sOp (some 35) (xApp Tryz.prog 35 9 120 (some 35) (s.τ 30) (s.τ 34) s.H) s<|.mk fun s=>
 @sOp (some 36) (xIx 1 (s.τ 23) (s.τ 24) s.H) s<|.mk fun s=>
 @sOp none (xStore 1 (s.τ 36) (s.τ 35) s.H) s<|.mk fun s=>
 @sOp (some 37) (xIx 1 (s.τ 25) (s.τ 26) s.H) s<|.mk fun s=>
 @sOp none (xStore 1 (s.τ 37) (.nils) s.H) s<|.mk fun s=>
 W34_k1 Φ s
def W34 (Φ:EP) (s:St):Prop:=
 @sOp (some 6) (xMov (.nils) s.H) s<|.mk fun s=>
 @sMv 8 0 s<|.mk fun s=>
 @sCall Tryz.prog (.func 77 []) [(s.τ 8)] (some 9) s<|.mk fun s=>
 @sMv 7 9 s<|.mk fun s=>
 @sMv 10 1 s<|.mk fun s=>
 @sMv 11 2 s<|.mk fun s=>
 @sOp (some 12) (xBin .neq false (s.τ 10) (s.τ 11) s.H) s<|.mk fun s=>
 @sMv 13 12 s<|.mk fun s=>
 @sGm 14 7 13 true s<|.mk fun s=>
 @sGm 15 1 13 true s<|.mk fun s=>
 @sGrd (guardOf (s.τ 13) true) (some 16) s ⟨fun s K=>@sCall Tryz.prog (.func 78 []) [(s.τ 14),(s.τ 15)] (some 16) s ⟨K⟩⟩<|.mk fun s=>
 @sOp (some 17) (xPick (s.τ 13) (s.τ 16) (.bool false) s.H) s<|.mk fun s=>
 @sMv 18 17 s<|.mk fun s=>
 @sGm 19 7 18 true s<|.mk fun s=>
 @sGm 20 2 18 true s<|.mk fun s=>
 @sGrd (guardOf (s.τ 18) true) (some 21) s ⟨fun s K=>@sCall Tryz.prog (.func 78 []) [(s.τ 19),(s.τ 20)] (some 21) s ⟨K⟩⟩<|.mk fun s=>
 @sOp (some 22) (xPick (s.τ 18) (s.τ 21) (.bool false) s.H) s<|.mk fun s=>
 @sIf (s.τ 22) ⟨W34_b2 Φ s⟩ ⟨W34_k1 Φ s⟩
theorem W34_rs (τ:Nat → AV) (H:Heap):resV Tryz.prog τ H [.tmp 6] = some (τ 6):=by kernel_rfl
theorem W34_eq (Φ:EP) (s:St):awp Tryz.prog (Tryz.f34.body.getD .skip) Φ s = W34 Φ s:=by kernel_rfl
theorem W34_S {args:List AV} {r:AV} (hl:args.length ≤ 39) (h:∀ vs,W34 (retK Tryz.prog [.tmp 6] r) ⟨Am.look (argT 0 args),hls [] vs,noG⟩):Am.Spec Tryz.prog 34 args r:=.of_W (W:=W34) Tryz.func34 (by kernel_rfl) (by kernel_rfl) (by kernel_rfl) Tryz.ntmps34 W34_eq (by kernel_rfl) hl h
-- 38 "penance/term.Size"
def W38_k1 (Φ:EP) (s:St):Prop:=
 @sMv 18 3 s<|.mk fun s=>
 @sMv 2 18 s<|.mk fun s=>
 Φ .ret s
def W38_b3 (Φ:EP) (L0:SP) (s:St):Prop:=
 @sOp (some 11) (xIx 9 (s.τ 7) (s.τ 9) s.H) s<|.mk fun s=>
 @sLd 12 9 11 true s<|.mk fun s=>
 @sOp (some 5) (xAlloc 5 35 [.int .i64 0,.int .i64 0,.int .i64 0,.str ⟨#[]⟩,.int .i64 0,.int .i64 0,.str ⟨#[]⟩,.nils,.nils] s.H) s<|.mk fun s=>
 @sOp none (xStore 9 (s.τ 5) (s.τ 12) s.H) s<|.mk fun s=>
 @sMv 13 3 s<|.mk fun s=>
 @sLd 14 9 5 true s<|.mk fun s=>
 @sCall Tryz.prog (.func 38 []) [(s.τ 14)] (some 15) s<|.mk fun s=>
 @sOp (some 16) (xBin .add false (s.τ 13) (s.τ 15) s.H) s<|.mk fun s=>
 @sMv 3 16 s<|.mk fun s=>
 @sOp (some 17) (xBin .add false (s.τ 9) (.int .i64 1) s.H) s<|.mk fun s=>
 @sMv 9 17 s<|.mk fun s=>
 L0 s
def W38_l4 (Φ:EP) (L0:SP) (s:St):Prop:=
 @sOp (some 10) (xBin .lss false (s.τ 9) (s.τ 8) s.H) s<|.mk fun s=>
 @sIf (s.τ 10) ⟨W38_b3 Φ L0 s⟩ ⟨W38_k1 Φ s⟩
def W38 (Φ:EP) (s:St):Prop:=
 @sOp (some 1) (xBox 1 35 (s.τ 0) s.H) s<|.mk fun s=>
 @sOp (some 2) (xMov (.int .i64 0) s.H) s<|.mk fun s=>
 @sOp (some 3) (xMov (.int .i64 1) s.H) s<|.mk fun s=>
 @sFl 6 8 1 s<|.mk fun s=>
 @sLd 7 1 6 false s<|.mk fun s=>
 @sOp (some 8) (xLen (s.τ 7) s.H) s<|.mk fun s=>
 @sOp (some 9) (xMov (.int .i64 0) s.H) s<|.mk fun s=>
 @sLoop s ⟨fun L0 s=>W38_l4 Φ L0 s⟩
theorem W38_rs (τ:Nat → AV) (H:Heap):resV Tryz.prog τ H [.tmp 2] = some (τ 2):=by kernel_rfl
theorem W38_eq (Φ:EP) (s:St):awp Tryz.prog (Tryz.f38.body.getD .skip) Φ s = W38 Φ s:=by kernel_rfl
theorem W38_S {args:List AV} {r:AV} (hl:args.length ≤ 19) (h:∀ vs,W38 (retK Tryz.prog [.tmp 2] r) ⟨Am.look (argT 0 args),hls [] vs,noG⟩):Am.Spec Tryz.prog 38 args r:=.of_W (W:=W38) Tryz.func38 (by kernel_rfl) (by kernel_rfl) (by kernel_rfl) Tryz.ntmps38 W38_eq (by kernel_rfl) hl h
-- 39 "penance/run.waits"
def W39_k1 (Φ:EP) (s:St):Prop:=
 @sOp none (xStore 1 (s.τ 2) (.bool false) s.H) s<|.mk fun s=>
 Φ .ret s
def W39_b2 (Φ:EP) (s:St):Prop:=
 @sOp none (xStore 1 (s.τ 2) (.bool true) s.H) s<|.mk fun s=>
 Φ .ret s
def W39_r3 (Φ:EP) (s:St):Prop:=
 @sOp (some 3) (xAlloc 3 35 [.int .i64 0,.int .i64 0,.int .i64 0,.str ⟨#[]⟩,.int .i64 0,.int .i64 0,.str ⟨#[]⟩,.nils,.nils] s.H) s<|.mk fun s=>
 @sOp none (xStore 9 (s.τ 3) (s.τ 6) s.H) s<|.mk fun s=>
 @sFl 7 0 3 s<|.mk fun s=>
 @sLd 8 1 7 false s<|.mk fun s=>
 @sOp (some 9) (xBin .eql false (s.τ 8) (.int .i64 14) s.H) s<|.mk fun s=>
 @sIf (s.τ 9) ⟨W39_b2 Φ s⟩ ⟨Φ .normal s⟩
def W39 (Φ:EP) (s:St):Prop:=
 @sOp (some 1) (xBox 1 35 (s.τ 0) s.H) s<|.mk fun s=>
 @sOp (some 2) (xAlloc 2 4 [.bool false] s.H) s<|.mk fun s=>
 @sLd 4 9 1 true s<|.mk fun s=>
 @sCall Tryz.prog (.func 80 []) [(s.τ 4)] (some 5) s<|.mk fun s=>
 @sRange Tryz.prog (s.τ 5) [6] s ⟨fun Φ s=>W39_r3 Φ s⟩ ⟨(blkK 0 (thenK (W39_k1 Φ) Φ))⟩
theorem W39_rs (τ:Nat → AV) (H:Heap):resV Tryz.prog τ H [.cell 2 4] = rdV H 1 false (τ 2):=by kernel_rfl
theorem W39_eq (Φ:EP) (s:St):awp Tryz.prog (Tryz.f39.body.getD .skip) Φ s = W39 Φ s:=by kernel_rfl
theorem W39_S {args:List AV} {r:AV} (hl:args.length ≤ 10) (h:∀ vs,W39 (retK Tryz.prog [.cell 2 4] r) ⟨Am.look (argT 0 args),hls [] vs,noG⟩):Am.Spec Tryz.prog 39 args r:=.of_W (W:=W39) Tryz.func39 (by kernel_rfl) (by kernel_rfl) (by kernel_rfl) Tryz.ntmps39 W39_eq (by kernel_rfl) hl h
-- 40 "penance/term.Right"
def W40 (Φ:EP) (s:St):Prop:=
 @sOp (some 4) (xBox 4 35 (s.τ 0) s.H) s<|.mk fun s=>
 @sOp (some 8) (xMov (.bool false) s.H) s<|.mk fun s=>
 @sMv 9 1 s<|.mk fun s=>
 @sMv 10 2 s<|.mk fun s=>
 @sMv 11 3 s<|.mk fun s=>
 @sOp (some 12) (xBuild [.int .i64 0,.int .i64 0,.int .i64 0] [(0,1,(s.τ 9)),(1,1,(s.τ 10)),(2,1,(s.τ 11))] s.H) s<|.mk fun s=>
 @sLd 13 9 4 true s<|.mk fun s=>
 @sCall Tryz.prog (.func 81 []) [(s.τ 12),(s.τ 13),(.bool false)] (some 14) s<|.mk fun s=>
 @sMv 8 14 s<|.mk fun s=>
 Φ .ret s
theorem W40_rs (τ:Nat → AV) (H:Heap):resV Tryz.prog τ H [.tmp 8] = some (τ 8):=by kernel_rfl
theorem W40_eq (Φ:EP) (s:St):awp Tryz.prog (Tryz.f40.body.getD .skip) Φ s = W40 Φ s:=by kernel_rfl
theorem W40_S {args:List AV} {r:AV} (hl:args.length ≤ 15) (h:∀ vs,W40 (retK Tryz.prog [.tmp 8] r) ⟨Am.look (argT 0 args),hls [] vs,noG⟩):Am.Spec Tryz.prog 40 args r:=.of_W (W:=W40) Tryz.func40 (by kernel_rfl) (by kernel_rfl) (by kernel_rfl) Tryz.ntmps40 W40_eq (by kernel_rfl) hl h
-- 41 "penance/run.own"
def W41 (Φ:EP) (s:St):Prop:=
 @sOp (some 1) (xBox 1 38 (s.τ 0) s.H) s<|.mk fun s=>
 @sOp (some 2) (xAlloc 2 38 [.int .i64 0,.int .i64 0,.int .i64 0,.str ⟨#[]⟩,.int .i64 0,.int .i64 0,.str ⟨#[]⟩,.nils,.nils,.nils,.nils,.int .i64 0,.int .i64 0] s.H) s<|.mk fun s=>
 @sFl 3 0 1 s<|.mk fun u1=>
 @sLd 4 9 3 true u1<|.mk fun u2=>
 @sCall0 Tryz.prog (.func 32 []) [(u2.τ 4)] (some 5) u2<|.mk fun u3=>
 @sChk (compat (cfp 5 32 [(u2.τ 4)]) (occ (u3.τ 1),[])) <| .mk <|
 @sFl 6 9 1 u3<|.mk fun u4=>
 @sChk (compat (cfp 5 32 [(u2.τ 4)]) (occ (u4.τ 6),[])) <| .mk <|
 @sLd 7 1 6 false u4<|.mk fun u5=>
 @sCall0 Tryz.prog (.func 33 []) [(u5.τ 7)] (some 8) u5<|.mk fun u6=>
 @sChk (compat (cfp 5 32 [(u2.τ 4)]) (occ (u6.τ 1),[])) <| .mk <|
 @sChk (compat (cfp 8 33 [(u5.τ 7)]) (occ (u6.τ 1),[])) <| .mk <|
 @sFl 9 10 1 u6<|.mk fun u7=>
 @sChk (compat (cfp 5 32 [(u2.τ 4)]) (occ (u7.τ 9),[])) <| .mk <|
 @sChk (compat (cfp 8 33 [(u5.τ 7)]) (occ (u7.τ 9),[])) <| .mk <|
 @sLd 10 1 9 false u7<|.mk fun u8=>
 @sCall0 Tryz.prog (.func 34 []) [(u8.τ 10),(.int .i64 0),(.int .i64 0)] (some 11) u8<|.mk fun u9=>
 @sChk (compat (cfp 8 33 [(u5.τ 7)]) (occ (u9.τ 1),[])) <| .mk <|
 @sChk (compat (cfp 11 34 [(u8.τ 10),(.int .i64 0),(.int .i64 0)]) (occ (u9.τ 1),[])) <| .mk <|
 @sFl 12 0 1 u9<|.mk fun u10=>
 @sOp none (xStore 9 (u10.τ 12) (u10.τ 5) u10.H) u10<|.mk fun u11=>
 @sFl 13 9 1 u11<|.mk fun u12=>
 @sOp none (xStore 1 (u12.τ 13) (u12.τ 8) u12.H) u12<|.mk fun u13=>
 @sFl 14 10 1 u13<|.mk fun u14=>
 @sOp none (xStore 1 (u14.τ 14) (u14.τ 11) u14.H) u14<|.mk fun s=>
 @sLd 15 13 1 true s<|.mk fun s=>
 @sOp none (xStore 13 (s.τ 2) (s.τ 15) s.H) s<|.mk fun s=>
 Φ .ret s
theorem W41_rs (τ:Nat → AV) (H:Heap):resV Tryz.prog τ H [.cell 2 38] = rdV H 13 true (τ 2):=by kernel_rfl
theorem W41_eq (Φ:EP) (s:St):awp Tryz.prog (Tryz.f41.body.getD .skip) Φ s = W41 Φ s:=by kernel_rfl
theorem W41_S {args:List AV} {r:AV} (hl:args.length ≤ 16) (h:∀ vs,W41 (retK Tryz.prog [.cell 2 38] r) ⟨Am.look (argT 0 args),hls [] vs,noG⟩):Am.Spec Tryz.prog 41 args r:=.of_W (W:=W41) Tryz.func41 (by kernel_rfl) (by kernel_rfl) (by kernel_rfl) Tryz.ntmps41 W41_eq (by kernel_rfl) hl h
end Go.Proofs.YtnngddgaobhkiaaGreat
set_option linter.unusedVariables false
set_option maxRecDepth 100000
namespace Go.Proofs.YtnngddgaobhkiaaGreat
open Go Go.Am
-- 42 "penance/run.waiting"
def W42_b1 (Φ:EP) (s:St):Prop:=
 @sFl 14 1 2 s<|.mk fun s=>
 @sLd 15 1 14 false s<|.mk fun s=>
 @sMv 16 1 s<|.mk fun s=>
 @sOp (some 17) (xBin .eql false (s.τ 15) (s.τ 16) s.H) s<|.mk fun s=>
 @sOp (some 4) (xMov (.nils) s.H) s<|.mk fun s=>
 @sMv 5 17 s<|.mk fun s=>
 Φ .ret s
def W42_b2 (Φ:EP) (s:St):Prop:=
 @sOp (some 4) (xMov (.nils) s.H) s<|.mk fun s=>
 @sOp (some 5) (xMov (.bool false) s.H) s<|.mk fun s=>
 Φ .ret s
def W42_k3 (Φ:EP) (s:St):Prop:=
 @sOp (some 4) (xMov (.nils) s.H) s<|.mk fun s=>
 @sOp (some 5) (xMov (.bool false) s.H) s<|.mk fun s=>
 Φ .ret s
def W42_b4 (Φ:EP) (L0:SP) (s:St):Prop:=
 @sMv 54 6 s<|.mk fun s=>
 @sOp (some 55) (xRow 55 3 1 1 [.int .i64 0] [(0,(s.τ 54))] s.H) s<|.mk fun s=>
 @sMv 56 8 s<|.mk fun s=>
 @sOp (some 57) (xApp Tryz.prog 3 1 8 (some 57) (s.τ 55) (s.τ 56) s.H) s<|.mk fun s=>
 @sMv 4 57 s<|.mk fun s=>
 @sOp (some 5) (xMov (.bool true) s.H) s<|.mk fun s=>
 Φ .ret s
def W42_b5 (Φ:EP) (L0:SP) (s:St):Prop:=
 @sOp (some 58) (xBin .add false (s.τ 35) (.int .i64 1) s.H) s<|.mk fun s=>
 @sMv 35 58 s<|.mk fun s=>
 L0 s
def W42_b7 (Φ:EP) (L0:SP) (s:St):Prop:=
 @sLd 48 9 7 true s<|.mk fun s=>
 @sMv 49 1 s<|.mk fun s=>
 @sCall Tryz.prog (.func 42 []) [(s.τ 48),(s.τ 49)] (some 50) s<|.mk fun s=>
 @sMv 47 50 s<|.mk fun s=>
 @sOp (some 51) (xExt (s.τ 47) 0 s.H) s<|.mk fun s=>
 @sOp (some 52) (xExt (s.τ 47) 1 s.H) s<|.mk fun s=>
 @sMv 8 51 s<|.mk fun s=>
 @sMv 9 52 s<|.mk fun s=>
 @sMv 53 9 s<|.mk fun s=>
 @sIf (s.τ 53) ⟨W42_b4 Φ L0 s⟩ ⟨W42_b5 Φ L0 s⟩
def W42_b11 (Φ:EP) (L0:SP) (s:St):Prop:=
 @sMv 37 35 s<|.mk fun s=>
 @sOp (some 38) (xIx 9 (s.τ 33) (s.τ 35) s.H) s<|.mk fun s=>
 @sLd 39 9 38 true s<|.mk fun s=>
 @sOp (some 7) (xAlloc 7 35 [.int .i64 0,.int .i64 0,.int .i64 0,.str ⟨#[]⟩,.int .i64 0,.int .i64 0,.str ⟨#[]⟩,.nils,.nils] s.H) s<|.mk fun s=>
 @sMv 6 37 s<|.mk fun s=>
 @sOp none (xStore 9 (s.τ 7) (s.τ 39) s.H) s<|.mk fun s=>
 @sMv 40 6 s<|.mk fun s=>
 @sOp (some 41) (xBin .gtr false (s.τ 40) (.int .i64 0) s.H) s<|.mk fun s=>
 @sMv 42 41 s<|.mk fun s=>
 @sGf 43 0 2 42 true s<|.mk fun s=>
 @sGl 44 1 43 42 false true s<|.mk fun s=>
 @sGo 45 42 true s (fun s=>(xBin .eql false (s.τ 44) (.int .i64 12) s.H))<|.mk fun s=>
 @sOp (some 46) (xPick (s.τ 42) (s.τ 45) (.bool false) s.H) s<|.mk fun s=>
 @sIf (s.τ 46) ⟨W42_k3 Φ s⟩ ⟨W42_b7 Φ L0 s⟩
def W42_l12 (Φ:EP) (L0:SP) (s:St):Prop:=
 @sOp (some 36) (xBin .lss false (s.τ 35) (s.τ 34) s.H) s<|.mk fun s=>
 @sIf (s.τ 36) ⟨W42_b11 Φ L0 s⟩ ⟨W42_k3 Φ s⟩
def W42_b13 (Φ:EP) (s:St):Prop:=
 @sFl 32 8 2 s<|.mk fun s=>
 @sLd 33 1 32 false s<|.mk fun s=>
 @sOp (some 34) (xLen (s.τ 33) s.H) s<|.mk fun s=>
 @sOp (some 35) (xMov (.int .i64 0) s.H) s<|.mk fun s=>
 @sLoop s ⟨fun L0 s=>W42_l12 Φ L0 s⟩
def W42_b20 (Φ:EP) (s:St):Prop:=
 @sFl 19 0 2 s<|.mk fun s=>
 @sLd 20 1 19 false s<|.mk fun s=>
 @sOp (some 21) (xBin .neq false (s.τ 20) (.int .i64 12) s.H) s<|.mk fun s=>
 @sMv 22 21 s<|.mk fun s=>
 @sGf 23 0 2 22 true s<|.mk fun s=>
 @sGl 24 1 23 22 false true s<|.mk fun s=>
 @sGo 25 22 true s (fun s=>(xBin .neq false (s.τ 24) (.int .i64 11) s.H))<|.mk fun s=>
 @sOp (some 26) (xPick (s.τ 22) (s.τ 25) (.bool false) s.H) s<|.mk fun s=>
 @sMv 27 26 s<|.mk fun s=>
 @sGf 28 0 2 27 true s<|.mk fun s=>
 @sGl 29 1 28 27 false true s<|.mk fun s=>
 @sGo 30 27 true s (fun s=>(xBin .neq false (s.τ 29) (.int .i64 7) s.H))<|.mk fun s=>
 @sOp (some 31) (xPick (s.τ 27) (s.τ 30) (.bool false) s.H) s<|.mk fun s=>
 @sMv 18 31 s<|.mk fun s=>
 @sIf (s.τ 18) ⟨W42_b2 Φ s⟩ ⟨W42_b13 Φ s⟩
def W42 (Φ:EP) (s:St):Prop:=
 @sOp (some 2) (xBox 2 35 (s.τ 0) s.H) s<|.mk fun s=>
 @sOp (some 4) (xMov (.nils) s.H) s<|.mk fun s=>
 @sOp (some 5) (xMov (.bool false) s.H) s<|.mk fun s=>
 @sFl 11 0 2 s<|.mk fun s=>
 @sLd 12 1 11 false s<|.mk fun s=>
 @sOp (some 13) (xBin .eql false (s.τ 12) (.int .i64 14) s.H) s<|.mk fun s=>
 @sMv 10 13 s<|.mk fun s=>
 @sIf (s.τ 10) ⟨W42_b1 Φ s⟩ ⟨W42_b20 Φ s⟩
theorem W42_rs (τ:Nat → AV) (H:Heap):resV Tryz.prog τ H [.tmp 4,.tmp 5] = ob (ob (some (τ 4)) fun v=>ob (ob (some (τ 5)) fun v=>ob (some []) fun vs=>some (v :: vs)) fun vs=>some (v :: vs)) fun vs=>some (.tup vs):=by kernel_rfl
theorem W42_eq (Φ:EP) (s:St):awp Tryz.prog (Tryz.f42.body.getD .skip) Φ s = W42 Φ s:=by kernel_rfl
theorem W42_S {args:List AV} {r:AV} (hl:args.length ≤ 59) (h:∀ vs,W42 (retK Tryz.prog [.tmp 4,.tmp 5] r) ⟨Am.look (argT 0 args),hls [] vs,noG⟩):Am.Spec Tryz.prog 42 args r:=.of_W (W:=W42) Tryz.func42 (by kernel_rfl) (by kernel_rfl) (by kernel_rfl) Tryz.ntmps42 W42_eq (by kernel_rfl) hl h
-- 43 "penance/run.at"
def W43_k1 (Φ:EP) (s:St):Prop:=
 @sLd 19 9 2 true s<|.mk fun s=>
 @sOp none (xStore 9 (s.τ 4) (s.τ 19) s.H) s<|.mk fun s=>
 Φ .ret s
def W43_b2 (Φ:EP) (L0:SP) (s:St):Prop:=
 @sOp (some 11) (xIx 1 (s.τ 7) (s.τ 9) s.H) s<|.mk fun s=>
 @sLd 12 1 11 false s<|.mk fun s=>
 @sMv 6 12 s<|.mk fun s=>
 @sFl 13 8 2 s<|.mk fun s=>
 @sLd 14 1 13 false s<|.mk fun s=>
 @sMv 15 6 s<|.mk fun s=>
 @sOp (some 16) (xIx 9 (s.τ 14) (s.τ 15) s.H) s<|.mk fun s=>
 @sLd 17 9 16 true s<|.mk fun s=>
 @sOp none (xStore 9 (s.τ 2) (s.τ 17) s.H) s<|.mk fun s=>
 @sOp (some 18) (xBin .add false (s.τ 9) (.int .i64 1) s.H) s<|.mk fun s=>
 @sMv 9 18 s<|.mk fun s=>
 L0 s
def W43_l3 (Φ:EP) (L0:SP) (s:St):Prop:=
 @sOp (some 10) (xBin .lss false (s.τ 9) (s.τ 8) s.H) s<|.mk fun s=>
 @sIf (s.τ 10) ⟨W43_b2 Φ L0 s⟩ ⟨W43_k1 Φ s⟩
def W43 (Φ:EP) (s:St):Prop:=
 @sOp (some 2) (xBox 2 35 (s.τ 0) s.H) s<|.mk fun s=>
 @sOp (some 4) (xAlloc 4 35 [.int .i64 0,.int .i64 0,.int .i64 0,.str ⟨#[]⟩,.int .i64 0,.int .i64 0,.str ⟨#[]⟩,.nils,.nils] s.H) s<|.mk fun s=>
 @sMv 7 1 s<|.mk fun s=>
 @sOp (some 8) (xLen (s.τ 7) s.H) s<|.mk fun s=>
 @sOp (some 9) (xMov (.int .i64 0) s.H) s<|.mk fun s=>
 @sLoop s ⟨fun L0 s=>W43_l3 Φ L0 s⟩
theorem W43_rs (τ:Nat → AV) (H:Heap):resV Tryz.prog τ H [.cell 4 35] = rdV H 9 true (τ 4):=by kernel_rfl
theorem W43_eq (Φ:EP) (s:St):awp Tryz.prog (Tryz.f43.body.getD .skip) Φ s = W43 Φ s:=by kernel_rfl
theorem W43_S {args:List AV} {r:AV} (hl:args.length ≤ 20) (h:∀ vs,W43 (retK Tryz.prog [.cell 4 35] r) ⟨Am.look (argT 0 args),hls [] vs,noG⟩):Am.Spec Tryz.prog 43 args r:=.of_W (W:=W43) Tryz.func43 (by kernel_rfl) (by kernel_rfl) (by kernel_rfl) Tryz.ntmps43 W43_eq (by kernel_rfl) hl h
-- 44 "penance/run.put"
def W44_b1 (Φ:EP) (s:St):Prop:=
 @sLd 11 9 5 true s<|.mk fun s=>
 @sOp none (xStore 9 (s.τ 6) (s.τ 11) s.H) s<|.mk fun s=>
 Φ .ret s
def W44_b4 (Φ:EP) (s:St):Prop:=
 @sFl 12 8 3 s<|.mk fun s=>
 @sLd 13 1 12 false s<|.mk fun s=>
 @sCall Tryz.prog (.func 82 []) [(s.τ 13)] (some 14) s<|.mk fun s=>
 @sMv 7 14 s<|.mk fun s=>
 @sMv 15 7 s<|.mk fun u1=>
 @sMv 16 1 u1<|.mk fun u2=>
 @sOp (some 17) (xIx 1 (u2.τ 16) (.int .i64 0) u2.H) u2<|.mk fun u3=>
 @sLd 18 1 17 false u3<|.mk fun u4=>
 @sMv 19 7 u4<|.mk fun u5=>
 @sMv 20 1 u5<|.mk fun u6=>
 @sOp (some 21) (xIx 1 (u6.τ 20) (.int .i64 0) u6.H) u6<|.mk fun u7=>
 @sLd 22 1 21 false u7<|.mk fun u8=>
 @sOp (some 23) (xIx 9 (u8.τ 19) (u8.τ 22) u8.H) u8<|.mk fun u9=>
 @sLd 24 9 23 true u9<|.mk fun u10=>
 @sMv 25 1 u10<|.mk fun u11=>
 @sOp (some 26) (xSlc 1 (u11.τ 25) (some (.int .i64 1)) none u11.H) u11<|.mk fun u12=>
 @sLd 27 9 5 true u12<|.mk fun u13=>
 @sChk (compat (occ (u2.τ 16),[]) (cfp 28 44 [(u13.τ 24),(u13.τ 26),(u13.τ 27)])) <| .mk <|
 @sChk (compat (occ (u3.τ 17),[]) (cfp 28 44 [(u13.τ 24),(u13.τ 26),(u13.τ 27)])) <| .mk <|
 @sCall0 Tryz.prog (.func 44 []) [(u13.τ 24),(u13.τ 26),(u13.τ 27)] (some 28) u13<|.mk fun u14=>
 @sOp (some 29) (xIx 9 (u14.τ 15) (u14.τ 18) u14.H) u14<|.mk fun u15=>
 @sOp none (xStore 9 (u15.τ 29) (u15.τ 28) u15.H) u15<|.mk fun s=>
 @sMv 30 7 s<|.mk fun s=>
 @sFl 31 8 3 s<|.mk fun s=>
 @sOp none (xStore 1 (s.τ 31) (s.τ 30) s.H) s<|.mk fun s=>
 @sLd 32 9 3 true s<|.mk fun s=>
 @sOp none (xStore 9 (s.τ 6) (s.τ 32) s.H) s<|.mk fun s=>
 Φ .ret s
def W44 (Φ:EP) (s:St):Prop:=
 @sOp (some 3) (xBox 3 35 (s.τ 0) s.H) s<|.mk fun s=>
 @sOp (some 5) (xBox 5 35 (s.τ 2) s.H) s<|.mk fun s=>
 @sOp (some 6) (xAlloc 6 35 [.int .i64 0,.int .i64 0,.int .i64 0,.str ⟨#[]⟩,.int .i64 0,.int .i64 0,.str ⟨#[]⟩,.nils,.nils] s.H) s<|.mk fun s=>
 @sMv 8 1 s<|.mk fun s=>
 @sOp (some 9) (xLen (s.τ 8) s.H) s<|.mk fun s=>
 @sOp (some 10) (xBin .eql false (s.τ 9) (.int .i64 0) s.H) s<|.mk fun s=>
 @sIf (s.τ 10) ⟨W44_b1 Φ s⟩ ⟨W44_b4 Φ s⟩
theorem W44_rs (τ:Nat → AV) (H:Heap):resV Tryz.prog τ H [.cell 6 35] = rdV H 9 true (τ 6):=by kernel_rfl
theorem W44_eq (Φ:EP) (s:St):awp Tryz.prog (Tryz.f44.body.getD .skip) Φ s = W44 Φ s:=by kernel_rfl
theorem W44_S {args:List AV} {r:AV} (hl:args.length ≤ 33) (h:∀ vs,W44 (retK Tryz.prog [.cell 6 35] r) ⟨Am.look (argT 0 args),hls [] vs,noG⟩):Am.Spec Tryz.prog 44 args r:=.of_W (W:=W44) Tryz.func44 (by kernel_rfl) (by kernel_rfl) (by kernel_rfl) Tryz.ntmps44 W44_eq (by kernel_rfl) hl h
-- 46 "penance/steps.Enabled"
def W46_k2 (Φ:EP) (J0:Nat → SP) (s:St):Prop:=
 @sLd 42 1 3 false s<|.mk fun s=>
 @sCall Tryz.prog (.func 84 []) [(s.τ 42)] (some 43) s<|.mk fun s=>
 @sMv 2 43 s<|.mk fun s=>
 Φ .ret s
def W46_b4 (Φ:EP) (L0:SP) (s:St):Prop:=
 @sMv 29 27 s<|.mk fun s=>
 @sMv 6 29 s<|.mk fun s=>
 @sLd 30 1 3 false s<|.mk fun u1=>
 @sFl 31 0 4 u1<|.mk fun u2=>
 @sFl 32 0 31 u2<|.mk fun u3=>
 @sLd 33 1 32 false u3<|.mk fun u4=>
 @sFl 34 9 4 u4<|.mk fun u5=>
 @sLd 35 1 34 false u5<|.mk fun u6=>
 @sChk (compat (occ (s.τ 3),[]) (cfp 36 33 [(u6.τ 35)])) <| .mk <|
 @sChk (compat (occ (u1.τ 4),[]) (cfp 36 33 [(u6.τ 35)])) <| .mk <|
 @sChk (compat (occ (u2.τ 31),[]) (cfp 36 33 [(u6.τ 35)])) <| .mk <|
 @sChk (compat (occ (u3.τ 32),[]) (cfp 36 33 [(u6.τ 35)])) <| .mk <|
 @sCall0 Tryz.prog (.func 33 []) [(u6.τ 35)] (some 36) u6<|.mk fun u7=>
 @sMv 37 6 u7<|.mk fun u8=>
 @sOp (some 38) (xBuild [.int .i64 0,.nils,.int .i64 0] [(0,1,(u8.τ 33)),(1,1,(u8.τ 36)),(2,1,(u8.τ 37))] u8.H) u8<|.mk fun u9=>
 @sChk (compat (occ (s.τ 3),[]) ([39] ++ occL [(u9.τ 38)],[39] ++ occL [(u9.τ 38)])) <| .mk <|
 @sOp (some 39) (xLit 3 1 [.int .i64 0,.nils,.int .i64 0] [(0,(u9.τ 38))] u9.H) u9<|.mk fun u10=>
 @sOp (some 40) (xApp Tryz.prog 60 3 40 (some 40) (u10.τ 30) (u10.τ 39) u10.H) u10<|.mk fun u11=>
 @sOp none (xStore 1 (u11.τ 3) (u11.τ 40) u11.H) u11<|.mk fun s=>
 @sOp (some 41) (xBin .add false (s.τ 27) (.int .i64 1) s.H) s<|.mk fun s=>
 @sMv 27 41 s<|.mk fun s=>
 L0 s
def W46_l5 (Φ:EP) (L0:SP) (s:St):Prop:=
 @sOp (some 28) (xBin .lss false (s.τ 27) (s.τ 26) s.H) s<|.mk fun s=>
 @sIf (s.τ 28) ⟨W46_b4 Φ L0 s⟩ ⟨Φ .normal s⟩
def W46_k6 (Φ:EP) (s:St):Prop:=
 @sMv 26 5 s<|.mk fun s=>
 @sOp (some 27) (xMov (.int .i64 0) s.H) s<|.mk fun s=>
 @sLoop s ⟨fun L0 s=>W46_l5 Φ L0 s⟩
def W46_b7 (Φ:EP) (s:St):Prop:=
 @sFl 22 10 4 s<|.mk fun s=>
 @sLd 23 1 22 false s<|.mk fun s=>
 @sIf (s.τ 23) ⟨Φ .normal s⟩ ⟨W46_k6 Φ s⟩
def W46_b8 (Φ:EP) (s:St):Prop:=
 @sOp (some 5) (xMov (.int .i64 2) s.H) s<|.mk fun s=>
 W46_k6 Φ s
def W46_b9 (Φ:EP) (s:St):Prop:=
 @sOp (some 25) (xBin .eql false (s.τ 13) (.int .i64 10) s.H) s<|.mk fun s=>
 @sMv 24 25 s<|.mk fun s=>
 @sIf (s.τ 24) ⟨W46_b8 Φ s⟩ ⟨W46_k6 Φ s⟩
def W46_b10 (Φ:EP) (s:St):Prop:=
 @sOp (some 21) (xBin .eql false (s.τ 13) (.int .i64 8) s.H) s<|.mk fun s=>
 @sMv 20 21 s<|.mk fun s=>
 @sIf (s.τ 20) ⟨W46_b7 Φ s⟩ ⟨W46_b9 Φ s⟩
def W46_k11 (Φ:EP) (s:St):Prop:=
 @sIf (s.τ 14) ⟨Φ .normal s⟩ ⟨W46_b10 Φ s⟩
def W46_b12 (Φ:EP) (s:St):Prop:=
 @sOp (some 19) (xBin .eql false (s.τ 13) (.int .i64 7) s.H) s<|.mk fun s=>
 @sMv 14 19 s<|.mk fun s=>
 W46_k11 Φ s
def W46_b13 (Φ:EP) (s:St):Prop:=
 @sOp (some 18) (xBin .eql false (s.τ 13) (.int .i64 11) s.H) s<|.mk fun s=>
 @sMv 14 18 s<|.mk fun s=>
 @sIf (s.τ 14) ⟨W46_k11 Φ s⟩ ⟨W46_b12 Φ s⟩
def W46_b14 (Φ:EP) (s:St):Prop:=
 @sOp (some 17) (xBin .eql false (s.τ 13) (.int .i64 12) s.H) s<|.mk fun s=>
 @sMv 14 17 s<|.mk fun s=>
 @sIf (s.τ 14) ⟨W46_k11 Φ s⟩ ⟨W46_b13 Φ s⟩
def W46_b15 (Φ:EP) (s:St):Prop:=
 @sOp (some 16) (xBin .eql false (s.τ 13) (.int .i64 14) s.H) s<|.mk fun s=>
 @sMv 14 16 s<|.mk fun s=>
 @sIf (s.τ 14) ⟨W46_k11 Φ s⟩ ⟨W46_b14 Φ s⟩
def W46_r16 (Φ:EP) (s:St):Prop:=
 @sOp (some 4) (xAlloc 4 140 [.int .i64 0,.int .i64 0,.int .i64 0,.str ⟨#[]⟩,.int .i64 0,.int .i64 0,.str ⟨#[]⟩,.nils,.nils,.nils,.bool false] s.H) s<|.mk fun s=>
 @sOp none (xStore 11 (s.τ 4) (s.τ 10) s.H) s<|.mk fun s=>
 @sOp (some 5) (xMov (.int .i64 1) s.H) s<|.mk fun s=>
 @sFl 11 0 4 s<|.mk fun s=>
 @sFl 12 0 11 s<|.mk fun s=>
 @sLd 13 1 12 false s<|.mk fun s=>
 @sOp (some 15) (xBin .eql false (s.τ 13) (.int .i64 0) s.H) s<|.mk fun s=>
 @sMv 14 15 s<|.mk fun s=>
 @sIf (s.τ 14) ⟨W46_k11 Φ s⟩ ⟨W46_b15 Φ s⟩
def W46_s19 (Φ:EP) (J0:Nat → SP) (s:St):Prop:=
 @sOp (some 3) (xAlloc 3 56 [.nils] s.H) s<|.mk fun s=>
 @sLd 7 9 1 true s<|.mk fun s=>
 @sCall Tryz.prog (.func 32 []) [(s.τ 7)] (some 8) s<|.mk fun s=>
 @sCall Tryz.prog (.func 83 []) [(s.τ 8)] (some 9) s<|.mk fun s=>
 @sRange Tryz.prog (s.τ 9) [10] s ⟨fun Φ s=>W46_r16 Φ s⟩ ⟨(blkK 0 (thenK (W46_k2 Φ J0) (gotoK J0 Φ)))⟩
def W46_k21 (Φ:EP) (J0:Nat → SP) (s:St):Prop:=
 @sLd 42 1 3 false s<|.mk fun s=>
 @sCall Tryz.prog (.func 84 []) [(s.τ 42)] (some 43) s<|.mk fun s=>
 @sMv 2 43 s<|.mk fun s=>
 Φ .ret s
def W46_b23 (Φ:EP) (L0:SP) (s:St):Prop:=
 @sMv 29 27 s<|.mk fun s=>
 @sMv 6 29 s<|.mk fun s=>
 @sLd 30 1 3 false s<|.mk fun u1=>
 @sFl 31 0 4 u1<|.mk fun u2=>
 @sFl 32 0 31 u2<|.mk fun u3=>
 @sLd 33 1 32 false u3<|.mk fun u4=>
 @sFl 34 9 4 u4<|.mk fun u5=>
 @sLd 35 1 34 false u5<|.mk fun u6=>
 @sChk (compat (occ (s.τ 3),[]) (cfp 36 33 [(u6.τ 35)])) <| .mk <|
 @sChk (compat (occ (u1.τ 4),[]) (cfp 36 33 [(u6.τ 35)])) <| .mk <|
 @sChk (compat (occ (u2.τ 31),[]) (cfp 36 33 [(u6.τ 35)])) <| .mk <|
 @sChk (compat (occ (u3.τ 32),[]) (cfp 36 33 [(u6.τ 35)])) <| .mk <|
 @sCall0 Tryz.prog (.func 33 []) [(u6.τ 35)] (some 36) u6<|.mk fun u7=>
 @sMv 37 6 u7<|.mk fun u8=>
 @sOp (some 38) (xBuild [.int .i64 0,.nils,.int .i64 0] [(0,1,(u8.τ 33)),(1,1,(u8.τ 36)),(2,1,(u8.τ 37))] u8.H) u8<|.mk fun u9=>
 @sChk (compat (occ (s.τ 3),[]) ([39] ++ occL [(u9.τ 38)],[39] ++ occL [(u9.τ 38)])) <| .mk <|
 @sOp (some 39) (xLit 3 1 [.int .i64 0,.nils,.int .i64 0] [(0,(u9.τ 38))] u9.H) u9<|.mk fun u10=>
 @sOp (some 40) (xApp Tryz.prog 60 3 40 (some 40) (u10.τ 30) (u10.τ 39) u10.H) u10<|.mk fun u11=>
 @sOp none (xStore 1 (u11.τ 3) (u11.τ 40) u11.H) u11<|.mk fun s=>
 @sOp (some 41) (xBin .add false (s.τ 27) (.int .i64 1) s.H) s<|.mk fun s=>
 @sMv 27 41 s<|.mk fun s=>
 L0 s
def W46_l24 (Φ:EP) (L0:SP) (s:St):Prop:=
 @sOp (some 28) (xBin .lss false (s.τ 27) (s.τ 26) s.H) s<|.mk fun s=>
 @sIf (s.τ 28) ⟨W46_b23 Φ L0 s⟩ ⟨Φ .normal s⟩
def W46_k25 (Φ:EP) (s:St):Prop:=
 @sMv 26 5 s<|.mk fun s=>
 @sOp (some 27) (xMov (.int .i64 0) s.H) s<|.mk fun s=>
 @sLoop s ⟨fun L0 s=>W46_l24 Φ L0 s⟩
def W46_b26 (Φ:EP) (s:St):Prop:=
 @sFl 22 10 4 s<|.mk fun s=>
 @sLd 23 1 22 false s<|.mk fun s=>
 @sIf (s.τ 23) ⟨Φ .normal s⟩ ⟨W46_k25 Φ s⟩
def W46_b27 (Φ:EP) (s:St):Prop:=
 @sOp (some 5) (xMov (.int .i64 2) s.H) s<|.mk fun s=>
 W46_k25 Φ s
def W46_b28 (Φ:EP) (s:St):Prop:=
 @sOp (some 25) (xBin .eql false (s.τ 13) (.int .i64 10) s.H) s<|.mk fun s=>
 @sMv 24 25 s<|.mk fun s=>
 @sIf (s.τ 24) ⟨W46_b27 Φ s⟩ ⟨W46_k25 Φ s⟩
def W46_b29 (Φ:EP) (s:St):Prop:=
 @sOp (some 21) (xBin .eql false (s.τ 13) (.int .i64 8) s.H) s<|.mk fun s=>
 @sMv 20 21 s<|.mk fun s=>
 @sIf (s.τ 20) ⟨W46_b26 Φ s⟩ ⟨W46_b28 Φ s⟩
def W46_k30 (Φ:EP) (s:St):Prop:=
 @sIf (s.τ 14) ⟨Φ .normal s⟩ ⟨W46_b29 Φ s⟩
def W46_b31 (Φ:EP) (s:St):Prop:=
 @sOp (some 19) (xBin .eql false (s.τ 13) (.int .i64 7) s.H) s<|.mk fun s=>
 @sMv 14 19 s<|.mk fun s=>
 W46_k30 Φ s
def W46_b32 (Φ:EP) (s:St):Prop:=
 @sOp (some 18) (xBin .eql false (s.τ 13) (.int .i64 11) s.H) s<|.mk fun s=>
 @sMv 14 18 s<|.mk fun s=>
 @sIf (s.τ 14) ⟨W46_k30 Φ s⟩ ⟨W46_b31 Φ s⟩
def W46_b33 (Φ:EP) (s:St):Prop:=
 @sOp (some 17) (xBin .eql false (s.τ 13) (.int .i64 12) s.H) s<|.mk fun s=>
 @sMv 14 17 s<|.mk fun s=>
 @sIf (s.τ 14) ⟨W46_k30 Φ s⟩ ⟨W46_b32 Φ s⟩
def W46_b34 (Φ:EP) (s:St):Prop:=
 @sOp (some 16) (xBin .eql false (s.τ 13) (.int .i64 14) s.H) s<|.mk fun s=>
 @sMv 14 16 s<|.mk fun s=>
 @sIf (s.τ 14) ⟨W46_k30 Φ s⟩ ⟨W46_b33 Φ s⟩
def W46_r35 (Φ:EP) (s:St):Prop:=
 @sOp (some 4) (xAlloc 4 140 [.int .i64 0,.int .i64 0,.int .i64 0,.str ⟨#[]⟩,.int .i64 0,.int .i64 0,.str ⟨#[]⟩,.nils,.nils,.nils,.bool false] s.H) s<|.mk fun s=>
 @sOp none (xStore 11 (s.τ 4) (s.τ 10) s.H) s<|.mk fun s=>
 @sOp (some 5) (xMov (.int .i64 1) s.H) s<|.mk fun s=>
 @sFl 11 0 4 s<|.mk fun s=>
 @sFl 12 0 11 s<|.mk fun s=>
 @sLd 13 1 12 false s<|.mk fun s=>
 @sOp (some 15) (xBin .eql false (s.τ 13) (.int .i64 0) s.H) s<|.mk fun s=>
 @sMv 14 15 s<|.mk fun s=>
 @sIf (s.τ 14) ⟨W46_k30 Φ s⟩ ⟨W46_b34 Φ s⟩
def W46_g38 (Φ:EP) (J0:Nat → SP) (s:St):Prop:=
 @sLd 7 9 1 true s<|.mk fun s=>
 @sCall Tryz.prog (.func 32 []) [(s.τ 7)] (some 8) s<|.mk fun s=>
 @sCall Tryz.prog (.func 83 []) [(s.τ 8)] (some 9) s<|.mk fun s=>
 @sRange Tryz.prog (s.τ 9) [10] s ⟨fun Φ s=>W46_r35 Φ s⟩ ⟨(blkK 0 (thenK (W46_k21 Φ J0) (gotoK J0 Φ)))⟩
def W46 (Φ:EP) (s:St):Prop:=
 @sOp (some 1) (xBox 1 35 (s.τ 0) s.H) s<|.mk fun s=>
 @sOp (some 2) (xMov (.nils) s.H) s<|.mk fun s=>
 @sScope s ⟨fun J0 s=>W46_s19 Φ J0 s⟩ ⟨[(0,fun J0 s=>W46_g38 Φ J0 s)]⟩
theorem W46_rs (τ:Nat → AV) (H:Heap):resV Tryz.prog τ H [.tmp 2] = some (τ 2):=by kernel_rfl
theorem W46_eq (Φ:EP) (s:St):awp Tryz.prog (Tryz.f46.body.getD .skip) Φ s = W46 Φ s:=by kernel_rfl
theorem W46_S {args:List AV} {r:AV} (hl:args.length ≤ 44) (h:∀ vs,W46 (retK Tryz.prog [.tmp 2] r) ⟨Am.look (argT 0 args),hls [] vs,noG⟩):Am.Spec Tryz.prog 46 args r:=.of_W (W:=W46) Tryz.func46 (by kernel_rfl) (by kernel_rfl) (by kernel_rfl) Tryz.ntmps46 W46_eq (by kernel_rfl) hl h
-- 47 "penance/expr.Eval"
def W47_b1 (Φ:EP) (s:St):Prop:=
 @sFl 12 1 2 s<|.mk fun s=>
 @sLd 13 1 12 false s<|.mk fun s=>
 @sMv 4 13 s<|.mk fun s=>
 @sOp (some 5) (xMov (.int .i64 0) s.H) s<|.mk fun s=>
 Φ .ret s
def W47_b2 (Φ:EP) (s:St):Prop:=
 @sOp (some 4) (xMov (.int .i64 0) s.H) s<|.mk fun s=>
 @sOp (some 5) (xMov (.int .i64 0) s.H) s<|.mk fun s=>
 Φ .ret s
def W47_b3 (Φ:EP) (s:St):Prop:=
 @sMv 27 1 s<|.mk fun s=>
 @sFl 28 1 2 s<|.mk fun s=>
 @sLd 29 1 28 false s<|.mk fun s=>
 @sOp (some 30) (xIx 1 (s.τ 27) (s.τ 29) s.H) s<|.mk fun s=>
 @sLd 31 1 30 false s<|.mk fun s=>
 @sMv 4 31 s<|.mk fun s=>
 @sOp (some 5) (xMov (.int .i64 0) s.H) s<|.mk fun s=>
 Φ .ret s
def W47_b9 (Φ:EP) (s:St):Prop:=
 @sFl 17 1 2 s<|.mk fun s=>
 @sLd 18 1 17 false s<|.mk fun s=>
 @sOp (some 19) (xBin .lss false (s.τ 18) (.int .i64 0) s.H) s<|.mk fun s=>
 @sMv 20 19 s<|.mk fun s=>
 @sGf 21 1 2 20 false s<|.mk fun s=>
 @sGl 22 1 21 20 false false s<|.mk fun s=>
 @sGm 23 1 20 false s<|.mk fun s=>
 @sGo 24 20 false s (fun s=>(xLen (s.τ 23) s.H))<|.mk fun s=>
 @sGo 25 20 false s (fun s=>(xBin .geq false (s.τ 22) (s.τ 24) s.H))<|.mk fun s=>
 @sOp (some 26) (xPick (s.τ 20) (.bool true) (s.τ 25) s.H) s<|.mk fun s=>
 @sIf (s.τ 26) ⟨W47_b2 Φ s⟩ ⟨W47_b3 Φ s⟩
def W47_b10 (Φ:EP) (s:St):Prop:=
 @sOp (some 4) (xMov (.int .i64 0) s.H) s<|.mk fun s=>
 @sOp (some 5) (xMov (.int .i64 0) s.H) s<|.mk fun s=>
 Φ .ret s
def W47_b11 (Φ:EP) (s:St):Prop:=
 @sMv 48 7 s<|.mk fun s=>
 @sOp (some 4) (xMov (.int .i64 0) s.H) s<|.mk fun s=>
 @sMv 5 48 s<|.mk fun s=>
 Φ .ret s
def W47_b13 (Φ:EP) (s:St):Prop:=
 @sMv 53 6 s<|.mk fun s=>
 @sOp (some 54) (xBin .eql false (s.τ 53) (.int .i64 0) s.H) s<|.mk fun s=>
 @sCall Tryz.prog (.func 85 []) [(s.τ 54)] (some 55) s<|.mk fun s=>
 @sMv 4 55 s<|.mk fun s=>
 @sOp (some 5) (xMov (.int .i64 0) s.H) s<|.mk fun s=>
 Φ .ret s
def W47_b15 (Φ:EP) (s:St):Prop:=
 @sMv 60 6 s<|.mk fun s=>
 @sCall Tryz.prog (.func 86 []) [(s.τ 60),(.int .i64 (-1))] (some 61) s<|.mk fun s=>
 @sOp (some 62) (xExt (s.τ 61) 0 s.H) s<|.mk fun s=>
 @sOp (some 63) (xExt (s.τ 61) 1 s.H) s<|.mk fun s=>
 @sMv 4 62 s<|.mk fun s=>
 @sMv 5 63 s<|.mk fun s=>
 Φ .ret s
def W47_b16 (Φ:EP) (s:St):Prop:=
 @sOp (some 4) (xMov (.int .i64 0) s.H) s<|.mk fun s=>
 @sOp (some 5) (xMov (.int .i64 0) s.H) s<|.mk fun s=>
 Φ .ret s
def W47_b17 (Φ:EP) (s:St):Prop:=
 @sOp (some 4) (xMov (.int .i64 1) s.H) s<|.mk fun s=>
 @sOp (some 5) (xMov (.int .i64 0) s.H) s<|.mk fun s=>
 Φ .ret s
def W47_b18 (Φ:EP) (s:St):Prop:=
 @sOp (some 4) (xMov (.int .i64 0) s.H) s<|.mk fun s=>
 @sOp (some 5) (xMov (.int .i64 0) s.H) s<|.mk fun s=>
 Φ .ret s
def W47_b19 (Φ:EP) (s:St):Prop:=
 @sMv 97 7 s<|.mk fun s=>
 @sOp (some 4) (xMov (.int .i64 0) s.H) s<|.mk fun s=>
 @sMv 5 97 s<|.mk fun s=>
 Φ .ret s
def W47_b21 (Φ:EP) (s:St):Prop:=
 @sMv 107 8 s<|.mk fun s=>
 @sOp (some 108) (xBin .neq false (s.τ 107) (.int .i64 0) s.H) s<|.mk fun s=>
 @sCall Tryz.prog (.func 85 []) [(s.τ 108)] (some 109) s<|.mk fun s=>
 @sMv 4 109 s<|.mk fun s=>
 @sOp (some 5) (xMov (.int .i64 0) s.H) s<|.mk fun s=>
 Φ .ret s
def W47_b23 (Φ:EP) (s:St):Prop:=
 @sFl 110 0 2 s<|.mk fun s=>
 @sLd 111 1 110 false s<|.mk fun s=>
 @sMv 112 6 s<|.mk fun s=>
 @sMv 113 8 s<|.mk fun s=>
 @sCall Tryz.prog (.func 87 []) [(s.τ 111),(s.τ 112),(s.τ 113)] (some 114) s<|.mk fun s=>
 @sOp (some 115) (xExt (s.τ 114) 0 s.H) s<|.mk fun s=>
 @sOp (some 116) (xExt (s.τ 114) 1 s.H) s<|.mk fun s=>
 @sMv 4 115 s<|.mk fun s=>
 @sMv 5 116 s<|.mk fun s=>
 Φ .ret s
def W47_b27 (Φ:EP) (s:St):Prop:=
 @sFl 99 0 2 s<|.mk fun s=>
 @sLd 100 1 99 false s<|.mk fun s=>
 @sOp (some 101) (xBin .eql false (s.τ 100) (.int .i64 16) s.H) s<|.mk fun s=>
 @sMv 102 101 s<|.mk fun s=>
 @sGf 103 0 2 102 false s<|.mk fun s=>
 @sGl 104 1 103 102 false false s<|.mk fun s=>
 @sGo 105 102 false s (fun s=>(xBin .eql false (s.τ 104) (.int .i64 17) s.H))<|.mk fun s=>
 @sOp (some 106) (xPick (s.τ 102) (.bool true) (s.τ 105) s.H) s<|.mk fun s=>
 @sMv 98 106 s<|.mk fun s=>
 @sIf (s.τ 98) ⟨W47_b21 Φ s⟩ ⟨W47_b23 Φ s⟩
def W47_b29 (Φ:EP) (s:St):Prop:=
 @sFl 86 3 2 s<|.mk fun s=>
 @sLd 87 1 86 false s<|.mk fun s=>
 @sOp (some 88) (xIx 4 (s.τ 87) (.int .i64 1) s.H) s<|.mk fun s=>
 @sLd 89 4 88 true s<|.mk fun s=>
 @sMv 90 1 s<|.mk fun s=>
 @sCall Tryz.prog (.func 47 []) [(s.τ 89),(s.τ 90)] (some 91) s<|.mk fun s=>
 @sMv 85 91 s<|.mk fun s=>
 @sOp (some 92) (xExt (s.τ 85) 0 s.H) s<|.mk fun s=>
 @sOp (some 93) (xExt (s.τ 85) 1 s.H) s<|.mk fun s=>
 @sMv 8 92 s<|.mk fun s=>
 @sMv 7 93 s<|.mk fun s=>
 @sMv 95 7 s<|.mk fun s=>
 @sOp (some 96) (xBin .neq false (s.τ 95) (.int .i64 0) s.H) s<|.mk fun s=>
 @sMv 94 96 s<|.mk fun s=>
 @sIf (s.τ 94) ⟨W47_b19 Φ s⟩ ⟨W47_b27 Φ s⟩
def W47_b30 (Φ:EP) (s:St):Prop:=
 @sFl 81 3 2 s<|.mk fun s=>
 @sLd 82 1 81 false s<|.mk fun s=>
 @sOp (some 83) (xLen (s.τ 82) s.H) s<|.mk fun s=>
 @sOp (some 84) (xBin .eql false (s.τ 83) (.int .i64 1) s.H) s<|.mk fun s=>
 @sMv 80 84 s<|.mk fun s=>
 @sIf (s.τ 80) ⟨W47_b18 Φ s⟩ ⟨W47_b29 Φ s⟩
def W47_b33 (Φ:EP) (s:St):Prop:=
 @sFl 73 0 2 s<|.mk fun s=>
 @sLd 74 1 73 false s<|.mk fun s=>
 @sOp (some 75) (xBin .eql false (s.τ 74) (.int .i64 17) s.H) s<|.mk fun s=>
 @sMv 76 75 s<|.mk fun s=>
 @sGm 77 6 76 true s<|.mk fun s=>
 @sGo 78 76 true s (fun s=>(xBin .neq false (s.τ 77) (.int .i64 0) s.H))<|.mk fun s=>
 @sOp (some 79) (xPick (s.τ 76) (s.τ 78) (.bool false) s.H) s<|.mk fun s=>
 @sMv 72 79 s<|.mk fun s=>
 @sIf (s.τ 72) ⟨W47_b17 Φ s⟩ ⟨W47_b30 Φ s⟩
def W47_b36 (Φ:EP) (s:St):Prop:=
 @sFl 65 0 2 s<|.mk fun s=>
 @sLd 66 1 65 false s<|.mk fun s=>
 @sOp (some 67) (xBin .eql false (s.τ 66) (.int .i64 16) s.H) s<|.mk fun s=>
 @sMv 68 67 s<|.mk fun s=>
 @sGm 69 6 68 true s<|.mk fun s=>
 @sGo 70 68 true s (fun s=>(xBin .eql false (s.τ 69) (.int .i64 0) s.H))<|.mk fun s=>
 @sOp (some 71) (xPick (s.τ 68) (s.τ 70) (.bool false) s.H) s<|.mk fun s=>
 @sMv 64 71 s<|.mk fun s=>
 @sIf (s.τ 64) ⟨W47_b16 Φ s⟩ ⟨W47_b33 Φ s⟩
def W47_b37 (Φ:EP) (s:St):Prop:=
 @sFl 57 0 2 s<|.mk fun s=>
 @sLd 58 1 57 false s<|.mk fun s=>
 @sOp (some 59) (xBin .eql false (s.τ 58) (.int .i64 4) s.H) s<|.mk fun s=>
 @sMv 56 59 s<|.mk fun s=>
 @sIf (s.τ 56) ⟨W47_b15 Φ s⟩ ⟨W47_b36 Φ s⟩
def W47_b38 (Φ:EP) (s:St):Prop:=
 @sFl 50 0 2 s<|.mk fun s=>
 @sLd 51 1 50 false s<|.mk fun s=>
 @sOp (some 52) (xBin .eql false (s.τ 51) (.int .i64 3) s.H) s<|.mk fun s=>
 @sMv 49 52 s<|.mk fun s=>
 @sIf (s.τ 49) ⟨W47_b13 Φ s⟩ ⟨W47_b37 Φ s⟩
def W47_b40 (Φ:EP) (s:St):Prop:=
 @sFl 37 3 2 s<|.mk fun s=>
 @sLd 38 1 37 false s<|.mk fun s=>
 @sOp (some 39) (xIx 4 (s.τ 38) (.int .i64 0) s.H) s<|.mk fun s=>
 @sLd 40 4 39 true s<|.mk fun s=>
 @sMv 41 1 s<|.mk fun s=>
 @sCall Tryz.prog (.func 47 []) [(s.τ 40),(s.τ 41)] (some 42) s<|.mk fun s=>
 @sMv 36 42 s<|.mk fun s=>
 @sOp (some 43) (xExt (s.τ 36) 0 s.H) s<|.mk fun s=>
 @sOp (some 44) (xExt (s.τ 36) 1 s.H) s<|.mk fun s=>
 @sMv 6 43 s<|.mk fun s=>
 @sMv 7 44 s<|.mk fun s=>
 @sMv 46 7 s<|.mk fun s=>
 @sOp (some 47) (xBin .neq false (s.τ 46) (.int .i64 0) s.H) s<|.mk fun s=>
 @sMv 45 47 s<|.mk fun s=>
 @sIf (s.τ 45) ⟨W47_b11 Φ s⟩ ⟨W47_b38 Φ s⟩
def W47_b41 (Φ:EP) (s:St):Prop:=
 @sFl 32 3 2 s<|.mk fun s=>
 @sLd 33 1 32 false s<|.mk fun s=>
 @sOp (some 34) (xLen (s.τ 33) s.H) s<|.mk fun s=>
 @sOp (some 35) (xBin .eql false (s.τ 34) (.int .i64 0) s.H) s<|.mk fun s=>
 @sIf (s.τ 35) ⟨W47_b10 Φ s⟩ ⟨W47_b40 Φ s⟩
def W47_b42 (Φ:EP) (s:St):Prop:=
 @sFl 14 0 2 s<|.mk fun s=>
 @sLd 15 1 14 false s<|.mk fun s=>
 @sOp (some 16) (xBin .eql false (s.τ 15) (.int .i64 2) s.H) s<|.mk fun s=>
 @sIf (s.τ 16) ⟨W47_b9 Φ s⟩ ⟨W47_b41 Φ s⟩
def W47 (Φ:EP) (s:St):Prop:=
 @sOp (some 2) (xBox 2 33 (s.τ 0) s.H) s<|.mk fun s=>
 @sOp (some 4) (xMov (.int .i64 0) s.H) s<|.mk fun s=>
 @sOp (some 5) (xMov (.int .i64 0) s.H) s<|.mk fun s=>
 @sFl 9 0 2 s<|.mk fun s=>
 @sLd 10 1 9 false s<|.mk fun s=>
 @sOp (some 11) (xBin .eql false (s.τ 10) (.int .i64 1) s.H) s<|.mk fun s=>
 @sIf (s.τ 11) ⟨W47_b1 Φ s⟩ ⟨W47_b42 Φ s⟩
theorem W47_rs (τ:Nat → AV) (H:Heap):resV Tryz.prog τ H [.tmp 4,.tmp 5] = ob (ob (some (τ 4)) fun v=>ob (ob (some (τ 5)) fun v=>ob (some []) fun vs=>some (v :: vs)) fun vs=>some (v :: vs)) fun vs=>some (.tup vs):=by kernel_rfl
theorem W47_eq (Φ:EP) (s:St):awp Tryz.prog (Tryz.f47.body.getD .skip) Φ s = W47 Φ s:=by kernel_rfl
theorem W47_S {args:List AV} {r:AV} (hl:args.length ≤ 117) (h:∀ vs,W47 (retK Tryz.prog [.tmp 4,.tmp 5] r) ⟨Am.look (argT 0 args),hls [] vs,noG⟩):Am.Spec Tryz.prog 47 args r:=.of_W (W:=W47) Tryz.func47 (by kernel_rfl) (by kernel_rfl) (by kernel_rfl) Tryz.ntmps47 W47_eq (by kernel_rfl) hl h
-- 48 "penance/stacks.Push"
def W48_k1 (Φ:EP) (s:St):Prop:=
 @sMv 24 7 s<|.mk fun s=>
 @sMv 6 24 s<|.mk fun s=>
 Φ .ret s
def W48_b3 (Φ:EP) (s:St):Prop:=
 @sMv 13 7 s<|.mk fun u1=>
 @sMv 14 1 u1<|.mk fun u2=>
 @sOp (some 15) (xIx 1 (u2.τ 13) (u2.τ 14) u2.H) u2<|.mk fun u3=>
 @sLd 16 1 15 false u3<|.mk fun u4=>
 @sLd 17 9 5 true u4<|.mk fun u5=>
 @sChk (compat (occ (u2.τ 13),[]) (cfp 18 88 [(u5.τ 17)])) <| .mk <|
 @sChk (compat (occ (u3.τ 15),[]) (cfp 18 88 [(u5.τ 17)])) <| .mk <|
 @sCall0 Tryz.prog (.func 88 []) [(u5.τ 17)] (some 18) u5<|.mk fun u6=>
 @sChk (compat (cfp 18 88 [(u5.τ 17)]) (occ (u6.τ 16),[])) <| .mk <|
 @sOp (some 19) (xLen (u6.τ 16) u6.H) u6<|.mk fun u7=>
 @sChk (compat (occ (u2.τ 13),[]) ([20] ++ occL [(.agg [.int .i64 0,.int .i64 0,.int .i64 0,.str ⟨#[]⟩,.int .i64 0,.int .i64 0,.str ⟨#[]⟩,.nils,.nils])],[20] ++ occL [(.agg [.int .i64 0,.int .i64 0,.int .i64 0,.str ⟨#[]⟩,.int .i64 0,.int .i64 0,.str ⟨#[]⟩,.nils,.nils])])) <| .mk <|
 @sChk (compat (occ (u3.τ 15),[]) ([20] ++ occL [(.agg [.int .i64 0,.int .i64 0,.int .i64 0,.str ⟨#[]⟩,.int .i64 0,.int .i64 0,.str ⟨#[]⟩,.nils,.nils])],[20] ++ occL [(.agg [.int .i64 0,.int .i64 0,.int .i64 0,.str ⟨#[]⟩,.int .i64 0,.int .i64 0,.str ⟨#[]⟩,.nils,.nils])])) <| .mk <|
 @sChk (compat (occ (u4.τ 5),[]) ([20] ++ occL [(.agg [.int .i64 0,.int .i64 0,.int .i64 0,.str ⟨#[]⟩,.int .i64 0,.int .i64 0,.str ⟨#[]⟩,.nils,.nils])],[20] ++ occL [(.agg [.int .i64 0,.int .i64 0,.int .i64 0,.str ⟨#[]⟩,.int .i64 0,.int .i64 0,.str ⟨#[]⟩,.nils,.nils])])) <| .mk <|
 @sChk (compat (cfp 18 88 [(u5.τ 17)]) ([20] ++ occL [(.agg [.int .i64 0,.int .i64 0,.int .i64 0,.str ⟨#[]⟩,.int .i64 0,.int .i64 0,.str ⟨#[]⟩,.nils,.nils])],[20] ++ occL [(.agg [.int .i64 0,.int .i64 0,.int .i64 0,.str ⟨#[]⟩,.int .i64 0,.int .i64 0,.str ⟨#[]⟩,.nils,.nils])])) <| .mk <|
 @sChk (compat (occ (u6.τ 16),[]) ([20] ++ occL [(.agg [.int .i64 0,.int .i64 0,.int .i64 0,.str ⟨#[]⟩,.int .i64 0,.int .i64 0,.str ⟨#[]⟩,.nils,.nils])],[20] ++ occL [(.agg [.int .i64 0,.int .i64 0,.int .i64 0,.str ⟨#[]⟩,.int .i64 0,.int .i64 0,.str ⟨#[]⟩,.nils,.nils])])) <| .mk <|
 @sOp (some 20) (xLit 9 1 [.int .i64 0,.int .i64 0,.int .i64 0,.str ⟨#[]⟩,.int .i64 0,.int .i64 0,.str ⟨#[]⟩,.nils,.nils] [(0,(.agg [.int .i64 0,.int .i64 0,.int .i64 0,.str ⟨#[]⟩,.int .i64 0,.int .i64 0,.str ⟨#[]⟩,.nils,.nils]))] u7.H) u7<|.mk fun u8=>
 @sOp (some 21) (xApp Tryz.prog 35 9 120 (some 21) (u8.τ 16) (u8.τ 20) u8.H) u8<|.mk fun u9=>
 @sOp (some 22) (xIx 9 (u9.τ 21) (u9.τ 19) u9.H) u9<|.mk fun u10=>
 @sOp none (xStore 9 (u10.τ 22) (u10.τ 18) u10.H) u10<|.mk fun u11=>
 @sChk (compat (occ (u10.τ 22),occ (u10.τ 22)) (occ (u11.τ 13),[])) <| .mk <|
 @sOp (some 23) (xIx 1 (u11.τ 13) (u11.τ 14) u11.H) u11<|.mk fun u12=>
 @sChk (compat (occ (u9.τ 21),[]) (occ (u12.τ 23),occ (u12.τ 23))) <| .mk <|
 @sChk (compat (occ (u10.τ 22),occ (u10.τ 22)) (occ (u12.τ 23),occ (u12.τ 23))) <| .mk <|
 @sOp none (xStore 1 (u12.τ 23) (u12.τ 21) u12.H) u12<|.mk fun s=>
 W48_k1 Φ s
def W48 (Φ:EP) (s:St):Prop:=
 @sOp (some 5) (xBox 5 35 (s.τ 2) s.H) s<|.mk fun s=>
 @sOp (some 6) (xMov (.nils) s.H) s<|.mk fun s=>
 @sMv 8 0 s<|.mk fun s=>
 @sCall Tryz.prog (.func 77 []) [(s.τ 8)] (some 9) s<|.mk fun s=>
 @sMv 7 9 s<|.mk fun s=>
 @sMv 10 7 s<|.mk fun s=>
 @sMv 11 1 s<|.mk fun s=>
 @sCall Tryz.prog (.func 78 []) [(s.τ 10),(s.τ 11)] (some 12) s<|.mk fun s=>
 @sIf (s.τ 12) ⟨W48_b3 Φ s⟩ ⟨W48_k1 Φ s⟩
theorem W48_rs (τ:Nat → AV) (H:Heap):resV Tryz.prog τ H [.tmp 6] = some (τ 6):=by kernel_rfl
theorem W48_eq (Φ:EP) (s:St):awp Tryz.prog (Tryz.f48.body.getD .skip) Φ s = W48 Φ s:=by kernel_rfl
theorem W48_S {args:List AV} {r:AV} (hl:args.length ≤ 25) (h:∀ vs,W48 (retK Tryz.prog [.tmp 6] r) ⟨Am.look (argT 0 args),hls [] vs,noG⟩):Am.Spec Tryz.prog 48 args r:=.of_W (W:=W48) Tryz.func48 (by kernel_rfl) (by kernel_rfl) (by kernel_rfl) Tryz.ntmps48 W48_eq (by kernel_rfl) hl h
-- 49 "penance/stacks.Reverse"
def W49_k2 (Φ:EP) (s:St):Prop:=
 @sLd 32 9 6 true s<|.mk fun u1=>
 @sMv 33 0 u1<|.mk fun u2=>
 @sMv 34 1 u2<|.mk fun u3=>
 @sChk (compat (occ (s.τ 6),[]) (cfp 35 50 [(u3.τ 33),(u3.τ 34)])) <| .mk <|
 @sCall0 Tryz.prog (.func 50 []) [(u3.τ 33),(u3.τ 34)] (some 35) u3<|.mk fun u4=>
 @sOp none (xStore 9 (u4.τ 4) (u4.τ 32) u4.H) u4<|.mk fun u5=>
 @sMv 5 35 u5<|.mk fun s=>
 Φ .ret s
def W49_k3 (Φ:EP) (L0:SP) (s:St):Prop:=
 @sOp (some 31) (xBin .add false (s.τ 17) (.int .i64 1) s.H) s<|.mk fun s=>
 @sMv 17 31 s<|.mk fun s=>
 L0 s
def W49_b5 (Φ:EP) (L0:SP) (s:St):Prop:=
 @sLd 24 9 8 true s<|.mk fun s=>
 @sCall Tryz.prog (.func 88 []) [(s.τ 24)] (some 25) s<|.mk fun s=>
 @sOp none (xStore 9 (s.τ 6) (s.τ 25) s.H) s<|.mk fun s=>
 W49_k3 Φ L0 s
def W49_b7 (Φ:EP) (L0:SP) (s:St):Prop:=
 @sLd 26 9 8 true s<|.mk fun u1=>
 @sCall0 Tryz.prog (.func 88 []) [(u1.τ 26)] (some 27) u1<|.mk fun u2=>
 @sChk (compat (cfp 27 88 [(u1.τ 26)]) (occ (u2.τ 6),[])) <| .mk <|
 @sLd 28 9 6 true u2<|.mk fun u3=>
 @sOp (some 29) (xLit 9 2 [.int .i64 0,.int .i64 0,.int .i64 0,.str ⟨#[]⟩,.int .i64 0,.int .i64 0,.str ⟨#[]⟩,.nils,.nils] [(0,(u3.τ 27)),(1,(u3.τ 28))] u3.H) u3<|.mk fun u4=>
 @sOp (some 30) (xBuild [.int .i64 0,.int .i64 0,.int .i64 0,.str ⟨#[]⟩,.int .i64 0,.int .i64 0,.str ⟨#[]⟩,.nils,.nils] [(0,1,(.int .i64 12)),(8,1,(u4.τ 29))] u4.H) u4<|.mk fun u5=>
 @sOp none (xStore 9 (u5.τ 6) (u5.τ 30) u5.H) u5<|.mk fun s=>
 W49_k3 Φ L0 s
def W49_b8 (Φ:EP) (L0:SP) (s:St):Prop:=
 @sMv 19 17 s<|.mk fun s=>
 @sOp (some 20) (xIx 9 (s.τ 15) (s.τ 17) s.H) s<|.mk fun s=>
 @sLd 21 9 20 true s<|.mk fun s=>
 @sOp (some 8) (xAlloc 8 35 [.int .i64 0,.int .i64 0,.int .i64 0,.str ⟨#[]⟩,.int .i64 0,.int .i64 0,.str ⟨#[]⟩,.nils,.nils] s.H) s<|.mk fun s=>
 @sMv 7 19 s<|.mk fun s=>
 @sOp none (xStore 9 (s.τ 8) (s.τ 21) s.H) s<|.mk fun s=>
 @sMv 22 7 s<|.mk fun s=>
 @sOp (some 23) (xBin .eql false (s.τ 22) (.int .i64 0) s.H) s<|.mk fun s=>
 @sIf (s.τ 23) ⟨W49_b5 Φ L0 s⟩ ⟨W49_b7 Φ L0 s⟩
def W49_l9 (Φ:EP) (L0:SP) (s:St):Prop:=
 @sOp (some 18) (xBin .lss false (s.τ 17) (s.τ 16) s.H) s<|.mk fun s=>
 @sIf (s.τ 18) ⟨W49_b8 Φ L0 s⟩ ⟨W49_k2 Φ s⟩
def W49_b10 (Φ:EP) (s:St):Prop:=
 @sMv 12 0 s<|.mk fun s=>
 @sMv 13 1 s<|.mk fun s=>
 @sOp (some 14) (xIx 1 (s.τ 12) (s.τ 13) s.H) s<|.mk fun s=>
 @sLd 15 1 14 false s<|.mk fun s=>
 @sOp (some 16) (xLen (s.τ 15) s.H) s<|.mk fun s=>
 @sOp (some 17) (xMov (.int .i64 0) s.H) s<|.mk fun s=>
 @sLoop s ⟨fun L0 s=>W49_l9 Φ L0 s⟩
def W49 (Φ:EP) (s:St):Prop:=
 @sOp (some 4) (xAlloc 4 35 [.int .i64 0,.int .i64 0,.int .i64 0,.str ⟨#[]⟩,.int .i64 0,.int .i64 0,.str ⟨#[]⟩,.nils,.nils] s.H) s<|.mk fun s=>
 @sOp (some 5) (xMov (.nils) s.H) s<|.mk fun s=>
 @sOp (some 6) (xAlloc 6 35 [.int .i64 0,.int .i64 0,.int .i64 0,.str ⟨#[]⟩,.int .i64 0,.int .i64 0,.str ⟨#[]⟩,.nils,.nils] s.H) s<|.mk fun s=>
 @sMv 9 0 s<|.mk fun s=>
 @sMv 10 1 s<|.mk fun s=>
 @sCall Tryz.prog (.func 78 []) [(s.τ 9),(s.τ 10)] (some 11) s<|.mk fun s=>
 @sIf (s.τ 11) ⟨W49_b10 Φ s⟩ ⟨W49_k2 Φ s⟩
theorem W49_rs (τ:Nat → AV) (H:Heap):resV Tryz.prog τ H [.cell 4 35,.tmp 5] = ob (ob (rdV H 9 true (τ 4)) fun v=>ob (ob (some (τ 5)) fun v=>ob (some []) fun vs=>some (v :: vs)) fun vs=>some (v :: vs)) fun vs=>some (.tup vs):=by kernel_rfl
theorem W49_eq (Φ:EP) (s:St):awp Tryz.prog (Tryz.f49.body.getD .skip) Φ s = W49 Φ s:=by kernel_rfl
theorem W49_S {args:List AV} {r:AV} (hl:args.length ≤ 36) (h:∀ vs,W49 (retK Tryz.prog [.cell 4 35,.tmp 5] r) ⟨Am.look (argT 0 args),hls [] vs,noG⟩):Am.Spec Tryz.prog 49 args r:=.of_W (W:=W49) Tryz.func49 (by kernel_rfl) (by kernel_rfl) (by kernel_rfl) Tryz.ntmps49 W49_eq (by kernel_rfl) hl h
-- 50 "penance/stacks.Accept"
def W50_k1 (Φ:EP) (s:St):Prop:=
 @sMv 14 5 s<|.mk fun s=>
 @sMv 4 14 s<|.mk fun s=>
 Φ .ret s
def W50_b2 (Φ:EP) (s:St):Prop:=
 @sMv 11 5 s<|.mk fun s=>
 @sMv 12 1 s<|.mk fun s=>
 @sOp (some 13) (xIx 1 (s.τ 11) (s.τ 12) s.H) s<|.mk fun s=>
 @sOp none (xStore 1 (s.τ 13) (.nils) s.H) s<|.mk fun s=>
 W50_k1 Φ s
def W50 (Φ:EP) (s:St):Prop:=
 @sOp (some 4) (xMov (.nils) s.H) s<|.mk fun s=>
 @sMv 6 0 s<|.mk fun s=>
 @sCall Tryz.prog (.func 77 []) [(s.τ 6)] (some 7) s<|.mk fun s=>
 @sMv 5 7 s<|.mk fun s=>
 @sMv 8 5 s<|.mk fun s=>
 @sMv 9 1 s<|.mk fun s=>
 @sCall Tryz.prog (.func 78 []) [(s.τ 8),(s.τ 9)] (some 10) s<|.mk fun s=>
 @sIf (s.τ 10) ⟨W50_b2 Φ s⟩ ⟨W50_k1 Φ s⟩
theorem W50_rs (τ:Nat → AV) (H:Heap):resV Tryz.prog τ H [.tmp 4] = some (τ 4):=by kernel_rfl
theorem W50_eq (Φ:EP) (s:St):awp Tryz.prog (Tryz.f50.body.getD .skip) Φ s = W50 Φ s:=by kernel_rfl
theorem W50_S {args:List AV} {r:AV} (hl:args.length ≤ 15) (h:∀ vs,W50 (retK Tryz.prog [.tmp 4] r) ⟨Am.look (argT 0 args),hls [] vs,noG⟩):Am.Spec Tryz.prog 50 args r:=.of_W (W:=W50) Tryz.func50 (by kernel_rfl) (by kernel_rfl) (by kernel_rfl) Tryz.ntmps50 W50_eq (by kernel_rfl) hl h
-- 51 "penance/run.block"
def W51_k1 (Φ:EP) (s:St):Prop:=
 @sMv 27 5 s<|.mk fun s=>
 @sMv 4 27 s<|.mk fun s=>
 Φ .ret s
def W51_k2 (Φ:EP) (L0:SP) (s:St):Prop:=
 @sFl 21 8 2 s<|.mk fun s=>
 @sLd 22 1 21 false s<|.mk fun s=>
 @sMv 23 7 s<|.mk fun s=>
 @sOp (some 24) (xIx 9 (s.τ 22) (s.τ 23) s.H) s<|.mk fun s=>
 @sLd 25 9 24 true s<|.mk fun s=>
 @sOp none (xStore 9 (s.τ 2) (s.τ 25) s.H) s<|.mk fun s=>
 @sOp (some 26) (xBin .add false (s.τ 10) (.int .i64 1) s.H) s<|.mk fun s=>
 @sMv 10 26 s<|.mk fun s=>
 L0 s
def W51_b3 (Φ:EP) (L0:SP) (s:St):Prop:=
 @sMv 18 1 s<|.mk fun s=>
 @sMv 19 6 s<|.mk fun s=>
 @sOp (some 20) (xSlc 1 (s.τ 18) none (some (s.τ 19)) s.H) s<|.mk fun s=>
 @sMv 5 20 s<|.mk fun s=>
 W51_k2 Φ L0 s
def W51_b4 (Φ:EP) (L0:SP) (s:St):Prop:=
 @sMv 12 10 s<|.mk fun s=>
 @sOp (some 13) (xIx 1 (s.τ 8) (s.τ 10) s.H) s<|.mk fun s=>
 @sLd 14 1 13 false s<|.mk fun s=>
 @sMv 6 12 s<|.mk fun s=>
 @sMv 7 14 s<|.mk fun s=>
 @sFl 15 0 2 s<|.mk fun s=>
 @sLd 16 1 15 false s<|.mk fun s=>
 @sOp (some 17) (xBin .eql false (s.τ 16) (.int .i64 7) s.H) s<|.mk fun s=>
 @sIf (s.τ 17) ⟨W51_b3 Φ L0 s⟩ ⟨W51_k2 Φ L0 s⟩
def W51_l5 (Φ:EP) (L0:SP) (s:St):Prop:=
 @sOp (some 11) (xBin .lss false (s.τ 10) (s.τ 9) s.H) s<|.mk fun s=>
 @sIf (s.τ 11) ⟨W51_b4 Φ L0 s⟩ ⟨W51_k1 Φ s⟩
def W51 (Φ:EP) (s:St):Prop:=
 @sOp (some 2) (xBox 2 35 (s.τ 0) s.H) s<|.mk fun s=>
 @sOp (some 4) (xMov (.nils) s.H) s<|.mk fun s=>
 @sOp (some 5) (xMov (.nils) s.H) s<|.mk fun s=>
 @sMv 8 1 s<|.mk fun s=>
 @sOp (some 9) (xLen (s.τ 8) s.H) s<|.mk fun s=>
 @sOp (some 10) (xMov (.int .i64 0) s.H) s<|.mk fun s=>
 @sLoop s ⟨fun L0 s=>W51_l5 Φ L0 s⟩
theorem W51_rs (τ:Nat → AV) (H:Heap):resV Tryz.prog τ H [.tmp 4] = some (τ 4):=by kernel_rfl
theorem W51_eq (Φ:EP) (s:St):awp Tryz.prog (Tryz.f51.body.getD .skip) Φ s = W51 Φ s:=by kernel_rfl
theorem W51_S {args:List AV} {r:AV} (hl:args.length ≤ 28) (h:∀ vs,W51 (retK Tryz.prog [.tmp 4] r) ⟨Am.look (argT 0 args),hls [] vs,noG⟩):Am.Spec Tryz.prog 51 args r:=.of_W (W:=W51) Tryz.func51 (by kernel_rfl) (by kernel_rfl) (by kernel_rfl) Tryz.ntmps51 W51_eq (by kernel_rfl) hl h
-- 52 "penance/stacks.Size"
def W52_k1 (Φ:EP) (s:St):Prop:=
 @sMv 26 3 s<|.mk fun s=>
 @sMv 2 26 s<|.mk fun s=>
 Φ .ret s
def W52_k2 (Φ:EP) (L0:SP) (s:St):Prop:=
 @sOp (some 25) (xBin .add false (s.τ 10) (.int .i64 1) s.H) s<|.mk fun s=>
 @sMv 10 25 s<|.mk fun s=>
 L0 s
def W52_b4 (Φ:EP) (L0:SP) (L1:SP) (s:St):Prop:=
 @sOp (some 18) (xIx 9 (s.τ 14) (s.τ 16) s.H) s<|.mk fun s=>
 @sLd 19 9 18 true s<|.mk fun s=>
 @sOp (some 7) (xAlloc 7 35 [.int .i64 0,.int .i64 0,.int .i64 0,.str ⟨#[]⟩,.int .i64 0,.int .i64 0,.str ⟨#[]⟩,.nils,.nils] s.H) s<|.mk fun s=>
 @sOp none (xStore 9 (s.τ 7) (s.τ 19) s.H) s<|.mk fun s=>
 @sMv 20 3 s<|.mk fun s=>
 @sLd 21 9 7 true s<|.mk fun s=>
 @sCall Tryz.prog (.func 38 []) [(s.τ 21)] (some 22) s<|.mk fun s=>
 @sOp (some 23) (xBin .add false (s.τ 20) (s.τ 22) s.H) s<|.mk fun s=>
 @sMv 3 23 s<|.mk fun s=>
 @sOp (some 24) (xBin .add false (s.τ 16) (.int .i64 1) s.H) s<|.mk fun s=>
 @sMv 16 24 s<|.mk fun s=>
 L1 s
def W52_l5 (Φ:EP) (L0:SP) (L1:SP) (s:St):Prop:=
 @sOp (some 17) (xBin .lss false (s.τ 16) (s.τ 15) s.H) s<|.mk fun s=>
 @sIf (s.τ 17) ⟨W52_b4 Φ L0 L1 s⟩ ⟨W52_k2 Φ L0 s⟩
def W52_b6 (Φ:EP) (L0:SP) (s:St):Prop:=
 @sOp (some 12) (xIx 1 (s.τ 8) (s.τ 10) s.H) s<|.mk fun s=>
 @sLd 13 1 12 false s<|.mk fun s=>
 @sMv 5 13 s<|.mk fun s=>
 @sMv 14 5 s<|.mk fun s=>
 @sOp (some 15) (xLen (s.τ 14) s.H) s<|.mk fun s=>
 @sOp (some 16) (xMov (.int .i64 0) s.H) s<|.mk fun s=>
 @sLoop s ⟨fun L1 s=>W52_l5 Φ L0 L1 s⟩
def W52_l7 (Φ:EP) (L0:SP) (s:St):Prop:=
 @sOp (some 11) (xBin .lss false (s.τ 10) (s.τ 9) s.H) s<|.mk fun s=>
 @sIf (s.τ 11) ⟨W52_b6 Φ L0 s⟩ ⟨W52_k1 Φ s⟩
def W52 (Φ:EP) (s:St):Prop:=
 @sOp (some 2) (xMov (.int .i64 0) s.H) s<|.mk fun s=>
 @sOp (some 3) (xMov (.int .i64 0) s.H) s<|.mk fun s=>
 @sMv 8 0 s<|.mk fun s=>
 @sOp (some 9) (xLen (s.τ 8) s.H) s<|.mk fun s=>
 @sOp (some 10) (xMov (.int .i64 0) s.H) s<|.mk fun s=>
 @sLoop s ⟨fun L0 s=>W52_l7 Φ L0 s⟩
theorem W52_rs (τ:Nat → AV) (H:Heap):resV Tryz.prog τ H [.tmp 2] = some (τ 2):=by kernel_rfl
theorem W52_eq (Φ:EP) (s:St):awp Tryz.prog (Tryz.f52.body.getD .skip) Φ s = W52 Φ s:=by kernel_rfl
theorem W52_S {args:List AV} {r:AV} (hl:args.length ≤ 27) (h:∀ vs,W52 (retK Tryz.prog [.tmp 2] r) ⟨Am.look (argT 0 args),hls [] vs,noG⟩):Am.Spec Tryz.prog 52 args r:=.of_W (W:=W52) Tryz.func52 (by kernel_rfl) (by kernel_rfl) (by kernel_rfl) Tryz.ntmps52 W52_eq (by kernel_rfl) hl h
end Go.Proofs.YtnngddgaobhkiaaGreat
set_option linter.unusedVariables false
set_option maxRecDepth 100000
namespace Go.Proofs.YtnngddgaobhkiaaGreat
open Go Go.Am
-- 63 "penance/penanceref5.Active"
def W63_b1 (Φ:EP) (s:St):Prop:=
 @sOp (some 2) (xMov (.int .i64 1) s.H) s<|.mk fun s=>
 Φ .ret s
def W63_b2 (Φ:EP) (s:St):Prop:=
 @sOp (some 2) (xMov (.int .i64 2) s.H) s<|.mk fun s=>
 Φ .ret s
def W63_b3 (Φ:EP) (s:St):Prop:=
 @sOp (some 2) (xMov (.int .i64 0) s.H) s<|.mk fun s=>
 Φ .ret s
def W63_b4 (Φ:EP) (s:St):Prop:=
 @sOp (some 9) (xBin .eql false (s.τ 4) (.int .i64 11) s.H) s<|.mk fun s=>
 @sMv 8 9 s<|.mk fun s=>
 @sIf (s.τ 8) ⟨W63_b2 Φ s⟩ ⟨W63_b3 Φ s⟩
def W63_k5 (Φ:EP) (s:St):Prop:=
 @sIf (s.τ 5) ⟨W63_b1 Φ s⟩ ⟨W63_b4 Φ s⟩
def W63_b6 (Φ:EP) (s:St):Prop:=
 @sOp (some 7) (xBin .eql false (s.τ 4) (.int .i64 7) s.H) s<|.mk fun s=>
 @sMv 5 7 s<|.mk fun s=>
 W63_k5 Φ s
def W63 (Φ:EP) (s:St):Prop:=
 @sOp (some 1) (xBox 1 35 (s.τ 0) s.H) s<|.mk fun s=>
 @sOp (some 2) (xMov (.int .i64 0) s.H) s<|.mk fun s=>
 @sFl 3 0 1 s<|.mk fun s=>
 @sLd 4 1 3 false s<|.mk fun s=>
 @sOp (some 6) (xBin .eql false (s.τ 4) (.int .i64 12) s.H) s<|.mk fun s=>
 @sMv 5 6 s<|.mk fun s=>
 @sIf (s.τ 5) ⟨W63_k5 Φ s⟩ ⟨W63_b6 Φ s⟩
theorem W63_rs (τ:Nat → AV) (H:Heap):resV Tryz.prog τ H [.tmp 2] = some (τ 2):=by kernel_rfl
theorem W63_eq (Φ:EP) (s:St):awp Tryz.prog (Tryz.f63.body.getD .skip) Φ s = W63 Φ s:=by kernel_rfl
theorem W63_S {args:List AV} {r:AV} (hl:args.length ≤ 10) (h:∀ vs,W63 (retK Tryz.prog [.tmp 2] r) ⟨Am.look (argT 0 args),hls [] vs,noG⟩):Am.Spec Tryz.prog 63 args r:=.of_W (W:=W63) Tryz.func63 (by kernel_rfl) (by kernel_rfl) (by kernel_rfl) Tryz.ntmps63 W63_eq (by kernel_rfl) hl h
-- 64 "penance/penancelaw2.Few"
def W64 (Φ:EP) (s:St):Prop:=
 @sOp (some 2) (xMov (.bool false) s.H) s<|.mk fun s=>
 @sMv 3 0 s<|.mk fun s=>
 @sCall Tryz.prog (.func 95 []) [(s.τ 3),(.int .i64 0)] (some 4) s<|.mk fun s=>
 @sOp (some 5) (xBin .leq false (s.τ 4) (.int .i64 20) s.H) s<|.mk fun s=>
 @sMv 2 5 s<|.mk fun s=>
 Φ .ret s
theorem W64_rs (τ:Nat → AV) (H:Heap):resV Tryz.prog τ H [.tmp 2] = some (τ 2):=by kernel_rfl
theorem W64_eq (Φ:EP) (s:St):awp Tryz.prog (Tryz.f64.body.getD .skip) Φ s = W64 Φ s:=by kernel_rfl
theorem W64_S {args:List AV} {r:AV} (hl:args.length ≤ 6) (h:∀ vs,W64 (retK Tryz.prog [.tmp 2] r) ⟨Am.look (argT 0 args),hls [] vs,noG⟩):Am.Spec Tryz.prog 64 args r:=.of_W (W:=W64) Tryz.func64 (by kernel_rfl) (by kernel_rfl) (by kernel_rfl) Tryz.ntmps64 W64_eq (by kernel_rfl) hl h
-- 65 "penance/penanceref4.names"
def W65_k1 (Φ:EP) (s:St):Prop:=
 @sMv 40 4 s<|.mk fun s=>
 @sMv 41 5 s<|.mk fun s=>
 @sMv 2 40 s<|.mk fun s=>
 @sMv 3 41 s<|.mk fun s=>
 Φ .ret s
def W65_b2 (Φ:EP) (L0:SP) (s:St):Prop:=
 @sMv 31 5 s<|.mk fun s=>
 @sFl 32 2 1 s<|.mk fun s=>
 @sLd 33 1 32 false s<|.mk fun s=>
 @sMv 34 7 s<|.mk fun s=>
 @sOp (some 35) (xIx 9 (s.τ 33) (s.τ 34) s.H) s<|.mk fun s=>
 @sFl 36 0 35 s<|.mk fun s=>
 @sLd 37 1 36 false s<|.mk fun s=>
 @sOp (some 38) (xLit 1 1 [.str ⟨#[]⟩] [(0,(s.τ 37))] s.H) s<|.mk fun s=>
 @sOp (some 39) (xApp Tryz.prog 9 1 16 (some 39) (s.τ 31) (s.τ 38) s.H) s<|.mk fun s=>
 @sMv 5 39 s<|.mk fun s=>
 @sMv 29 7 s<|.mk fun s=>
 @sOp (some 30) (xBin .add false (s.τ 29) (.int .i64 1) s.H) s<|.mk fun s=>
 @sMv 7 30 s<|.mk fun s=>
 L0 s
def W65_l3 (Φ:EP) (L0:SP) (s:St):Prop:=
 @sMv 24 7 s<|.mk fun s=>
 @sFl 25 2 1 s<|.mk fun s=>
 @sLd 26 1 25 false s<|.mk fun s=>
 @sOp (some 27) (xLen (s.τ 26) s.H) s<|.mk fun s=>
 @sOp (some 28) (xBin .lss false (s.τ 24) (s.τ 27) s.H) s<|.mk fun s=>
 @sIf (s.τ 28) ⟨W65_b2 Φ L0 s⟩ ⟨W65_k1 Φ s⟩
def W65_k4 (Φ:EP) (s:St):Prop:=
 @sOp (some 7) (xMov (.int .i64 0) s.H) s<|.mk fun s=>
 @sLoop s ⟨fun L0 s=>W65_l3 Φ L0 s⟩
def W65_b5 (Φ:EP) (L0:SP) (s:St):Prop:=
 @sMv 15 4 s<|.mk fun s=>
 @sFl 16 0 1 s<|.mk fun s=>
 @sLd 17 1 16 false s<|.mk fun s=>
 @sMv 18 6 s<|.mk fun s=>
 @sOp (some 19) (xIx 2 (s.τ 17) (s.τ 18) s.H) s<|.mk fun s=>
 @sFl 20 0 19 s<|.mk fun s=>
 @sLd 21 1 20 false s<|.mk fun s=>
 @sOp (some 22) (xLit 1 1 [.str ⟨#[]⟩] [(0,(s.τ 21))] s.H) s<|.mk fun s=>
 @sOp (some 23) (xApp Tryz.prog 9 1 16 (some 23) (s.τ 15) (s.τ 22) s.H) s<|.mk fun s=>
 @sMv 4 23 s<|.mk fun s=>
 @sMv 13 6 s<|.mk fun s=>
 @sOp (some 14) (xBin .add false (s.τ 13) (.int .i64 1) s.H) s<|.mk fun s=>
 @sMv 6 14 s<|.mk fun s=>
 L0 s
def W65_l6 (Φ:EP) (L0:SP) (s:St):Prop:=
 @sMv 8 6 s<|.mk fun s=>
 @sFl 9 0 1 s<|.mk fun s=>
 @sLd 10 1 9 false s<|.mk fun s=>
 @sOp (some 11) (xLen (s.τ 10) s.H) s<|.mk fun s=>
 @sOp (some 12) (xBin .lss false (s.τ 8) (s.τ 11) s.H) s<|.mk fun s=>
 @sIf (s.τ 12) ⟨W65_b5 Φ L0 s⟩ ⟨W65_k4 Φ s⟩
def W65 (Φ:EP) (s:St):Prop:=
 @sOp (some 1) (xBox 1 76 (s.τ 0) s.H) s<|.mk fun s=>
 @sOp (some 2) (xMov (.nils) s.H) s<|.mk fun s=>
 @sOp (some 3) (xMov (.nils) s.H) s<|.mk fun s=>
 @sOp (some 4) (xMov (.nils) s.H) s<|.mk fun s=>
 @sOp (some 5) (xMov (.nils) s.H) s<|.mk fun s=>
 @sOp (some 6) (xMov (.int .i64 0) s.H) s<|.mk fun s=>
 @sLoop s ⟨fun L0 s=>W65_l6 Φ L0 s⟩
theorem W65_rs (τ:Nat → AV) (H:Heap):resV Tryz.prog τ H [.tmp 2,.tmp 3] = ob (ob (some (τ 2)) fun v=>ob (ob (some (τ 3)) fun v=>ob (some []) fun vs=>some (v :: vs)) fun vs=>some (v :: vs)) fun vs=>some (.tup vs):=by kernel_rfl
theorem W65_eq (Φ:EP) (s:St):awp Tryz.prog (Tryz.f65.body.getD .skip) Φ s = W65 Φ s:=by kernel_rfl
theorem W65_S {args:List AV} {r:AV} (hl:args.length ≤ 42) (h:∀ vs,W65 (retK Tryz.prog [.tmp 2,.tmp 3] r) ⟨Am.look (argT 0 args),hls [] vs,noG⟩):Am.Spec Tryz.prog 65 args r:=.of_W (W:=W65) Tryz.func65 (by kernel_rfl) (by kernel_rfl) (by kernel_rfl) Tryz.ntmps65 W65_eq (by kernel_rfl) hl h
-- 66 "penance/penanceref4.twice"
def W66_k1 (Φ:EP) (s:St):Prop:=
 @sOp (some 2) (xMov (.bool false) s.H) s<|.mk fun s=>
 Φ .ret s
def W66_b2 (Φ:EP) (L0:SP) (s:St):Prop:=
 @sOp (some 2) (xMov (.bool true) s.H) s<|.mk fun s=>
 Φ .ret s
def W66_b3 (Φ:EP) (L0:SP) (s:St):Prop:=
 @sMv 8 3 s<|.mk fun s=>
 @sOp (some 9) (xBin .add false (s.τ 8) (.int .i64 1) s.H) s<|.mk fun s=>
 @sMv 3 9 s<|.mk fun s=>
 L0 s
def W66_b5 (Φ:EP) (L0:SP) (s:St):Prop:=
 @sMv 10 0 s<|.mk fun s=>
 @sMv 11 0 s<|.mk fun s=>
 @sMv 12 3 s<|.mk fun s=>
 @sOp (some 13) (xIx 1 (s.τ 11) (s.τ 12) s.H) s<|.mk fun s=>
 @sLd 14 1 13 false s<|.mk fun s=>
 @sCall Tryz.prog (.func 67 []) [(s.τ 10),(s.τ 14)] (some 15) s<|.mk fun s=>
 @sMv 16 3 s<|.mk fun s=>
 @sOp (some 17) (xBin .neq false (s.τ 15) (s.τ 16) s.H) s<|.mk fun s=>
 @sIf (s.τ 17) ⟨W66_b2 Φ L0 s⟩ ⟨W66_b3 Φ L0 s⟩
def W66_l6 (Φ:EP) (L0:SP) (s:St):Prop:=
 @sMv 4 3 s<|.mk fun s=>
 @sMv 5 0 s<|.mk fun s=>
 @sOp (some 6) (xLen (s.τ 5) s.H) s<|.mk fun s=>
 @sOp (some 7) (xBin .lss false (s.τ 4) (s.τ 6) s.H) s<|.mk fun s=>
 @sIf (s.τ 7) ⟨W66_b5 Φ L0 s⟩ ⟨W66_k1 Φ s⟩
def W66 (Φ:EP) (s:St):Prop:=
 @sOp (some 2) (xMov (.bool false) s.H) s<|.mk fun s=>
 @sOp (some 3) (xMov (.int .i64 0) s.H) s<|.mk fun s=>
 @sLoop s ⟨fun L0 s=>W66_l6 Φ L0 s⟩
theorem W66_rs (τ:Nat → AV) (H:Heap):resV Tryz.prog τ H [.tmp 2] = some (τ 2):=by kernel_rfl
theorem W66_eq (Φ:EP) (s:St):awp Tryz.prog (Tryz.f66.body.getD .skip) Φ s = W66 Φ s:=by kernel_rfl
theorem W66_S {args:List AV} {r:AV} (hl:args.length ≤ 18) (h:∀ vs,W66 (retK Tryz.prog [.tmp 2] r) ⟨Am.look (argT 0 args),hls [] vs,noG⟩):Am.Spec Tryz.prog 66 args r:=.of_W (W:=W66) Tryz.func66 (by kernel_rfl) (by kernel_rfl) (by kernel_rfl) Tryz.ntmps66 W66_eq (by kernel_rfl) hl h
-- 67 "penance/penanceref4.find"
def W67_k1 (Φ:EP) (s:St):Prop:=
 @sOp (some 4) (xMov (.int .i64 (-1)) s.H) s<|.mk fun s=>
 Φ .ret s
def W67_b2 (Φ:EP) (L0:SP) (s:St):Prop:=
 @sMv 18 5 s<|.mk fun s=>
 @sMv 4 18 s<|.mk fun s=>
 Φ .ret s
def W67_b3 (Φ:EP) (L0:SP) (s:St):Prop:=
 @sMv 10 5 s<|.mk fun s=>
 @sOp (some 11) (xBin .add false (s.τ 10) (.int .i64 1) s.H) s<|.mk fun s=>
 @sMv 5 11 s<|.mk fun s=>
 L0 s
def W67_b4 (Φ:EP) (L0:SP) (s:St):Prop:=
 @sMv 12 0 s<|.mk fun s=>
 @sMv 13 5 s<|.mk fun s=>
 @sOp (some 14) (xIx 1 (s.τ 12) (s.τ 13) s.H) s<|.mk fun s=>
 @sLd 15 1 14 false s<|.mk fun s=>
 @sMv 16 1 s<|.mk fun s=>
 @sOp (some 17) (xBin .eql false (s.τ 15) (s.τ 16) s.H) s<|.mk fun s=>
 @sIf (s.τ 17) ⟨W67_b2 Φ L0 s⟩ ⟨W67_b3 Φ L0 s⟩
def W67_l5 (Φ:EP) (L0:SP) (s:St):Prop:=
 @sMv 6 5 s<|.mk fun s=>
 @sMv 7 0 s<|.mk fun s=>
 @sOp (some 8) (xLen (s.τ 7) s.H) s<|.mk fun s=>
 @sOp (some 9) (xBin .lss false (s.τ 6) (s.τ 8) s.H) s<|.mk fun s=>
 @sIf (s.τ 9) ⟨W67_b4 Φ L0 s⟩ ⟨W67_k1 Φ s⟩
def W67 (Φ:EP) (s:St):Prop:=
 @sOp (some 4) (xMov (.int .i64 0) s.H) s<|.mk fun s=>
 @sOp (some 5) (xMov (.int .i64 0) s.H) s<|.mk fun s=>
 @sLoop s ⟨fun L0 s=>W67_l5 Φ L0 s⟩
theorem W67_rs (τ:Nat → AV) (H:Heap):resV Tryz.prog τ H [.tmp 4] = some (τ 4):=by kernel_rfl
theorem W67_eq (Φ:EP) (s:St):awp Tryz.prog (Tryz.f67.body.getD .skip) Φ s = W67 Φ s:=by kernel_rfl
theorem W67_S {args:List AV} {r:AV} (hl:args.length ≤ 19) (h:∀ vs,W67 (retK Tryz.prog [.tmp 4] r) ⟨Am.look (argT 0 args),hls [] vs,noG⟩):Am.Spec Tryz.prog 67 args r:=.of_W (W:=W67) Tryz.func67 (by kernel_rfl) (by kernel_rfl) (by kernel_rfl) Tryz.ntmps67 W67_eq (by kernel_rfl) hl h
-- 68 "(*penance/penanceref4.lower).proc"
def W68_k1 (Φ:EP) (s:St):Prop:=
 @sLd 116 9 5 true s<|.mk fun s=>
 @sOp none (xStore 9 (s.τ 4) (s.τ 116) s.H) s<|.mk fun s=>
 Φ .ret s
def W68_b3 (Φ:EP) (L0:SP) (s:St):Prop:=
 @sFl 104 8 5 s<|.mk fun u1=>
 @sLd 105 1 104 false u1<|.mk fun u2=>
 @sMv 106 0 u2<|.mk fun u3=>
 @sFl 107 7 3 u3<|.mk fun u4=>
 @sLd 108 1 107 false u4<|.mk fun u5=>
 @sMv 109 6 u5<|.mk fun u6=>
 @sOp (some 110) (xIx 8 (u6.τ 108) (u6.τ 109) u6.H) u6<|.mk fun u7=>
 @sLd 111 8 110 true u7<|.mk fun u8=>
 @sChk (compat (occ (s.τ 5),[]) (cfp 112 68 [(u8.τ 106),(u8.τ 111)])) <| .mk <|
 @sChk (compat (occ (u1.τ 104),[]) (cfp 112 68 [(u8.τ 106),(u8.τ 111)])) <| .mk <|
 @sCall0 Tryz.prog (.func 68 []) [(u8.τ 106),(u8.τ 111)] (some 112) u8<|.mk fun u9=>
 @sChk (compat (occ (s.τ 5),[]) ([113] ++ occL [(u9.τ 112)],[113] ++ occL [(u9.τ 112)])) <| .mk <|
 @sChk (compat (occ (u1.τ 104),[]) ([113] ++ occL [(u9.τ 112)],[113] ++ occL [(u9.τ 112)])) <| .mk <|
 @sOp (some 113) (xLit 9 1 [.int .i64 0,.int .i64 0,.int .i64 0,.str ⟨#[]⟩,.int .i64 0,.int .i64 0,.str ⟨#[]⟩,.nils,.nils] [(0,(u9.τ 112))] u9.H) u9<|.mk fun u10=>
 @sOp (some 114) (xApp Tryz.prog 35 9 120 (some 114) (u10.τ 105) (u10.τ 113) u10.H) u10<|.mk fun u11=>
 @sFl 115 8 5 u11<|.mk fun u12=>
 @sOp none (xStore 1 (u12.τ 115) (u12.τ 114) u12.H) u12<|.mk fun s=>
 @sMv 102 6 s<|.mk fun s=>
 @sOp (some 103) (xBin .add false (s.τ 102) (.int .i64 1) s.H) s<|.mk fun s=>
 @sMv 6 103 s<|.mk fun s=>
 L0 s
def W68_l4 (Φ:EP) (L0:SP) (s:St):Prop:=
 @sMv 97 6 s<|.mk fun s=>
 @sFl 98 7 3 s<|.mk fun s=>
 @sLd 99 1 98 false s<|.mk fun s=>
 @sOp (some 100) (xLen (s.τ 99) s.H) s<|.mk fun s=>
 @sOp (some 101) (xBin .lss false (s.τ 97) (s.τ 100) s.H) s<|.mk fun s=>
 @sIf (s.τ 101) ⟨W68_b3 Φ L0 s⟩ ⟨W68_k1 Φ s⟩
def W68_k5 (Φ:EP) (s:St):Prop:=
 @sOp (some 6) (xMov (.int .i64 0) s.H) s<|.mk fun s=>
 @sLoop s ⟨fun L0 s=>W68_l4 Φ L0 s⟩
def W68_b7 (Φ:EP) (s:St):Prop:=
 @sMv 21 0 s<|.mk fun s=>
 @sMv 22 0 s<|.mk fun s=>
 @sOp (some 23) (xNil (s.τ 22) s.H) s<|.mk fun s=>
 @sFl 24 0 23 s<|.mk fun s=>
 @sLd 25 1 24 false s<|.mk fun s=>
 @sFl 26 2 3 s<|.mk fun s=>
 @sLd 27 1 26 false s<|.mk fun s=>
 @sCall0 Tryz.prog (.func 96 []) [(s.τ 21),(s.τ 25),(s.τ 27)] (some 28) s<|.mk fun s=>
 @sFl 29 1 5 s<|.mk fun s=>
 @sOp none (xStore 1 (s.τ 29) (s.τ 28) s.H) s<|.mk fun s=>
 W68_k5 Φ s
def W68_b8 (Φ:EP) (s:St):Prop:=
 @sFl 14 1 3 s<|.mk fun s=>
 @sLd 15 1 14 false s<|.mk fun s=>
 @sFl 16 3 5 s<|.mk fun s=>
 @sOp none (xStore 1 (s.τ 16) (s.τ 15) s.H) s<|.mk fun s=>
 @sFl 17 1 5 s<|.mk fun s=>
 @sOp none (xStore 1 (s.τ 17) (.int .i64 (-1)) s.H) s<|.mk fun s=>
 @sFl 18 2 3 s<|.mk fun s=>
 @sLd 19 1 18 false s<|.mk fun s=>
 @sOp (some 20) (xBin .neq false (s.τ 19) (.str ⟨#[]⟩) s.H) s<|.mk fun s=>
 @sIf (s.τ 20) ⟨W68_b7 Φ s⟩ ⟨W68_k5 Φ s⟩
def W68_b11 (Φ:EP) (s:St):Prop:=
 @sMv 32 0 s<|.mk fun u1=>
 @sMv 33 0 u1<|.mk fun u2=>
 @sOp (some 34) (xNil (u2.τ 33) u2.H) u2<|.mk fun u3=>
 @sFl 35 0 34 u3<|.mk fun u4=>
 @sLd 36 1 35 false u4<|.mk fun u5=>
 @sFl 37 2 3 u5<|.mk fun u6=>
 @sLd 38 1 37 false u6<|.mk fun u7=>
 @sCall0 Tryz.prog (.func 96 []) [(u7.τ 32),(u7.τ 36),(u7.τ 38)] (some 39) u7<|.mk fun u8=>
 @sMv 40 0 u8<|.mk fun u9=>
 @sChk (compat (cfp 39 96 [(u7.τ 32),(u7.τ 36),(u7.τ 38)]) (occ (u9.τ 3),[])) <| .mk <|
 @sFl 41 3 3 u9<|.mk fun u10=>
 @sChk (compat (cfp 39 96 [(u7.τ 32),(u7.τ 36),(u7.τ 38)]) (occ (u10.τ 41),[])) <| .mk <|
 @sLd 42 4 41 true u10<|.mk fun u11=>
 @sCall0 Tryz.prog (.func 97 []) [(u11.τ 40),(u11.τ 42)] (some 43) u11<|.mk fun u12=>
 @sChk (compat (cfp 43 97 [(u11.τ 40),(u11.τ 42)]) (occ (u12.τ 5),[])) <| .mk <|
 @sFl 44 1 5 u12<|.mk fun u13=>
 @sOp none (xStore 1 (u13.τ 44) (u13.τ 39) u13.H) u13<|.mk fun u14=>
 @sFl 45 4 5 u14<|.mk fun u15=>
 @sOp none (xStore 4 (u15.τ 45) (u15.τ 43) u15.H) u15<|.mk fun s=>
 W68_k5 Φ s
def W68_b13 (Φ:EP) (s:St):Prop:=
 @sMv 50 0 s<|.mk fun s=>
 @sMv 51 0 s<|.mk fun s=>
 @sOp (some 52) (xNil (s.τ 51) s.H) s<|.mk fun s=>
 @sFl 53 1 52 s<|.mk fun s=>
 @sLd 54 1 53 false s<|.mk fun s=>
 @sFl 55 1 3 s<|.mk fun s=>
 @sLd 56 1 55 false s<|.mk fun s=>
 @sCall0 Tryz.prog (.func 96 []) [(s.τ 50),(s.τ 54),(s.τ 56)] (some 57) s<|.mk fun s=>
 @sFl 58 1 5 s<|.mk fun s=>
 @sOp none (xStore 1 (s.τ 58) (s.τ 57) s.H) s<|.mk fun s=>
 W68_k5 Φ s
def W68_b16 (Φ:EP) (s:St):Prop:=
 @sMv 61 0 s<|.mk fun u1=>
 @sMv 62 0 u1<|.mk fun u2=>
 @sOp (some 63) (xNil (u2.τ 62) u2.H) u2<|.mk fun u3=>
 @sFl 64 1 63 u3<|.mk fun u4=>
 @sLd 65 1 64 false u4<|.mk fun u5=>
 @sFl 66 1 3 u5<|.mk fun u6=>
 @sLd 67 1 66 false u6<|.mk fun u7=>
 @sCall0 Tryz.prog (.func 96 []) [(u7.τ 61),(u7.τ 65),(u7.τ 67)] (some 68) u7<|.mk fun u8=>
 @sMv 69 0 u8<|.mk fun u9=>
 @sMv 70 0 u9<|.mk fun u10=>
 @sChk (compat (cfp 68 96 [(u7.τ 61),(u7.τ 65),(u7.τ 67)]) (occ (u10.τ 70),[])) <| .mk <|
 @sOp (some 71) (xNil (u10.τ 70) u10.H) u10<|.mk fun u11=>
 @sChk (compat (cfp 68 96 [(u7.τ 61),(u7.τ 65),(u7.τ 67)]) (occ (u11.τ 71),[])) <| .mk <|
 @sFl 72 1 71 u11<|.mk fun u12=>
 @sChk (compat (cfp 68 96 [(u7.τ 61),(u7.τ 65),(u7.τ 67)]) (occ (u12.τ 72),[])) <| .mk <|
 @sLd 73 1 72 false u12<|.mk fun u13=>
 @sChk (compat (cfp 68 96 [(u7.τ 61),(u7.τ 65),(u7.τ 67)]) (occ (u13.τ 3),[])) <| .mk <|
 @sFl 74 2 3 u13<|.mk fun u14=>
 @sChk (compat (cfp 68 96 [(u7.τ 61),(u7.τ 65),(u7.τ 67)]) (occ (u14.τ 74),[])) <| .mk <|
 @sLd 75 1 74 false u14<|.mk fun u15=>
 @sCall0 Tryz.prog (.func 96 []) [(u15.τ 69),(u15.τ 73),(u15.τ 75)] (some 76) u15<|.mk fun u16=>
 @sChk (compat (cfp 76 96 [(u15.τ 69),(u15.τ 73),(u15.τ 75)]) (occ (u16.τ 5),[])) <| .mk <|
 @sFl 77 1 5 u16<|.mk fun u17=>
 @sOp none (xStore 1 (u17.τ 77) (u17.τ 68) u17.H) u17<|.mk fun u18=>
 @sFl 78 2 5 u18<|.mk fun u19=>
 @sOp none (xStore 1 (u19.τ 78) (u19.τ 76) u19.H) u19<|.mk fun s=>
 W68_k5 Φ s
def W68_b18 (Φ:EP) (s:St):Prop:=
 @sMv 81 0 s<|.mk fun s=>
 @sFl 82 3 3 s<|.mk fun s=>
 @sLd 83 4 82 true s<|.mk fun s=>
 @sCall Tryz.prog (.func 97 []) [(s.τ 81),(s.τ 83)] (some 84) s<|.mk fun s=>
 @sFl 85 4 5 s<|.mk fun s=>
 @sOp none (xStore 4 (s.τ 85) (s.τ 84) s.H) s<|.mk fun s=>
 W68_k5 Φ s
def W68_b20 (Φ:EP) (s:St):Prop:=
 @sMv 88 0 s<|.mk fun s=>
 @sMv 89 0 s<|.mk fun s=>
 @sOp (some 90) (xNil (s.τ 89) s.H) s<|.mk fun s=>
 @sFl 91 2 90 s<|.mk fun s=>
 @sLd 92 1 91 false s<|.mk fun s=>
 @sFl 93 1 3 s<|.mk fun s=>
 @sLd 94 1 93 false s<|.mk fun s=>
 @sCall0 Tryz.prog (.func 96 []) [(s.τ 88),(s.τ 92),(s.τ 94)] (some 95) s<|.mk fun s=>
 @sFl 96 1 5 s<|.mk fun s=>
 @sOp none (xStore 1 (s.τ 96) (s.τ 95) s.H) s<|.mk fun s=>
 W68_k5 Φ s
def W68_b21 (Φ:EP) (s:St):Prop:=
 @sOp (some 87) (xBin .eql false (s.τ 11) (.int .i64 13) s.H) s<|.mk fun s=>
 @sMv 86 87 s<|.mk fun s=>
 @sIf (s.τ 86) ⟨W68_b20 Φ s⟩ ⟨W68_k5 Φ s⟩
def W68_b22 (Φ:EP) (s:St):Prop:=
 @sOp (some 80) (xBin .eql false (s.τ 11) (.int .i64 9) s.H) s<|.mk fun s=>
 @sMv 79 80 s<|.mk fun s=>
 @sIf (s.τ 79) ⟨W68_b18 Φ s⟩ ⟨W68_b21 Φ s⟩
def W68_b23 (Φ:EP) (s:St):Prop:=
 @sOp (some 60) (xBin .eql false (s.τ 11) (.int .i64 6) s.H) s<|.mk fun s=>
 @sMv 59 60 s<|.mk fun s=>
 @sIf (s.τ 59) ⟨W68_b16 Φ s⟩ ⟨W68_b22 Φ s⟩
def W68_k24 (Φ:EP) (s:St):Prop:=
 @sIf (s.τ 46) ⟨W68_b13 Φ s⟩ ⟨W68_b23 Φ s⟩
def W68_b25 (Φ:EP) (s:St):Prop:=
 @sOp (some 49) (xBin .eql false (s.τ 11) (.int .i64 5) s.H) s<|.mk fun s=>
 @sMv 46 49 s<|.mk fun s=>
 W68_k24 Φ s
def W68_b26 (Φ:EP) (s:St):Prop:=
 @sOp (some 48) (xBin .eql false (s.τ 11) (.int .i64 4) s.H) s<|.mk fun s=>
 @sMv 46 48 s<|.mk fun s=>
 @sIf (s.τ 46) ⟨W68_k24 Φ s⟩ ⟨W68_b25 Φ s⟩
def W68_b27 (Φ:EP) (s:St):Prop:=
 @sOp (some 47) (xBin .eql false (s.τ 11) (.int .i64 3) s.H) s<|.mk fun s=>
 @sMv 46 47 s<|.mk fun s=>
 @sIf (s.τ 46) ⟨W68_k24 Φ s⟩ ⟨W68_b26 Φ s⟩
def W68_b28 (Φ:EP) (s:St):Prop:=
 @sOp (some 31) (xBin .eql false (s.τ 11) (.int .i64 2) s.H) s<|.mk fun s=>
 @sMv 30 31 s<|.mk fun s=>
 @sIf (s.τ 30) ⟨W68_b11 Φ s⟩ ⟨W68_b27 Φ s⟩
def W68 (Φ:EP) (s:St):Prop:=
 @sOp (some 3) (xBox 3 80 (s.τ 1) s.H) s<|.mk fun s=>
 @sOp (some 4) (xAlloc 4 35 [.int .i64 0,.int .i64 0,.int .i64 0,.str ⟨#[]⟩,.int .i64 0,.int .i64 0,.str ⟨#[]⟩,.nils,.nils] s.H) s<|.mk fun s=>
 @sFl 7 0 3 s<|.mk fun s=>
 @sLd 8 1 7 false s<|.mk fun s=>
 @sOp (some 9) (xBuild [.int .i64 0,.int .i64 0,.int .i64 0,.str ⟨#[]⟩,.int .i64 0,.int .i64 0,.str ⟨#[]⟩,.nils,.nils] [(0,1,(s.τ 8))] s.H) s<|.mk fun s=>
 @sOp (some 5) (xAlloc 5 35 [.int .i64 0,.int .i64 0,.int .i64 0,.str ⟨#[]⟩,.int .i64 0,.int .i64 0,.str ⟨#[]⟩,.nils,.nils] s.H) s<|.mk fun s=>
 @sOp none (xStore 9 (s.τ 5) (s.τ 9) s.H) s<|.mk fun s=>
 @sFl 10 0 3 s<|.mk fun s=>
 @sLd 11 1 10 false s<|.mk fun s=>
 @sOp (some 13) (xBin .eql false (s.τ 11) (.int .i64 1) s.H) s<|.mk fun s=>
 @sMv 12 13 s<|.mk fun s=>
 @sIf (s.τ 12) ⟨W68_b8 Φ s⟩ ⟨W68_b28 Φ s⟩
theorem W68_rs (τ:Nat → AV) (H:Heap):resV Tryz.prog τ H [.cell 4 35] = rdV H 9 true (τ 4):=by kernel_rfl
theorem W68_eq (Φ:EP) (s:St):awp Tryz.prog (Tryz.f68.body.getD .skip) Φ s = W68 Φ s:=by kernel_rfl
theorem W68_S {args:List AV} {r:AV} (hl:args.length ≤ 117) (h:∀ vs,W68 (retK Tryz.prog [.cell 4 35] r) ⟨Am.look (argT 0 args),hls [] vs,noG⟩):Am.Spec Tryz.prog 68 args r:=.of_W (W:=W68) Tryz.func68 (by kernel_rfl) (by kernel_rfl) (by kernel_rfl) Tryz.ntmps68 W68_eq (by kernel_rfl) hl h
-- 69 "penance/penanceref4.round"
def W69_k1 (Φ:EP) (s:St):Prop:=
 @sOp (some 2) (xMov (.bool false) s.H) s<|.mk fun s=>
 Φ .ret s
def W69_b2 (Φ:EP) (L0:SP) (s:St):Prop:=
 @sOp (some 2) (xMov (.bool true) s.H) s<|.mk fun s=>
 Φ .ret s
def W69_b3 (Φ:EP) (L0:SP) (s:St):Prop:=
 @sMv 62 8 s<|.mk fun s=>
 @sOp (some 63) (xBin .add false (s.τ 62) (.int .i64 1) s.H) s<|.mk fun s=>
 @sMv 8 63 s<|.mk fun s=>
 L0 s
def W69_b4 (Φ:EP) (L0:SP) (s:St):Prop:=
 @sMv 64 3 s<|.mk fun s=>
 @sMv 65 8 s<|.mk fun s=>
 @sOp (some 66) (xIx 1 (s.τ 64) (s.τ 65) s.H) s<|.mk fun s=>
 @sLd 67 1 66 false s<|.mk fun s=>
 @sMv 68 8 s<|.mk fun s=>
 @sOp (some 69) (xIx 1 (s.τ 67) (s.τ 68) s.H) s<|.mk fun s=>
 @sLd 70 1 69 false s<|.mk fun s=>
 @sIf (s.τ 70) ⟨W69_b2 Φ L0 s⟩ ⟨W69_b3 Φ L0 s⟩
def W69_l5 (Φ:EP) (L0:SP) (s:St):Prop:=
 @sMv 59 8 s<|.mk fun s=>
 @sMv 60 4 s<|.mk fun s=>
 @sOp (some 61) (xBin .lss false (s.τ 59) (s.τ 60) s.H) s<|.mk fun s=>
 @sIf (s.τ 61) ⟨W69_b4 Φ L0 s⟩ ⟨W69_k1 Φ s⟩
def W69_k6 (Φ:EP) (s:St):Prop:=
 @sOp (some 8) (xMov (.int .i64 0) s.H) s<|.mk fun s=>
 @sLoop s ⟨fun L0 s=>W69_l5 Φ L0 s⟩
def W69_k7 (Φ:EP) (L0:SP) (s:St):Prop:=
 @sMv 16 5 s<|.mk fun s=>
 @sOp (some 17) (xBin .add false (s.τ 16) (.int .i64 1) s.H) s<|.mk fun s=>
 @sMv 5 17 s<|.mk fun s=>
 L0 s
def W69_k8 (Φ:EP) (L0:SP) (L1:SP) (s:St):Prop:=
 @sMv 21 6 s<|.mk fun s=>
 @sOp (some 22) (xBin .add false (s.τ 21) (.int .i64 1) s.H) s<|.mk fun s=>
 @sMv 6 22 s<|.mk fun s=>
 L1 s
def W69_b25 (Φ:EP) (L0:SP) (L1:SP) (L2:SP) (s:St):Prop:=
 @sMv 28 3 s<|.mk fun s=>
 @sMv 29 6 s<|.mk fun s=>
 @sOp (some 30) (xIx 1 (s.τ 28) (s.τ 29) s.H) s<|.mk fun s=>
 @sLd 31 1 30 false s<|.mk fun s=>
 @sMv 32 7 s<|.mk fun s=>
 @sMv 33 3 s<|.mk fun s=>
 @sMv 34 6 s<|.mk fun s=>
 @sOp (some 35) (xIx 1 (s.τ 33) (s.τ 34) s.H) s<|.mk fun s=>
 @sLd 36 1 35 false s<|.mk fun s=>
 @sMv 37 7 s<|.mk fun s=>
 @sOp (some 38) (xIx 1 (s.τ 36) (s.τ 37) s.H) s<|.mk fun s=>
 @sLd 39 1 38 false s<|.mk fun s=>
 @sMv 40 39 s<|.mk fun s=>
 @sGm 41 3 40 false s<|.mk fun s=>
 @sGm 42 6 40 false s<|.mk fun s=>
 @sGo 43 40 false s (fun s=>(xIx 1 (s.τ 41) (s.τ 42) s.H))<|.mk fun s=>
 @sGl 44 1 43 40 false false s<|.mk fun s=>
 @sGm 45 5 40 false s<|.mk fun s=>
 @sGo 46 40 false s (fun s=>(xIx 1 (s.τ 44) (s.τ 45) s.H))<|.mk fun s=>
 @sGl 47 1 46 40 false false s<|.mk fun s=>
 @sGm 48 47 40 false s<|.mk fun s=>
 @sGm 49 3 48 true s<|.mk fun s=>
 @sGm 50 5 48 true s<|.mk fun s=>
 @sGo 51 48 true s (fun s=>(xIx 1 (s.τ 49) (s.τ 50) s.H))<|.mk fun s=>
 @sGl 52 1 51 48 false true s<|.mk fun s=>
 @sGm 53 7 48 true s<|.mk fun s=>
 @sGo 54 48 true s (fun s=>(xIx 1 (s.τ 52) (s.τ 53) s.H))<|.mk fun s=>
 @sGl 55 1 54 48 false true s<|.mk fun s=>
 @sGo 56 40 false s (fun s=>(xPick (s.τ 48) (s.τ 55) (.bool false) s.H))<|.mk fun s=>
 @sOp (some 57) (xPick (s.τ 40) (.bool true) (s.τ 56) s.H) s<|.mk fun s=>
 @sOp (some 58) (xIx 1 (s.τ 31) (s.τ 32) s.H) s<|.mk fun s=>
 @sOp none (xStore 1 (s.τ 58) (s.τ 57) s.H) s<|.mk fun s=>
 @sMv 26 7 s<|.mk fun s=>
 @sOp (some 27) (xBin .add false (s.τ 26) (.int .i64 1) s.H) s<|.mk fun s=>
 @sMv 7 27 s<|.mk fun s=>
 L2 s
def W69_l26 (Φ:EP) (L0:SP) (L1:SP) (L2:SP) (s:St):Prop:=
 @sMv 23 7 s<|.mk fun s=>
 @sMv 24 4 s<|.mk fun s=>
 @sOp (some 25) (xBin .lss false (s.τ 23) (s.τ 24) s.H) s<|.mk fun s=>
 @sIf (s.τ 25) ⟨W69_b25 Φ L0 L1 L2 s⟩ ⟨W69_k8 Φ L0 L1 s⟩
def W69_b27 (Φ:EP) (L0:SP) (L1:SP) (s:St):Prop:=
 @sOp (some 7) (xMov (.int .i64 0) s.H) s<|.mk fun s=>
 @sLoop s ⟨fun L2 s=>W69_l26 Φ L0 L1 L2 s⟩
def W69_l28 (Φ:EP) (L0:SP) (L1:SP) (s:St):Prop:=
 @sMv 18 6 s<|.mk fun s=>
 @sMv 19 4 s<|.mk fun s=>
 @sOp (some 20) (xBin .lss false (s.τ 18) (s.τ 19) s.H) s<|.mk fun s=>
 @sIf (s.τ 20) ⟨W69_b27 Φ L0 L1 s⟩ ⟨W69_k7 Φ L0 s⟩
def W69_b29 (Φ:EP) (L0:SP) (s:St):Prop:=
 @sOp (some 6) (xMov (.int .i64 0) s.H) s<|.mk fun s=>
 @sLoop s ⟨fun L1 s=>W69_l28 Φ L0 L1 s⟩
def W69_l30 (Φ:EP) (L0:SP) (s:St):Prop:=
 @sMv 13 5 s<|.mk fun s=>
 @sMv 14 4 s<|.mk fun s=>
 @sOp (some 15) (xBin .lss false (s.τ 13) (s.τ 14) s.H) s<|.mk fun s=>
 @sIf (s.τ 15) ⟨W69_b29 Φ L0 s⟩ ⟨W69_k6 Φ s⟩
def W69 (Φ:EP) (s:St):Prop:=
 @sOp (some 1) (xBox 1 76 (s.τ 0) s.H) s<|.mk fun s=>
 @sOp (some 2) (xMov (.bool false) s.H) s<|.mk fun s=>
 @sLd 9 3 1 true s<|.mk fun s=>
 @sCall Tryz.prog (.func 98 []) [(s.τ 9)] (some 10) s<|.mk fun s=>
 @sMv 3 10 s<|.mk fun s=>
 @sMv 11 3 s<|.mk fun s=>
 @sOp (some 12) (xLen (s.τ 11) s.H) s<|.mk fun s=>
 @sMv 4 12 s<|.mk fun s=>
 @sOp (some 5) (xMov (.int .i64 0) s.H) s<|.mk fun s=>
 @sLoop s ⟨fun L0 s=>W69_l30 Φ L0 s⟩
theorem W69_rs (τ:Nat → AV) (H:Heap):resV Tryz.prog τ H [.tmp 2] = some (τ 2):=by kernel_rfl
theorem W69_eq (Φ:EP) (s:St):awp Tryz.prog (Tryz.f69.body.getD .skip) Φ s = W69 Φ s:=by kernel_rfl
theorem W69_S {args:List AV} {r:AV} (hl:args.length ≤ 71) (h:∀ vs,W69 (retK Tryz.prog [.tmp 2] r) ⟨Am.look (argT 0 args),hls [] vs,noG⟩):Am.Spec Tryz.prog 69 args r:=.of_W (W:=W69) Tryz.func69 (by kernel_rfl) (by kernel_rfl) (by kernel_rfl) Tryz.ntmps69 W69_eq (by kernel_rfl) hl h
-- 70 "penance/penancelaw3.Stacks"
def W70 (Φ:EP) (s:St):Prop:=
 @sOp (some 0) (xMov (.nils) s.H) s<|.mk fun s=>
 @sOp (some 1) (xLit 1 2 [.str ⟨#[]⟩] [(0,(.str ⟨#[115]⟩)),(1,(.str ⟨#[117,110,100,111]⟩))] s.H) s<|.mk fun s=>
 @sMv 0 1 s<|.mk fun s=>
 Φ .ret s
theorem W70_rs (τ:Nat → AV) (H:Heap):resV Tryz.prog τ H [.tmp 0] = some (τ 0):=by kernel_rfl
theorem W70_eq (Φ:EP) (s:St):awp Tryz.prog (Tryz.f70.body.getD .skip) Φ s = W70 Φ s:=by kernel_rfl
theorem W70_S {args:List AV} {r:AV} (hl:args.length ≤ 2) (h:∀ vs,W70 (retK Tryz.prog [.tmp 0] r) ⟨Am.look (argT 0 args),hls [] vs,noG⟩):Am.Spec Tryz.prog 70 args r:=.of_W (W:=W70) Tryz.func70 (by kernel_rfl) (by kernel_rfl) (by kernel_rfl) Tryz.ntmps70 W70_eq (by kernel_rfl) hl h
-- 71 "penance/penancelaw3.Vars"
def W71 (Φ:EP) (s:St):Prop:=
 @sOp (some 0) (xMov (.nils) s.H) s<|.mk fun s=>
 @sOp (some 1) (xLit 1 3 [.str ⟨#[]⟩] [(0,(.str ⟨#[120]⟩)),(1,(.str ⟨#[121]⟩)),(2,(.str ⟨#[116,111,116,97,108]⟩))] s.H) s<|.mk fun s=>
 @sMv 0 1 s<|.mk fun s=>
 Φ .ret s
theorem W71_rs (τ:Nat → AV) (H:Heap):resV Tryz.prog τ H [.tmp 0] = some (τ 0):=by kernel_rfl
theorem W71_eq (Φ:EP) (s:St):awp Tryz.prog (Tryz.f71.body.getD .skip) Φ s = W71 Φ s:=by kernel_rfl
theorem W71_S {args:List AV} {r:AV} (hl:args.length ≤ 2) (h:∀ vs,W71 (retK Tryz.prog [.tmp 0] r) ⟨Am.look (argT 0 args),hls [] vs,noG⟩):Am.Spec Tryz.prog 71 args r:=.of_W (W:=W71) Tryz.func71 (by kernel_rfl) (by kernel_rfl) (by kernel_rfl) Tryz.ntmps71 W71_eq (by kernel_rfl) hl h
-- 72 "penance/penancelaw3.within"
def W72_k1 (Φ:EP) (s:St):Prop:=
 @sMv 14 5 s<|.mk fun s=>
 @sMv 4 14 s<|.mk fun s=>
 Φ .ret s
def W72_b2 (Φ:EP) (s:St):Prop:=
 @sMv 11 5 s<|.mk fun s=>
 @sMv 12 1 s<|.mk fun s=>
 @sOp (some 13) (xBin .add false (s.τ 11) (s.τ 12) s.H) s<|.mk fun s=>
 @sMv 5 13 s<|.mk fun s=>
 W72_k1 Φ s
def W72 (Φ:EP) (s:St):Prop:=
 @sOp (some 4) (xMov (.int .i64 0) s.H) s<|.mk fun s=>
 @sMv 6 0 s<|.mk fun s=>
 @sMv 7 1 s<|.mk fun s=>
 @sOp (some 8) (xBin .rem false (s.τ 6) (s.τ 7) s.H) s<|.mk fun s=>
 @sMv 5 8 s<|.mk fun s=>
 @sMv 9 5 s<|.mk fun s=>
 @sOp (some 10) (xBin .lss false (s.τ 9) (.int .i64 0) s.H) s<|.mk fun s=>
 @sIf (s.τ 10) ⟨W72_b2 Φ s⟩ ⟨W72_k1 Φ s⟩
theorem W72_rs (τ:Nat → AV) (H:Heap):resV Tryz.prog τ H [.tmp 4] = some (τ 4):=by kernel_rfl
theorem W72_eq (Φ:EP) (s:St):awp Tryz.prog (Tryz.f72.body.getD .skip) Φ s = W72 Φ s:=by kernel_rfl
theorem W72_S {args:List AV} {r:AV} (hl:args.length ≤ 15) (h:∀ vs,W72 (retK Tryz.prog [.tmp 4] r) ⟨Am.look (argT 0 args),hls [] vs,noG⟩):Am.Spec Tryz.prog 72 args r:=.of_W (W:=W72) Tryz.func72 (by kernel_rfl) (by kernel_rfl) (by kernel_rfl) Tryz.ntmps72 W72_eq (by kernel_rfl) hl h
-- 73 "penance/penancelaw3.Defs"
def W73 (Φ:EP) (s:St):Prop:=
 @sOp (some 0) (xMov (.nils) s.H) s<|.mk fun s=>
 @sOp (some 1) (xLit 1 5 [.str ⟨#[]⟩] [(0,(.str ⟨#[109,97,105,110]⟩)),(1,(.str ⟨#[112]⟩)),(2,(.str ⟨#[113]⟩)),(3,(.str ⟨#[114,101,116,114,121]⟩)),(4,(.str ⟨#[108,97,115,116]⟩))] s.H) s<|.mk fun s=>
 @sMv 0 1 s<|.mk fun s=>
 Φ .ret s
theorem W73_rs (τ:Nat → AV) (H:Heap):resV Tryz.prog τ H [.tmp 0] = some (τ 0):=by kernel_rfl
theorem W73_eq (Φ:EP) (s:St):awp Tryz.prog (Tryz.f73.body.getD .skip) Φ s = W73 Φ s:=by kernel_rfl
theorem W73_S {args:List AV} {r:AV} (hl:args.length ≤ 2) (h:∀ vs,W73 (retK Tryz.prog [.tmp 0] r) ⟨Am.look (argT 0 args),hls [] vs,noG⟩):Am.Spec Tryz.prog 73 args r:=.of_W (W:=W73) Tryz.func73 (by kernel_rfl) (by kernel_rfl) (by kernel_rfl) Tryz.ntmps73 W73_eq (by kernel_rfl) hl h
end Go.Proofs.YtnngddgaobhkiaaGreat
set_option linter.unusedVariables false
set_option maxRecDepth 100000
namespace Go.Proofs.YtnngddgaobhkiaaGreat
open Go Go.Am
-- 74 "(penance/penancelaw3.Raw).Make"
def W74_b2 (Φ:EP) (s:St):Prop:=
 @sOp (some 40) (xLit 1 3 [.str ⟨#[]⟩] [(0,(.str ⟨#[112,97,121]⟩)),(1,(.str ⟨#[115,104,105,112]⟩)),(2,(.str ⟨#[97,115,107]⟩))] s.H) s<|.mk fun s=>
 @sFl 41 2 2 s<|.mk fun s=>
 @sLd 42 1 41 false s<|.mk fun s=>
 @sCall Tryz.prog (.func 72 []) [(s.τ 42),(.int .i64 3)] (some 43) s<|.mk fun s=>
 @sOp (some 44) (xIx 1 (s.τ 40) (s.τ 43) s.H) s<|.mk fun s=>
 @sLd 45 1 44 false s<|.mk fun s=>
 @sOp (some 46) (xBuild [.int .i64 0,.str ⟨#[]⟩,.str ⟨#[]⟩,.int .i64 0,.int .i64 0,.str ⟨#[]⟩,.nils,.nils] [(0,1,(.int .i64 1)),(1,1,(s.τ 45))] s.H) s<|.mk fun s=>
 @sOp none (xStore 8 (s.τ 4) (s.τ 46) s.H) s<|.mk fun s=>
 Φ .ret s
def W74_b4 (Φ:EP) (s:St):Prop:=
 @sOp (some 50) (xLit 1 3 [.str ⟨#[]⟩] [(0,(.str ⟨#[112,97,121]⟩)),(1,(.str ⟨#[115,104,105,112]⟩)),(2,(.str ⟨#[97,115,107]⟩))] s.H) s<|.mk fun s=>
 @sFl 51 2 2 s<|.mk fun s=>
 @sLd 52 1 51 false s<|.mk fun s=>
 @sCall Tryz.prog (.func 72 []) [(s.τ 52),(.int .i64 3)] (some 53) s<|.mk fun s=>
 @sOp (some 54) (xIx 1 (s.τ 50) (s.τ 53) s.H) s<|.mk fun s=>
 @sLd 55 1 54 false s<|.mk fun s=>
 @sMv 56 5 s<|.mk fun s=>
 @sOp (some 57) (xBuild [.int .i64 0,.str ⟨#[]⟩,.str ⟨#[]⟩,.int .i64 0,.int .i64 0,.str ⟨#[]⟩,.nils,.nils] [(0,1,(.int .i64 1)),(1,1,(s.τ 55)),(2,1,(s.τ 56))] s.H) s<|.mk fun s=>
 @sOp none (xStore 8 (s.τ 4) (s.τ 57) s.H) s<|.mk fun s=>
 Φ .ret s
def W74_b7 (Φ:EP) (s:St):Prop:=
 @sMv 60 5 s<|.mk fun u1=>
 @sFl 61 3 2 u1<|.mk fun u2=>
 @sLd 62 1 61 false u2<|.mk fun u3=>
 @sChk (compat (occ (u1.τ 2),[]) (cfp 63 71 [])) <| .mk <|
 @sChk (compat (occ (u2.τ 61),[]) (cfp 63 71 [])) <| .mk <|
 @sCall0 Tryz.prog (.func 71 []) [] (some 63) u3<|.mk fun u4=>
 @sCall0 Tryz.prog (.func 100 []) [(u4.τ 62),(u4.τ 63)] (some 64) u4<|.mk fun u5=>
 @sOp (some 65) (xBuild [.int .i64 0,.str ⟨#[]⟩,.str ⟨#[]⟩,.int .i64 0,.int .i64 0,.str ⟨#[]⟩,.nils,.nils] [(0,1,(.int .i64 2)),(2,1,(u5.τ 60)),(3,4,(u5.τ 64))] u5.H) u5<|.mk fun u6=>
 @sOp none (xStore 8 (u6.τ 4) (u6.τ 65) u6.H) u6<|.mk fun s=>
 Φ .ret s
def W74_b8 (Φ:EP) (s:St):Prop:=
 @sMv 69 6 s<|.mk fun s=>
 @sLd 70 8 8 true s<|.mk fun s=>
 @sOp (some 71) (xLit 8 1 [.int .i64 0,.str ⟨#[]⟩,.str ⟨#[]⟩,.int .i64 0,.int .i64 0,.str ⟨#[]⟩,.nils,.nils] [(0,(s.τ 70))] s.H) s<|.mk fun s=>
 @sOp (some 72) (xBuild [.int .i64 0,.str ⟨#[]⟩,.str ⟨#[]⟩,.int .i64 0,.int .i64 0,.str ⟨#[]⟩,.nils,.nils] [(0,1,(.int .i64 3)),(1,1,(s.τ 69)),(7,1,(s.τ 71))] s.H) s<|.mk fun s=>
 @sOp none (xStore 8 (s.τ 4) (s.τ 72) s.H) s<|.mk fun s=>
 Φ .ret s
def W74_b9 (Φ:EP) (s:St):Prop:=
 @sMv 75 6 s<|.mk fun s=>
 @sOp (some 76) (xBuild [.int .i64 0,.str ⟨#[]⟩,.str ⟨#[]⟩,.int .i64 0,.int .i64 0,.str ⟨#[]⟩,.nils,.nils] [(0,1,(.int .i64 4)),(1,1,(s.τ 75))] s.H) s<|.mk fun s=>
 @sOp none (xStore 8 (s.τ 4) (s.τ 76) s.H) s<|.mk fun s=>
 Φ .ret s
def W74_b10 (Φ:EP) (s:St):Prop:=
 @sMv 79 6 s<|.mk fun s=>
 @sOp (some 80) (xBuild [.int .i64 0,.str ⟨#[]⟩,.str ⟨#[]⟩,.int .i64 0,.int .i64 0,.str ⟨#[]⟩,.nils,.nils] [(0,1,(.int .i64 5)),(1,1,(s.τ 79))] s.H) s<|.mk fun s=>
 @sOp none (xStore 8 (s.τ 4) (s.τ 80) s.H) s<|.mk fun s=>
 Φ .ret s
def W74_b13 (Φ:EP) (s:St):Prop:=
 @sMv 83 6 s<|.mk fun u1=>
 @sCall0 Tryz.prog (.func 70 []) [] (some 84) u1<|.mk fun u2=>
 @sChk (compat (cfp 84 70 []) (occ (u2.τ 2),[])) <| .mk <|
 @sFl 85 2 2 u2<|.mk fun u3=>
 @sChk (compat (cfp 84 70 []) (occ (u3.τ 85),[])) <| .mk <|
 @sLd 86 1 85 false u3<|.mk fun u4=>
 @sCall0 Tryz.prog (.func 72 []) [(u4.τ 86),(.int .i64 2)] (some 87) u4<|.mk fun u5=>
 @sOp (some 88) (xIx 1 (u5.τ 84) (u5.τ 87) u5.H) u5<|.mk fun u6=>
 @sLd 89 1 88 false u6<|.mk fun u7=>
 @sOp (some 90) (xBuild [.int .i64 0,.str ⟨#[]⟩,.str ⟨#[]⟩,.int .i64 0,.int .i64 0,.str ⟨#[]⟩,.nils,.nils] [(0,1,(.int .i64 6)),(1,1,(u7.τ 83)),(2,1,(u7.τ 89))] u7.H) u7<|.mk fun u8=>
 @sOp none (xStore 8 (u8.τ 4) (u8.τ 90) u8.H) u8<|.mk fun s=>
 Φ .ret s
def W74_b14 (Φ:EP) (s:St):Prop:=
 @sLd 93 8 8 true s<|.mk fun s=>
 @sOp (some 94) (xLit 8 1 [.int .i64 0,.str ⟨#[]⟩,.str ⟨#[]⟩,.int .i64 0,.int .i64 0,.str ⟨#[]⟩,.nils,.nils] [(0,(s.τ 93))] s.H) s<|.mk fun s=>
 @sOp (some 95) (xBuild [.int .i64 0,.str ⟨#[]⟩,.str ⟨#[]⟩,.int .i64 0,.int .i64 0,.str ⟨#[]⟩,.nils,.nils] [(0,1,(.int .i64 7)),(7,1,(s.τ 94))] s.H) s<|.mk fun s=>
 @sOp none (xStore 8 (s.τ 4) (s.τ 95) s.H) s<|.mk fun s=>
 Φ .ret s
def W74_b15 (Φ:EP) (s:St):Prop:=
 @sOp (some 98) (xBuild [.int .i64 0,.str ⟨#[]⟩,.str ⟨#[]⟩,.int .i64 0,.int .i64 0,.str ⟨#[]⟩,.nils,.nils] [(0,1,(.int .i64 8))] s.H) s<|.mk fun s=>
 @sOp none (xStore 8 (s.τ 4) (s.τ 98) s.H) s<|.mk fun s=>
 Φ .ret s
def W74_b18 (Φ:EP) (s:St):Prop:=
 @sFl 101 3 2 s<|.mk fun u1=>
 @sLd 102 1 101 false u1<|.mk fun u2=>
 @sChk (compat (occ (s.τ 2),[]) (cfp 103 71 [])) <| .mk <|
 @sChk (compat (occ (u1.τ 101),[]) (cfp 103 71 [])) <| .mk <|
 @sCall0 Tryz.prog (.func 71 []) [] (some 103) u2<|.mk fun u3=>
 @sCall0 Tryz.prog (.func 100 []) [(u3.τ 102),(u3.τ 103)] (some 104) u3<|.mk fun u4=>
 @sChk (compat (cfp 103 71 []) (occ (u4.τ 8),[])) <| .mk <|
 @sChk (compat (cfp 104 100 [(u3.τ 102),(u3.τ 103)]) (occ (u4.τ 8),[])) <| .mk <|
 @sLd 105 8 8 true u4<|.mk fun u5=>
 @sChk (compat (cfp 103 71 []) (occ (u5.τ 9),[])) <| .mk <|
 @sChk (compat (cfp 104 100 [(u3.τ 102),(u3.τ 103)]) (occ (u5.τ 9),[])) <| .mk <|
 @sLd 106 8 9 true u5<|.mk fun u6=>
 @sChk (compat (occ (s.τ 2),[]) ([107] ++ occL [(u6.τ 105),(u6.τ 106)],[107] ++ occL [(u6.τ 105),(u6.τ 106)])) <| .mk <|
 @sChk (compat (occ (u1.τ 101),[]) ([107] ++ occL [(u6.τ 105),(u6.τ 106)],[107] ++ occL [(u6.τ 105),(u6.τ 106)])) <| .mk <|
 @sChk (compat (cfp 103 71 []) ([107] ++ occL [(u6.τ 105),(u6.τ 106)],[107] ++ occL [(u6.τ 105),(u6.τ 106)])) <| .mk <|
 @sChk (compat (cfp 104 100 [(u3.τ 102),(u3.τ 103)]) ([107] ++ occL [(u6.τ 105),(u6.τ 106)],[107] ++ occL [(u6.τ 105),(u6.τ 106)])) <| .mk <|
 @sOp (some 107) (xLit 8 2 [.int .i64 0,.str ⟨#[]⟩,.str ⟨#[]⟩,.int .i64 0,.int .i64 0,.str ⟨#[]⟩,.nils,.nils] [(0,(u6.τ 105)),(1,(u6.τ 106))] u6.H) u6<|.mk fun u7=>
 @sOp (some 108) (xBuild [.int .i64 0,.str ⟨#[]⟩,.str ⟨#[]⟩,.int .i64 0,.int .i64 0,.str ⟨#[]⟩,.nils,.nils] [(0,1,(.int .i64 9)),(3,4,(u7.τ 104)),(7,1,(u7.τ 107))] u7.H) u7<|.mk fun u8=>
 @sOp none (xStore 8 (u8.τ 4) (u8.τ 108) u8.H) u8<|.mk fun s=>
 Φ .ret s
def W74_b19 (Φ:EP) (s:St):Prop:=
 @sLd 111 8 8 true s<|.mk fun s=>
 @sLd 112 8 9 true s<|.mk fun s=>
 @sOp (some 113) (xLit 8 2 [.int .i64 0,.str ⟨#[]⟩,.str ⟨#[]⟩,.int .i64 0,.int .i64 0,.str ⟨#[]⟩,.nils,.nils] [(0,(s.τ 111)),(1,(s.τ 112))] s.H) s<|.mk fun s=>
 @sOp (some 114) (xBuild [.int .i64 0,.str ⟨#[]⟩,.str ⟨#[]⟩,.int .i64 0,.int .i64 0,.str ⟨#[]⟩,.nils,.nils] [(0,1,(.int .i64 10)),(7,1,(s.τ 113))] s.H) s<|.mk fun s=>
 @sOp none (xStore 8 (s.τ 4) (s.τ 114) s.H) s<|.mk fun s=>
 Φ .ret s
def W74_b20 (Φ:EP) (s:St):Prop:=
 @sLd 118 8 8 true s<|.mk fun s=>
 @sLd 119 8 9 true s<|.mk fun s=>
 @sOp (some 120) (xLit 8 2 [.int .i64 0,.str ⟨#[]⟩,.str ⟨#[]⟩,.int .i64 0,.int .i64 0,.str ⟨#[]⟩,.nils,.nils] [(0,(s.τ 118)),(1,(s.τ 119))] s.H) s<|.mk fun s=>
 @sOp (some 121) (xBuild [.int .i64 0,.str ⟨#[]⟩,.str ⟨#[]⟩,.int .i64 0,.int .i64 0,.str ⟨#[]⟩,.nils,.nils] [(0,1,(.int .i64 11)),(7,1,(s.τ 120))] s.H) s<|.mk fun s=>
 @sOp none (xStore 8 (s.τ 4) (s.τ 121) s.H) s<|.mk fun s=>
 Φ .ret s
def W74_b21 (Φ:EP) (s:St):Prop:=
 @sMv 124 7 s<|.mk fun s=>
 @sOp (some 125) (xBuild [.int .i64 0,.str ⟨#[]⟩,.str ⟨#[]⟩,.int .i64 0,.int .i64 0,.str ⟨#[]⟩,.nils,.nils] [(0,1,(.int .i64 13)),(1,1,(s.τ 124))] s.H) s<|.mk fun s=>
 @sOp none (xStore 8 (s.τ 4) (s.τ 125) s.H) s<|.mk fun s=>
 Φ .ret s
def W74_b22 (Φ:EP) (s:St):Prop:=
 @sOp (some 128) (xBuild [.int .i64 0,.str ⟨#[]⟩,.str ⟨#[]⟩,.int .i64 0,.int .i64 0,.str ⟨#[]⟩,.nils,.nils] [(0,1,(.int .i64 0))] s.H) s<|.mk fun s=>
 @sOp none (xStore 8 (s.τ 4) (s.τ 128) s.H) s<|.mk fun s=>
 Φ .ret s
def W74_b23 (Φ:EP) (s:St):Prop:=
 @sLd 129 8 8 true s<|.mk fun s=>
 @sLd 130 8 9 true s<|.mk fun s=>
 @sOp (some 131) (xLit 8 2 [.int .i64 0,.str ⟨#[]⟩,.str ⟨#[]⟩,.int .i64 0,.int .i64 0,.str ⟨#[]⟩,.nils,.nils] [(0,(s.τ 129)),(1,(s.τ 130))] s.H) s<|.mk fun s=>
 @sOp (some 132) (xBuild [.int .i64 0,.str ⟨#[]⟩,.str ⟨#[]⟩,.int .i64 0,.int .i64 0,.str ⟨#[]⟩,.nils,.nils] [(0,1,(.int .i64 12)),(7,1,(s.τ 131))] s.H) s<|.mk fun s=>
 @sOp none (xStore 8 (s.τ 4) (s.τ 132) s.H) s<|.mk fun s=>
 Φ .ret s
def W74_b24 (Φ:EP) (s:St):Prop:=
 @sOp (some 127) (xBin .eql false (s.τ 36) (.int .i64 17) s.H) s<|.mk fun s=>
 @sMv 126 127 s<|.mk fun s=>
 @sIf (s.τ 126) ⟨W74_b22 Φ s⟩ ⟨W74_b23 Φ s⟩
def W74_b25 (Φ:EP) (s:St):Prop:=
 @sOp (some 123) (xBin .eql false (s.τ 36) (.int .i64 16) s.H) s<|.mk fun s=>
 @sMv 122 123 s<|.mk fun s=>
 @sIf (s.τ 122) ⟨W74_b21 Φ s⟩ ⟨W74_b24 Φ s⟩
def W74_k26 (Φ:EP) (s:St):Prop:=
 @sIf (s.τ 115) ⟨W74_b20 Φ s⟩ ⟨W74_b25 Φ s⟩
def W74_b27 (Φ:EP) (s:St):Prop:=
 @sOp (some 117) (xBin .eql false (s.τ 36) (.int .i64 15) s.H) s<|.mk fun s=>
 @sMv 115 117 s<|.mk fun s=>
 W74_k26 Φ s
def W74_b28 (Φ:EP) (s:St):Prop:=
 @sOp (some 116) (xBin .eql false (s.τ 36) (.int .i64 14) s.H) s<|.mk fun s=>
 @sMv 115 116 s<|.mk fun s=>
 @sIf (s.τ 115) ⟨W74_k26 Φ s⟩ ⟨W74_b27 Φ s⟩
def W74_b29 (Φ:EP) (s:St):Prop:=
 @sOp (some 110) (xBin .eql false (s.τ 36) (.int .i64 13) s.H) s<|.mk fun s=>
 @sMv 109 110 s<|.mk fun s=>
 @sIf (s.τ 109) ⟨W74_b19 Φ s⟩ ⟨W74_b28 Φ s⟩
def W74_b30 (Φ:EP) (s:St):Prop:=
 @sOp (some 100) (xBin .eql false (s.τ 36) (.int .i64 12) s.H) s<|.mk fun s=>
 @sMv 99 100 s<|.mk fun s=>
 @sIf (s.τ 99) ⟨W74_b18 Φ s⟩ ⟨W74_b29 Φ s⟩
def W74_b31 (Φ:EP) (s:St):Prop:=
 @sOp (some 97) (xBin .eql false (s.τ 36) (.int .i64 11) s.H) s<|.mk fun s=>
 @sMv 96 97 s<|.mk fun s=>
 @sIf (s.τ 96) ⟨W74_b15 Φ s⟩ ⟨W74_b30 Φ s⟩
def W74_b32 (Φ:EP) (s:St):Prop:=
 @sOp (some 92) (xBin .eql false (s.τ 36) (.int .i64 10) s.H) s<|.mk fun s=>
 @sMv 91 92 s<|.mk fun s=>
 @sIf (s.τ 91) ⟨W74_b14 Φ s⟩ ⟨W74_b31 Φ s⟩
def W74_b33 (Φ:EP) (s:St):Prop:=
 @sOp (some 82) (xBin .eql false (s.τ 36) (.int .i64 9) s.H) s<|.mk fun s=>
 @sMv 81 82 s<|.mk fun s=>
 @sIf (s.τ 81) ⟨W74_b13 Φ s⟩ ⟨W74_b32 Φ s⟩
def W74_b34 (Φ:EP) (s:St):Prop:=
 @sOp (some 78) (xBin .eql false (s.τ 36) (.int .i64 8) s.H) s<|.mk fun s=>
 @sMv 77 78 s<|.mk fun s=>
 @sIf (s.τ 77) ⟨W74_b10 Φ s⟩ ⟨W74_b33 Φ s⟩
def W74_b35 (Φ:EP) (s:St):Prop:=
 @sOp (some 74) (xBin .eql false (s.τ 36) (.int .i64 7) s.H) s<|.mk fun s=>
 @sMv 73 74 s<|.mk fun s=>
 @sIf (s.τ 73) ⟨W74_b9 Φ s⟩ ⟨W74_b34 Φ s⟩
def W74_k36 (Φ:EP) (s:St):Prop:=
 @sIf (s.τ 66) ⟨W74_b8 Φ s⟩ ⟨W74_b35 Φ s⟩
def W74_b37 (Φ:EP) (s:St):Prop:=
 @sOp (some 68) (xBin .eql false (s.τ 36) (.int .i64 6) s.H) s<|.mk fun s=>
 @sMv 66 68 s<|.mk fun s=>
 W74_k36 Φ s
def W74_b38 (Φ:EP) (s:St):Prop:=
 @sOp (some 67) (xBin .eql false (s.τ 36) (.int .i64 5) s.H) s<|.mk fun s=>
 @sMv 66 67 s<|.mk fun s=>
 @sIf (s.τ 66) ⟨W74_k36 Φ s⟩ ⟨W74_b37 Φ s⟩
def W74_b39 (Φ:EP) (s:St):Prop:=
 @sOp (some 59) (xBin .eql false (s.τ 36) (.int .i64 4) s.H) s<|.mk fun s=>
 @sMv 58 59 s<|.mk fun s=>
 @sIf (s.τ 58) ⟨W74_b7 Φ s⟩ ⟨W74_b38 Φ s⟩
def W74_k40 (Φ:EP) (s:St):Prop:=
 @sIf (s.τ 47) ⟨W74_b4 Φ s⟩ ⟨W74_b39 Φ s⟩
def W74_b41 (Φ:EP) (s:St):Prop:=
 @sOp (some 49) (xBin .eql false (s.τ 36) (.int .i64 3) s.H) s<|.mk fun s=>
 @sMv 47 49 s<|.mk fun s=>
 W74_k40 Φ s
def W74_b42 (Φ:EP) (s:St):Prop:=
 @sOp (some 48) (xBin .eql false (s.τ 36) (.int .i64 2) s.H) s<|.mk fun s=>
 @sMv 47 48 s<|.mk fun s=>
 @sIf (s.τ 47) ⟨W74_k40 Φ s⟩ ⟨W74_b41 Φ s⟩
def W74_k43 (Φ:EP) (s:St):Prop:=
 @sIf (s.τ 37) ⟨W74_b2 Φ s⟩ ⟨W74_b42 Φ s⟩
def W74_b44 (Φ:EP) (s:St):Prop:=
 @sOp (some 39) (xBin .eql false (s.τ 36) (.int .i64 1) s.H) s<|.mk fun s=>
 @sMv 37 39 s<|.mk fun s=>
 W74_k43 Φ s
def W74 (Φ:EP) (s:St):Prop:=
 @sOp (some 2) (xBox 2 69 (s.τ 0) s.H) s<|.mk fun s=>
 @sOp (some 4) (xAlloc 4 80 [.int .i64 0,.str ⟨#[]⟩,.str ⟨#[]⟩,.int .i64 0,.int .i64 0,.str ⟨#[]⟩,.nils,.nils] s.H) s<|.mk fun s=>
 @sCall0 Tryz.prog (.func 71 []) [] (some 10) s<|.mk fun u1=>
 @sChk (compat (cfp 10 71 []) (occ (u1.τ 2),[])) <| .mk <|
 @sFl 11 1 2 u1<|.mk fun u2=>
 @sChk (compat (cfp 10 71 []) (occ (u2.τ 11),[])) <| .mk <|
 @sLd 12 1 11 false u2<|.mk fun u3=>
 @sCall0 Tryz.prog (.func 72 []) [(u3.τ 12),(.int .i64 3)] (some 13) u3<|.mk fun u4=>
 @sOp (some 14) (xIx 1 (u4.τ 10) (u4.τ 13) u4.H) u4<|.mk fun u5=>
 @sLd 15 1 14 false u5<|.mk fun u6=>
 @sChk (compat (occ (u4.τ 10),[]) (cfp 16 70 [])) <| .mk <|
 @sChk (compat (occ (u5.τ 14),[]) (cfp 16 70 [])) <| .mk <|
 @sCall0 Tryz.prog (.func 70 []) [] (some 16) u6<|.mk fun u7=>
 @sChk (compat (cfp 10 71 []) (occ (u7.τ 2),[])) <| .mk <|
 @sChk (compat (cfp 13 72 [(u3.τ 12),(.int .i64 3)]) (occ (u7.τ 2),[])) <| .mk <|
 @sChk (compat (cfp 16 70 []) (occ (u7.τ 2),[])) <| .mk <|
 @sFl 17 1 2 u7<|.mk fun u8=>
 @sChk (compat (cfp 10 71 []) (occ (u8.τ 17),[])) <| .mk <|
 @sChk (compat (cfp 13 72 [(u3.τ 12),(.int .i64 3)]) (occ (u8.τ 17),[])) <| .mk <|
 @sChk (compat (cfp 16 70 []) (occ (u8.τ 17),[])) <| .mk <|
 @sLd 18 1 17 false u8<|.mk fun u9=>
 @sChk (compat (occ (u4.τ 10),[]) (cfp 19 72 [(u9.τ 18),(.int .i64 2)])) <| .mk <|
 @sChk (compat (occ (u5.τ 14),[]) (cfp 19 72 [(u9.τ 18),(.int .i64 2)])) <| .mk <|
 @sCall0 Tryz.prog (.func 72 []) [(u9.τ 18),(.int .i64 2)] (some 19) u9<|.mk fun u10=>
 @sOp (some 20) (xIx 1 (u10.τ 16) (u10.τ 19) u10.H) u10<|.mk fun u11=>
 @sLd 21 1 20 false u11<|.mk fun u12=>
 @sChk (compat (occ (u4.τ 10),[]) (cfp 22 73 [])) <| .mk <|
 @sChk (compat (occ (u5.τ 14),[]) (cfp 22 73 [])) <| .mk <|
 @sChk (compat (occ (u10.τ 16),[]) (cfp 22 73 [])) <| .mk <|
 @sChk (compat (occ (u11.τ 20),[]) (cfp 22 73 [])) <| .mk <|
 @sCall0 Tryz.prog (.func 73 []) [] (some 22) u12<|.mk fun u13=>
 @sChk (compat (cfp 10 71 []) (occ (u13.τ 2),[])) <| .mk <|
 @sChk (compat (cfp 13 72 [(u3.τ 12),(.int .i64 3)]) (occ (u13.τ 2),[])) <| .mk <|
 @sChk (compat (cfp 16 70 []) (occ (u13.τ 2),[])) <| .mk <|
 @sChk (compat (cfp 19 72 [(u9.τ 18),(.int .i64 2)]) (occ (u13.τ 2),[])) <| .mk <|
 @sChk (compat (cfp 22 73 []) (occ (u13.τ 2),[])) <| .mk <|
 @sFl 23 1 2 u13<|.mk fun u14=>
 @sChk (compat (cfp 10 71 []) (occ (u14.τ 23),[])) <| .mk <|
 @sChk (compat (cfp 13 72 [(u3.τ 12),(.int .i64 3)]) (occ (u14.τ 23),[])) <| .mk <|
 @sChk (compat (cfp 16 70 []) (occ (u14.τ 23),[])) <| .mk <|
 @sChk (compat (cfp 19 72 [(u9.τ 18),(.int .i64 2)]) (occ (u14.τ 23),[])) <| .mk <|
 @sChk (compat (cfp 22 73 []) (occ (u14.τ 23),[])) <| .mk <|
 @sLd 24 1 23 false u14<|.mk fun u15=>
 @sChk (compat (occ (u4.τ 10),[]) (cfp 25 72 [(u15.τ 24),(.int .i64 5)])) <| .mk <|
 @sChk (compat (occ (u5.τ 14),[]) (cfp 25 72 [(u15.τ 24),(.int .i64 5)])) <| .mk <|
 @sChk (compat (occ (u10.τ 16),[]) (cfp 25 72 [(u15.τ 24),(.int .i64 5)])) <| .mk <|
 @sChk (compat (occ (u11.τ 20),[]) (cfp 25 72 [(u15.τ 24),(.int .i64 5)])) <| .mk <|
 @sCall0 Tryz.prog (.func 72 []) [(u15.τ 24),(.int .i64 5)] (some 25) u15<|.mk fun u16=>
 @sOp (some 26) (xIx 1 (u16.τ 22) (u16.τ 25) u16.H) u16<|.mk fun u17=>
 @sLd 27 1 26 false u17<|.mk fun u18=>
 @sMv 5 15 u18<|.mk fun u19=>
 @sMv 6 21 u19<|.mk fun u20=>
 @sMv 7 27 u20<|.mk fun s=>
 @sLd 28 5 2 true s<|.mk fun u1=>
 @sMv 29 1 u1<|.mk fun u2=>
 @sCall0 Tryz.prog (.func 99 []) [(u2.τ 28),(.int .i64 0),(u2.τ 29)] (some 30) u2<|.mk fun u3=>
 @sChk (compat (cfp 30 99 [(u2.τ 28),(.int .i64 0),(u2.τ 29)]) (occ (u3.τ 2),[])) <| .mk <|
 @sLd 31 5 2 true u3<|.mk fun u4=>
 @sMv 32 1 u4<|.mk fun u5=>
 @sCall0 Tryz.prog (.func 99 []) [(u5.τ 31),(.int .i64 1),(u5.τ 32)] (some 33) u5<|.mk fun u6=>
 @sChk (compat (occ (s.τ 2),[]) ([8],[8])) <| .mk <|
 @sChk (compat (cfp 30 99 [(u2.τ 28),(.int .i64 0),(u2.τ 29)]) ([8],[8])) <| .mk <|
 @sChk (compat (occ (u3.τ 2),[]) ([8],[8])) <| .mk <|
 @sChk (compat (cfp 33 99 [(u5.τ 31),(.int .i64 1),(u5.τ 32)]) ([8],[8])) <| .mk <|
 @sOp (some 8) (xAlloc 8 80 [.int .i64 0,.str ⟨#[]⟩,.str ⟨#[]⟩,.int .i64 0,.int .i64 0,.str ⟨#[]⟩,.nils,.nils] u6.H) u6<|.mk fun u7=>
 @sChk (compat (occ (s.τ 2),[]) ([9],[9])) <| .mk <|
 @sChk (compat (cfp 30 99 [(u2.τ 28),(.int .i64 0),(u2.τ 29)]) ([9],[9])) <| .mk <|
 @sChk (compat (occ (u3.τ 2),[]) ([9],[9])) <| .mk <|
 @sChk (compat (cfp 33 99 [(u5.τ 31),(.int .i64 1),(u5.τ 32)]) ([9],[9])) <| .mk <|
 @sChk (compat ([8],[8]) ([9],[9])) <| .mk <|
 @sOp (some 9) (xAlloc 9 80 [.int .i64 0,.str ⟨#[]⟩,.str ⟨#[]⟩,.int .i64 0,.int .i64 0,.str ⟨#[]⟩,.nils,.nils] u7.H) u7<|.mk fun u8=>
 @sOp none (xStore 8 (u8.τ 8) (u8.τ 30) u8.H) u8<|.mk fun u9=>
 @sOp none (xStore 8 (u9.τ 9) (u9.τ 33) u9.H) u9<|.mk fun s=>
 @sFl 34 0 2 s<|.mk fun s=>
 @sLd 35 1 34 false s<|.mk fun s=>
 @sCall Tryz.prog (.func 72 []) [(s.τ 35),(.int .i64 20)] (some 36) s<|.mk fun s=>
 @sOp (some 38) (xBin .eql false (s.τ 36) (.int .i64 0) s.H) s<|.mk fun s=>
 @sMv 37 38 s<|.mk fun s=>
 @sIf (s.τ 37) ⟨W74_k43 Φ s⟩ ⟨W74_b44 Φ s⟩
theorem W74_rs (τ:Nat → AV) (H:Heap):resV Tryz.prog τ H [.cell 4 80] = rdV H 8 true (τ 4):=by kernel_rfl
theorem W74_eq (Φ:EP) (s:St):awp Tryz.prog (Tryz.f74.body.getD .skip) Φ s = W74 Φ s:=by kernel_rfl
theorem W74_S {args:List AV} {r:AV} (hl:args.length ≤ 133) (h:∀ vs,W74 (retK Tryz.prog [.cell 4 80] r) ⟨Am.look (argT 0 args),hls [] vs,noG⟩):Am.Spec Tryz.prog 74 args r:=.of_W (W:=W74) Tryz.func74 (by kernel_rfl) (by kernel_rfl) (by kernel_rfl) Tryz.ntmps74 W74_eq (by kernel_rfl) hl h
-- 75 "penance/term.Norm$1"
def W75 (Φ:EP) (s:St):Prop:=
 @sOp (some 1) (xBox 1 35 (s.τ 0) s.H) s<|.mk fun s=>
 @sOp (some 2) (xMov (.bool false) s.H) s<|.mk fun s=>
 @sFl 3 0 1 s<|.mk fun s=>
 @sLd 4 1 3 false s<|.mk fun s=>
 @sOp (some 5) (xBin .eql false (s.τ 4) (.int .i64 0) s.H) s<|.mk fun s=>
 @sMv 2 5 s<|.mk fun s=>
 Φ .ret s
theorem W75_rs (τ:Nat → AV) (H:Heap):resV Tryz.prog τ H [.tmp 2] = some (τ 2):=by kernel_rfl
theorem W75_eq (Φ:EP) (s:St):awp Tryz.prog (Tryz.f75.body.getD .skip) Φ s = W75 Φ s:=by kernel_rfl
theorem W75_S {args:List AV} {r:AV} (hl:args.length ≤ 6) (h:∀ vs,W75 (retK Tryz.prog [.tmp 2] r) ⟨Am.look (argT 0 args),hls [] vs,noG⟩):Am.Spec Tryz.prog 75 args r:=.of_W (W:=W75) Tryz.func75 (by kernel_rfl) (by kernel_rfl) (by kernel_rfl) Tryz.ntmps75 W75_eq (by kernel_rfl) hl h
-- 76 "penance/term.own"
def W76_k3 (Φ:EP) (s:St):Prop:=
 @sMv 23 3 s<|.mk fun u1=>
 @sCall0 Tryz.prog (.func 82 []) [(u1.τ 23)] (some 24) u1<|.mk fun u2=>
 @sChk (compat (cfp 24 82 [(u1.τ 23)]) (occ (u2.τ 1),[])) <| .mk <|
 @sFl 25 4 1 u2<|.mk fun u3=>
 @sChk (compat (cfp 24 82 [(u1.τ 23)]) (occ (u3.τ 25),[])) <| .mk <|
 @sLd 26 4 25 true u3<|.mk fun u4=>
 @sCall0 Tryz.prog (.func 101 []) [(u4.τ 26)] (some 27) u4<|.mk fun u5=>
 @sChk (compat (cfp 27 101 [(u4.τ 26)]) (occ (u5.τ 1),[])) <| .mk <|
 @sFl 28 8 1 u5<|.mk fun u6=>
 @sOp none (xStore 1 (u6.τ 28) (u6.τ 24) u6.H) u6<|.mk fun u7=>
 @sFl 29 4 1 u7<|.mk fun u8=>
 @sOp none (xStore 4 (u8.τ 29) (u8.τ 27) u8.H) u8<|.mk fun s=>
 @sLd 30 9 1 true s<|.mk fun s=>
 @sOp none (xStore 9 (s.τ 2) (s.τ 30) s.H) s<|.mk fun s=>
 Φ .ret s
def W76_b5 (Φ:EP) (L0:SP) (s:St):Prop:=
 @sOp (some 15) (xIx 9 (s.τ 11) (s.τ 13) s.H) s<|.mk fun s=>
 @sLd 16 9 15 true s<|.mk fun s=>
 @sOp (some 5) (xAlloc 5 35 [.int .i64 0,.int .i64 0,.int .i64 0,.str ⟨#[]⟩,.int .i64 0,.int .i64 0,.str ⟨#[]⟩,.nils,.nils] s.H) s<|.mk fun s=>
 @sOp none (xStore 9 (s.τ 5) (s.τ 16) s.H) s<|.mk fun s=>
 @sMv 17 3 s<|.mk fun s=>
 @sLd 18 9 5 true s<|.mk fun s=>
 @sCall Tryz.prog (.func 76 []) [(s.τ 18)] (some 19) s<|.mk fun s=>
 @sOp (some 20) (xLit 9 1 [.int .i64 0,.int .i64 0,.int .i64 0,.str ⟨#[]⟩,.int .i64 0,.int .i64 0,.str ⟨#[]⟩,.nils,.nils] [(0,(s.τ 19))] s.H) s<|.mk fun s=>
 @sOp (some 21) (xApp Tryz.prog 35 9 120 (some 21) (s.τ 17) (s.τ 20) s.H) s<|.mk fun s=>
 @sMv 3 21 s<|.mk fun s=>
 @sOp (some 22) (xBin .add false (s.τ 13) (.int .i64 1) s.H) s<|.mk fun s=>
 @sMv 13 22 s<|.mk fun s=>
 L0 s
def W76_l6 (Φ:EP) (L0:SP) (s:St):Prop:=
 @sOp (some 14) (xBin .lss false (s.τ 13) (s.τ 12) s.H) s<|.mk fun s=>
 @sIf (s.τ 14) ⟨W76_b5 Φ L0 s⟩ ⟨W76_k3 Φ s⟩
def W76 (Φ:EP) (s:St):Prop:=
 @sOp (some 1) (xBox 1 35 (s.τ 0) s.H) s<|.mk fun s=>
 @sOp (some 2) (xAlloc 2 35 [.int .i64 0,.int .i64 0,.int .i64 0,.str ⟨#[]⟩,.int .i64 0,.int .i64 0,.str ⟨#[]⟩,.nils,.nils] s.H) s<|.mk fun s=>
 @sFl 6 8 1 s<|.mk fun s=>
 @sLd 7 1 6 false s<|.mk fun s=>
 @sOp (some 8) (xLen (s.τ 7) s.H) s<|.mk fun s=>
 @sOp (some 9) (xMks 9 35 9 120 [.int .i64 0,.int .i64 0,.int .i64 0,.str ⟨#[]⟩,.int .i64 0,.int .i64 0,.str ⟨#[]⟩,.nils,.nils] (.int .i64 0) (s.τ 8) s.H) s<|.mk fun s=>
 @sMv 3 9 s<|.mk fun s=>
 @sFl 10 8 1 s<|.mk fun s=>
 @sLd 11 1 10 false s<|.mk fun s=>
 @sOp (some 12) (xLen (s.τ 11) s.H) s<|.mk fun s=>
 @sOp (some 13) (xMov (.int .i64 0) s.H) s<|.mk fun s=>
 @sLoop s ⟨fun L0 s=>W76_l6 Φ L0 s⟩
theorem W76_rs (τ:Nat → AV) (H:Heap):resV Tryz.prog τ H [.cell 2 35] = rdV H 9 true (τ 2):=by kernel_rfl
theorem W76_eq (Φ:EP) (s:St):awp Tryz.prog (Tryz.f76.body.getD .skip) Φ s = W76 Φ s:=by kernel_rfl
theorem W76_S {args:List AV} {r:AV} (hl:args.length ≤ 31) (h:∀ vs,W76 (retK Tryz.prog [.cell 2 35] r) ⟨Am.look (argT 0 args),hls [] vs,noG⟩):Am.Spec Tryz.prog 76 args r:=.of_W (W:=W76) Tryz.func76 (by kernel_rfl) (by kernel_rfl) (by kernel_rfl) Tryz.ntmps76 W76_eq (by kernel_rfl) hl h
-- 77 "penance/stacks.own"
def W77 (Φ:EP) (s:St):Prop:=
 @sOp (some 2) (xMov (.nils) s.H) s<|.mk fun s=>
 @sMv 3 0 s<|.mk fun s=>
 @sCall Tryz.prog (.func 102 []) [(s.τ 3),(.func 103 [])] (some 4) s<|.mk fun s=>
 @sMv 2 4 s<|.mk fun s=>
 Φ .ret s
theorem W77_rs (τ:Nat → AV) (H:Heap):resV Tryz.prog τ H [.tmp 2] = some (τ 2):=by kernel_rfl
theorem W77_eq (Φ:EP) (s:St):awp Tryz.prog (Tryz.f77.body.getD .skip) Φ s = W77 Φ s:=by kernel_rfl
theorem W77_S {args:List AV} {r:AV} (hl:args.length ≤ 5) (h:∀ vs,W77 (retK Tryz.prog [.tmp 2] r) ⟨Am.look (argT 0 args),hls [] vs,noG⟩):Am.Spec Tryz.prog 77 args r:=.of_W (W:=W77) Tryz.func77 (by kernel_rfl) (by kernel_rfl) (by kernel_rfl) Tryz.ntmps77 W77_eq (by kernel_rfl) hl h
-- 78 "penance/stacks.is"
def W78 (Φ:EP) (s:St):Prop:=
 @sOp (some 4) (xMov (.bool false) s.H) s<|.mk fun s=>
 @sMv 5 1 s<|.mk fun s=>
 @sOp (some 6) (xBin .geq false (s.τ 5) (.int .i64 0) s.H) s<|.mk fun s=>
 @sMv 7 6 s<|.mk fun s=>
 @sGm 8 1 7 true s<|.mk fun s=>
 @sGm 9 0 7 true s<|.mk fun s=>
 @sGo 10 7 true s (fun s=>(xLen (s.τ 9) s.H))<|.mk fun s=>
 @sGo 11 7 true s (fun s=>(xBin .lss false (s.τ 8) (s.τ 10) s.H))<|.mk fun s=>
 @sOp (some 12) (xPick (s.τ 7) (s.τ 11) (.bool false) s.H) s<|.mk fun s=>
 @sMv 4 12 s<|.mk fun s=>
 Φ .ret s
theorem W78_rs (τ:Nat → AV) (H:Heap):resV Tryz.prog τ H [.tmp 4] = some (τ 4):=by kernel_rfl
theorem W78_eq (Φ:EP) (s:St):awp Tryz.prog (Tryz.f78.body.getD .skip) Φ s = W78 Φ s:=by kernel_rfl
theorem W78_S {args:List AV} {r:AV} (hl:args.length ≤ 13) (h:∀ vs,W78 (retK Tryz.prog [.tmp 4] r) ⟨Am.look (argT 0 args),hls [] vs,noG⟩):Am.Spec Tryz.prog 78 args r:=.of_W (W:=W78) Tryz.func78 (by kernel_rfl) (by kernel_rfl) (by kernel_rfl) Tryz.ntmps78 W78_eq (by kernel_rfl) hl h
-- 80 "penance/run.nodes"
def W80 (Φ:EP) (s:St):Prop:=
 @sOp (some 1) (xBox 1 35 (s.τ 0) s.H) s<|.mk fun s=>
 @sOp (some 2) (xMov (.nilf) s.H) s<|.mk fun s=>
 @sOp (some 3) (xMkf 105 [(s.τ 1)] s.H) s<|.mk fun s=>
 @sMv 2 3 s<|.mk fun s=>
 Φ .ret s
theorem W80_rs (τ:Nat → AV) (H:Heap):resV Tryz.prog τ H [.tmp 2] = some (τ 2):=by kernel_rfl
theorem W80_eq (Φ:EP) (s:St):awp Tryz.prog (Tryz.f80.body.getD .skip) Φ s = W80 Φ s:=by kernel_rfl
theorem W80_S {args:List AV} {r:AV} (hl:args.length ≤ 4) (h:∀ vs,W80 (retK Tryz.prog [.tmp 2] r) ⟨Am.look (argT 0 args),hls [] vs,noG⟩):Am.Spec Tryz.prog 80 args r:=.of_W (W:=W80) Tryz.func80 (by kernel_rfl) (by kernel_rfl) (by kernel_rfl) Tryz.ntmps80 W80_eq (by kernel_rfl) hl h
-- 81 "(penance/term.bounds).right"
def W81_b1 (Φ:EP) (s:St):Prop:=
 @sOp (some 6) (xMov (.bool false) s.H) s<|.mk fun s=>
 Φ .ret s
def W81_b2 (Φ:EP) (s:St):Prop:=
 @sOp (some 6) (xMov (.bool false) s.H) s<|.mk fun s=>
 Φ .ret s
def W81_k3 (Φ:EP) (s:St):Prop:=
 @sOp (some 6) (xMov (.bool true) s.H) s<|.mk fun s=>
 Φ .ret s
def W81_b4 (Φ:EP) (L0:SP) (s:St):Prop:=
 @sOp (some 6) (xMov (.bool false) s.H) s<|.mk fun s=>
 Φ .ret s
def W81_b5 (Φ:EP) (L0:SP) (s:St):Prop:=
 @sOp (some 93) (xBin .add false (s.τ 79) (.int .i64 1) s.H) s<|.mk fun s=>
 @sMv 79 93 s<|.mk fun s=>
 L0 s
def W81_b10 (Φ:EP) (L0:SP) (s:St):Prop:=
 @sOp (some 81) (xIx 9 (s.τ 77) (s.τ 79) s.H) s<|.mk fun s=>
 @sLd 82 9 81 true s<|.mk fun s=>
 @sOp (some 10) (xAlloc 10 35 [.int .i64 0,.int .i64 0,.int .i64 0,.str ⟨#[]⟩,.int .i64 0,.int .i64 0,.str ⟨#[]⟩,.nils,.nils] s.H) s<|.mk fun s=>
 @sOp none (xStore 9 (s.τ 10) (s.τ 82) s.H) s<|.mk fun s=>
 @sLd 83 3 3 true s<|.mk fun s=>
 @sLd 84 9 10 true s<|.mk fun s=>
 @sMv 85 2 s<|.mk fun s=>
 @sMv 86 85 s<|.mk fun s=>
 @sGf 87 0 4 86 false s<|.mk fun s=>
 @sGl 88 1 87 86 false false s<|.mk fun s=>
 @sGo 89 86 false s (fun s=>(xBin .eql false (s.τ 88) (.int .i64 3) s.H))<|.mk fun s=>
 @sOp (some 90) (xPick (s.τ 86) (.bool true) (s.τ 89) s.H) s<|.mk fun s=>
 @sCall Tryz.prog (.func 81 []) [(s.τ 83),(s.τ 84),(s.τ 90)] (some 91) s<|.mk fun s=>
 @sOp (some 92) (xNot (s.τ 91) s.H) s<|.mk fun s=>
 @sIf (s.τ 92) ⟨W81_b4 Φ L0 s⟩ ⟨W81_b5 Φ L0 s⟩
def W81_l11 (Φ:EP) (L0:SP) (s:St):Prop:=
 @sOp (some 80) (xBin .lss false (s.τ 79) (s.τ 78) s.H) s<|.mk fun s=>
 @sIf (s.τ 80) ⟨W81_b10 Φ L0 s⟩ ⟨W81_k3 Φ s⟩
def W81_b12 (Φ:EP) (s:St):Prop:=
 @sFl 76 8 4 s<|.mk fun s=>
 @sLd 77 1 76 false s<|.mk fun s=>
 @sOp (some 78) (xLen (s.τ 77) s.H) s<|.mk fun s=>
 @sOp (some 79) (xMov (.int .i64 0) s.H) s<|.mk fun s=>
 @sLoop s ⟨fun L0 s=>W81_l11 Φ L0 s⟩
def W81_k13 (Φ:EP) (s:St):Prop:=
 @sLd 73 5 8 true s<|.mk fun s=>
 @sOp (some 74) (xBuild [.bool false,.bool false,.bool false,.bool false,.bool false] [(0,1,(.bool true)),(1,1,(.bool true)),(2,1,(.bool true)),(3,1,(.bool true)),(4,1,(.bool true))] s.H) s<|.mk fun s=>
 @sOp (some 75) (xEq true [(0,.bool),(1,.bool),(2,.bool),(3,.bool),(4,.bool)] (s.τ 73) (s.τ 74) s.H) s<|.mk fun s=>
 @sIf (s.τ 75) ⟨W81_b2 Φ s⟩ ⟨W81_b12 Φ s⟩
def W81_b15 (Φ:EP) (s:St):Prop:=
 @sFl 67 4 4 s<|.mk fun s=>
 @sLd 68 4 67 true s<|.mk fun s=>
 @sFl 69 0 3 s<|.mk fun s=>
 @sLd 70 1 69 false s<|.mk fun s=>
 @sCall Tryz.prog (.func 111 []) [(s.τ 68),(s.τ 70)] (some 71) s<|.mk fun s=>
 @sOp (some 72) (xIxA 5 1 (s.τ 8) (.int .i64 4) s.H) s<|.mk fun s=>
 @sOp none (xStore 1 (s.τ 72) (s.τ 71) s.H) s<|.mk fun s=>
 W81_k13 Φ s
def W81_k16 (Φ:EP) (s:St):Prop:=
 @sFl 65 3 7 s<|.mk fun s=>
 @sLd 66 1 65 false s<|.mk fun s=>
 @sIf (s.τ 66) ⟨W81_b15 Φ s⟩ ⟨W81_k13 Φ s⟩
def W81_b18 (Φ:EP) (s:St):Prop:=
 @sFl 61 3 4 s<|.mk fun s=>
 @sLd 62 1 61 false s<|.mk fun s=>
 @sCall Tryz.prog (.func 110 []) [(s.τ 62)] (some 63) s<|.mk fun s=>
 @sOp (some 64) (xIxA 5 1 (s.τ 8) (.int .i64 3) s.H) s<|.mk fun s=>
 @sOp none (xStore 1 (s.τ 64) (s.τ 63) s.H) s<|.mk fun s=>
 W81_k16 Φ s
def W81_b23 (Φ:EP) (s:St):Prop:=
 @sCall0 Tryz.prog (.func 107 []) [] (some 29) s<|.mk fun u1=>
 @sChk (compat (cfp 29 107 []) (occ (u1.τ 4),[])) <| .mk <|
 @sFl 30 0 4 u1<|.mk fun u2=>
 @sChk (compat (cfp 29 107 []) (occ (u2.τ 30),[])) <| .mk <|
 @sLd 31 1 30 false u2<|.mk fun u3=>
 @sOp (some 32) (xIx 5 (u3.τ 29) (u3.τ 31) u3.H) u3<|.mk fun u4=>
 @sLd 33 5 32 true u4<|.mk fun u5=>
 @sChk (compat (cfp 29 107 []) ([7],[7])) <| .mk <|
 @sChk (compat (occ (u1.τ 4),[]) ([7],[7])) <| .mk <|
 @sChk (compat (occ (u2.τ 30),[]) ([7],[7])) <| .mk <|
 @sChk (compat (occ (u3.τ 29),[]) ([7],[7])) <| .mk <|
 @sChk (compat (occ (u4.τ 32),[]) ([7],[7])) <| .mk <|
 @sOp (some 7) (xAlloc 7 166 [.int .i64 0,.int .i64 0,.bool false,.bool false,.int .i64 0] u5.H) u5<|.mk fun u6=>
 @sOp none (xStore 5 (u6.τ 7) (u6.τ 33) u6.H) u6<|.mk fun s=>
 @sLd 34 3 3 true s<|.mk fun u1=>
 @sFl 35 0 7 u1<|.mk fun u2=>
 @sLd 36 1 35 false u2<|.mk fun u3=>
 @sFl 37 1 4 u3<|.mk fun u4=>
 @sLd 38 1 37 false u4<|.mk fun u5=>
 @sCall0 Tryz.prog (.func 108 []) [(u5.τ 34),(u5.τ 36),(u5.τ 38)] (some 39) u5<|.mk fun u6=>
 @sChk (compat (cfp 39 108 [(u5.τ 34),(u5.τ 36),(u5.τ 38)]) (occ (u6.τ 3),[])) <| .mk <|
 @sLd 40 3 3 true u6<|.mk fun u7=>
 @sChk (compat (cfp 39 108 [(u5.τ 34),(u5.τ 36),(u5.τ 38)]) (occ (u7.τ 7),[])) <| .mk <|
 @sFl 41 1 7 u7<|.mk fun u8=>
 @sChk (compat (cfp 39 108 [(u5.τ 34),(u5.τ 36),(u5.τ 38)]) (occ (u8.τ 41),[])) <| .mk <|
 @sLd 42 1 41 false u8<|.mk fun u9=>
 @sChk (compat (cfp 39 108 [(u5.τ 34),(u5.τ 36),(u5.τ 38)]) (occ (u9.τ 4),[])) <| .mk <|
 @sFl 43 2 4 u9<|.mk fun u10=>
 @sChk (compat (cfp 39 108 [(u5.τ 34),(u5.τ 36),(u5.τ 38)]) (occ (u10.τ 43),[])) <| .mk <|
 @sLd 44 1 43 false u10<|.mk fun u11=>
 @sCall0 Tryz.prog (.func 108 []) [(u11.τ 40),(u11.τ 42),(u11.τ 44)] (some 45) u11<|.mk fun u12=>
 @sChk (compat (cfp 39 108 [(u5.τ 34),(u5.τ 36),(u5.τ 38)]) (occ (u12.τ 4),[])) <| .mk <|
 @sChk (compat (cfp 45 108 [(u11.τ 40),(u11.τ 42),(u11.τ 44)]) (occ (u12.τ 4),[])) <| .mk <|
 @sFl 46 8 4 u12<|.mk fun u13=>
 @sChk (compat (cfp 39 108 [(u5.τ 34),(u5.τ 36),(u5.τ 38)]) (occ (u13.τ 46),[])) <| .mk <|
 @sChk (compat (cfp 45 108 [(u11.τ 40),(u11.τ 42),(u11.τ 44)]) (occ (u13.τ 46),[])) <| .mk <|
 @sLd 47 1 46 false u13<|.mk fun u14=>
 @sChk (compat (cfp 39 108 [(u5.τ 34),(u5.τ 36),(u5.τ 38)]) (occ (u14.τ 47),[])) <| .mk <|
 @sChk (compat (cfp 45 108 [(u11.τ 40),(u11.τ 42),(u11.τ 44)]) (occ (u14.τ 47),[])) <| .mk <|
 @sOp (some 48) (xLen (u14.τ 47) u14.H) u14<|.mk fun u15=>
 @sChk (compat (cfp 39 108 [(u5.τ 34),(u5.τ 36),(u5.τ 38)]) (occ (u15.τ 7),[])) <| .mk <|
 @sChk (compat (cfp 45 108 [(u11.τ 40),(u11.τ 42),(u11.τ 44)]) (occ (u15.τ 7),[])) <| .mk <|
 @sFl 49 4 7 u15<|.mk fun u16=>
 @sChk (compat (cfp 39 108 [(u5.τ 34),(u5.τ 36),(u5.τ 38)]) (occ (u16.τ 49),[])) <| .mk <|
 @sChk (compat (cfp 45 108 [(u11.τ 40),(u11.τ 42),(u11.τ 44)]) (occ (u16.τ 49),[])) <| .mk <|
 @sLd 50 1 49 false u16<|.mk fun u17=>
 @sOp (some 51) (xBin .eql false (u17.τ 48) (u17.τ 50) u17.H) u17<|.mk fun u18=>
 @sChk (compat (cfp 39 108 [(u5.τ 34),(u5.τ 36),(u5.τ 38)]) (occ (u18.τ 4),[])) <| .mk <|
 @sChk (compat (cfp 45 108 [(u11.τ 40),(u11.τ 42),(u11.τ 44)]) (occ (u18.τ 4),[])) <| .mk <|
 @sFl 52 3 4 u18<|.mk fun u19=>
 @sChk (compat (cfp 39 108 [(u5.τ 34),(u5.τ 36),(u5.τ 38)]) (occ (u19.τ 52),[])) <| .mk <|
 @sChk (compat (cfp 45 108 [(u11.τ 40),(u11.τ 42),(u11.τ 44)]) (occ (u19.τ 52),[])) <| .mk <|
 @sLd 53 1 52 false u19<|.mk fun u20=>
 @sOp (some 54) (xBin .eql false (u20.τ 53) (.str ⟨#[]⟩) u20.H) u20<|.mk fun u21=>
 @sChk (compat (cfp 39 108 [(u5.τ 34),(u5.τ 36),(u5.τ 38)]) (occ (u21.τ 4),[])) <| .mk <|
 @sChk (compat (cfp 45 108 [(u11.τ 40),(u11.τ 42),(u11.τ 44)]) (occ (u21.τ 4),[])) <| .mk <|
 @sFl 55 4 4 u21<|.mk fun u22=>
 @sChk (compat (cfp 39 108 [(u5.τ 34),(u5.τ 36),(u5.τ 38)]) (occ (u22.τ 55),[])) <| .mk <|
 @sChk (compat (cfp 45 108 [(u11.τ 40),(u11.τ 42),(u11.τ 44)]) (occ (u22.τ 55),[])) <| .mk <|
 @sLd 56 4 55 true u22<|.mk fun u23=>
 @sChk (compat (occ (u12.τ 4),[]) (cfp 57 109 [(u23.τ 56)])) <| .mk <|
 @sChk (compat (occ (u13.τ 46),[]) (cfp 57 109 [(u23.τ 56)])) <| .mk <|
 @sChk (compat (occ (u14.τ 47),[]) (cfp 57 109 [(u23.τ 56)])) <| .mk <|
 @sChk (compat (occ (u15.τ 7),[]) (cfp 57 109 [(u23.τ 56)])) <| .mk <|
 @sChk (compat (occ (u16.τ 49),[]) (cfp 57 109 [(u23.τ 56)])) <| .mk <|
 @sChk (compat (occ (u18.τ 4),[]) (cfp 57 109 [(u23.τ 56)])) <| .mk <|
 @sChk (compat (occ (u19.τ 52),[]) (cfp 57 109 [(u23.τ 56)])) <| .mk <|
 @sCall0 Tryz.prog (.func 109 []) [(u23.τ 56)] (some 57) u23<|.mk fun u24=>
 @sOp (some 58) (xBuild [.bool false,.bool false,.bool false,.bool false,.bool false] [(0,1,(u24.τ 39)),(1,1,(u24.τ 45)),(2,1,(u24.τ 51)),(3,1,(u24.τ 54)),(4,1,(u24.τ 57))] u24.H) u24<|.mk fun u25=>
 @sChk (compat (occ (s.τ 3),[]) ([8],[8])) <| .mk <|
 @sChk (compat (occ (u1.τ 7),[]) ([8],[8])) <| .mk <|
 @sChk (compat (occ (u2.τ 35),[]) ([8],[8])) <| .mk <|
 @sChk (compat (occ (u3.τ 4),[]) ([8],[8])) <| .mk <|
 @sChk (compat (occ (u4.τ 37),[]) ([8],[8])) <| .mk <|
 @sChk (compat (cfp 39 108 [(u5.τ 34),(u5.τ 36),(u5.τ 38)]) ([8],[8])) <| .mk <|
 @sChk (compat (occ (u6.τ 3),[]) ([8],[8])) <| .mk <|
 @sChk (compat (occ (u7.τ 7),[]) ([8],[8])) <| .mk <|
 @sChk (compat (occ (u8.τ 41),[]) ([8],[8])) <| .mk <|
 @sChk (compat (occ (u9.τ 4),[]) ([8],[8])) <| .mk <|
 @sChk (compat (occ (u10.τ 43),[]) ([8],[8])) <| .mk <|
 @sChk (compat (cfp 45 108 [(u11.τ 40),(u11.τ 42),(u11.τ 44)]) ([8],[8])) <| .mk <|
 @sChk (compat (occ (u12.τ 4),[]) ([8],[8])) <| .mk <|
 @sChk (compat (occ (u13.τ 46),[]) ([8],[8])) <| .mk <|
 @sChk (compat (occ (u14.τ 47),[]) ([8],[8])) <| .mk <|
 @sChk (compat (occ (u15.τ 7),[]) ([8],[8])) <| .mk <|
 @sChk (compat (occ (u16.τ 49),[]) ([8],[8])) <| .mk <|
 @sChk (compat (occ (u18.τ 4),[]) ([8],[8])) <| .mk <|
 @sChk (compat (occ (u19.τ 52),[]) ([8],[8])) <| .mk <|
 @sChk (compat (occ (u21.τ 4),[]) ([8],[8])) <| .mk <|
 @sChk (compat (occ (u22.τ 55),[]) ([8],[8])) <| .mk <|
 @sChk (compat (cfp 57 109 [(u23.τ 56)]) ([8],[8])) <| .mk <|
 @sOp (some 8) (xAlloc 8 168 [.bool false,.bool false,.bool false,.bool false,.bool false] u25.H) u25<|.mk fun u26=>
 @sOp none (xStore 5 (u26.τ 8) (u26.τ 58) u26.H) u26<|.mk fun s=>
 @sFl 59 2 7 s<|.mk fun s=>
 @sLd 60 1 59 false s<|.mk fun s=>
 @sIf (s.τ 60) ⟨W81_b18 Φ s⟩ ⟨W81_k16 Φ s⟩
def W81 (Φ:EP) (s:St):Prop:=
 @sOp (some 3) (xBox 3 133 (s.τ 0) s.H) s<|.mk fun s=>
 @sOp (some 4) (xBox 4 35 (s.τ 1) s.H) s<|.mk fun s=>
 @sOp (some 6) (xMov (.bool false) s.H) s<|.mk fun s=>
 @sFl 11 0 4 s<|.mk fun u1=>
 @sLd 12 1 11 false u1<|.mk fun u2=>
 @sOp (some 13) (xBin .lss false (u2.τ 12) (.int .i64 0) u2.H) u2<|.mk fun u3=>
 @sMv 14 13 u3<|.mk fun u4=>
 @sGf 15 0 4 14 false u4<|.mk fun u5=>
 @sGl 16 1 15 14 false false u5<|.mk fun u6=>
 @sChk (compat (occ (u4.τ 4),[]) (cfp 17 107 [])) <| .mk <|
 @sChk (compat (occ (u5.τ 15),[]) (cfp 17 107 [])) <| .mk <|
 @sGrd (guardOf (u6.τ 14) false) (some 17) u6 ⟨fun s K=>@sCall0 Tryz.prog (.func 107 []) [] (some 17) s ⟨K⟩⟩<|.mk fun u7=>
 @sGo 18 14 false u7 (fun s=>(xLen (s.τ 17) s.H))<|.mk fun u8=>
 @sGo 19 14 false u8 (fun s=>(xBin .geq false (s.τ 16) (s.τ 18) s.H))<|.mk fun u9=>
 @sOp (some 20) (xPick (u9.τ 14) (.bool true) (u9.τ 19) u9.H) u9<|.mk fun u10=>
 @sMv 21 20 u10<|.mk fun u11=>
 @sGm 22 2 21 false u11<|.mk fun u12=>
 @sGm 23 22 21 false u12<|.mk fun u13=>
 @sGf 24 0 4 23 true u13<|.mk fun u14=>
 @sGl 25 1 24 23 false true u14<|.mk fun u15=>
 @sGo 26 23 true u15 (fun s=>(xBin .eql false (s.τ 25) (.int .i64 14) s.H))<|.mk fun u16=>
 @sGo 27 21 false u16 (fun s=>(xPick (s.τ 23) (s.τ 26) (.bool false) s.H))<|.mk fun u17=>
 @sOp (some 28) (xPick (u17.τ 21) (.bool true) (u17.τ 27) u17.H) u17<|.mk fun s=>
 @sIf (s.τ 28) ⟨W81_b1 Φ s⟩ ⟨W81_b23 Φ s⟩
theorem W81_rs (τ:Nat → AV) (H:Heap):resV Tryz.prog τ H [.tmp 6] = some (τ 6):=by kernel_rfl
theorem W81_eq (Φ:EP) (s:St):awp Tryz.prog (Tryz.f81.body.getD .skip) Φ s = W81 Φ s:=by kernel_rfl
theorem W81_S {args:List AV} {r:AV} (hl:args.length ≤ 94) (h:∀ vs,W81 (retK Tryz.prog [.tmp 6] r) ⟨Am.look (argT 0 args),hls [] vs,noG⟩):Am.Spec Tryz.prog 81 args r:=.of_W (W:=W81) Tryz.func81 (by kernel_rfl) (by kernel_rfl) (by kernel_rfl) Tryz.ntmps81 W81_eq (by kernel_rfl) hl h
-- 82 "slices.Clone[[]penance/api.Term,penance/api.Term]"
def W82_b1 (Φ:EP) (s:St):Prop:=
 @sOp (some 2) (xMov (.nils) s.H) s<|.mk fun s=>
 Φ .ret s
def W82_b2 (Φ:EP) (s:St):Prop:=
 @sOp (some 5) (xRow 5 35 9 0 [.int .i64 0,.int .i64 0,.int .i64 0,.str ⟨#[]⟩,.int .i64 0,.int .i64 0,.str ⟨#[]⟩,.nils,.nils] [] s.H) s<|.mk fun s=>
 @sMv 6 0 s<|.mk fun s=>
 @sOp (some 7) (xApp Tryz.prog 35 9 120 (some 7) (s.τ 5) (s.τ 6) s.H) s<|.mk fun s=>
 @sMv 2 7 s<|.mk fun s=>
 Φ .ret s
def W82 (Φ:EP) (s:St):Prop:=
 @sOp (some 2) (xMov (.nils) s.H) s<|.mk fun s=>
 @sMv 3 0 s<|.mk fun s=>
 @sNil false (s.τ 3) (some 4) s<|.mk fun s=>
 @sIf (s.τ 4) ⟨W82_b1 Φ s⟩ ⟨W82_b2 Φ s⟩
theorem W82_rs (τ:Nat → AV) (H:Heap):resV Tryz.prog τ H [.tmp 2] = some (τ 2):=by kernel_rfl
theorem W82_eq (Φ:EP) (s:St):awp Tryz.prog (Tryz.f82.body.getD .skip) Φ s = W82 Φ s:=by kernel_rfl
theorem W82_S {args:List AV} {r:AV} (hl:args.length ≤ 8) (h:∀ vs,W82 (retK Tryz.prog [.tmp 2] r) ⟨Am.look (argT 0 args),hls [] vs,noG⟩):Am.Spec Tryz.prog 82 args r:=.of_W (W:=W82) Tryz.func82 (by kernel_rfl) (by kernel_rfl) (by kernel_rfl) Tryz.ntmps82 W82_eq (by kernel_rfl) hl h
-- 83 "penance/steps.places"
def W83 (Φ:EP) (s:St):Prop:=
 @sOp (some 1) (xBox 1 35 (s.τ 0) s.H) s<|.mk fun s=>
 @sOp (some 2) (xMov (.nilf) s.H) s<|.mk fun s=>
 @sOp (some 3) (xMkf 112 [(s.τ 1)] s.H) s<|.mk fun s=>
 @sMv 2 3 s<|.mk fun s=>
 Φ .ret s
theorem W83_rs (τ:Nat → AV) (H:Heap):resV Tryz.prog τ H [.tmp 2] = some (τ 2):=by kernel_rfl
theorem W83_eq (Φ:EP) (s:St):awp Tryz.prog (Tryz.f83.body.getD .skip) Φ s = W83 Φ s:=by kernel_rfl
theorem W83_S {args:List AV} {r:AV} (hl:args.length ≤ 4) (h:∀ vs,W83 (retK Tryz.prog [.tmp 2] r) ⟨Am.look (argT 0 args),hls [] vs,noG⟩):Am.Spec Tryz.prog 83 args r:=.of_W (W:=W83) Tryz.func83 (by kernel_rfl) (by kernel_rfl) (by kernel_rfl) Tryz.ntmps83 W83_eq (by kernel_rfl) hl h
-- 84 "slices.Clone[[]penance/api.Step,penance/api.Step]"
def W84_b1 (Φ:EP) (s:St):Prop:=
 @sOp (some 2) (xMov (.nils) s.H) s<|.mk fun s=>
 Φ .ret s
def W84_b2 (Φ:EP) (s:St):Prop:=
 @sOp (some 5) (xRow 5 60 3 0 [.int .i64 0,.nils,.int .i64 0] [] s.H) s<|.mk fun s=>
 @sMv 6 0 s<|.mk fun s=>
 @sOp (some 7) (xApp Tryz.prog 60 3 40 (some 7) (s.τ 5) (s.τ 6) s.H) s<|.mk fun s=>
 @sMv 2 7 s<|.mk fun s=>
 Φ .ret s
def W84 (Φ:EP) (s:St):Prop:=
 @sOp (some 2) (xMov (.nils) s.H) s<|.mk fun s=>
 @sMv 3 0 s<|.mk fun s=>
 @sNil false (s.τ 3) (some 4) s<|.mk fun s=>
 @sIf (s.τ 4) ⟨W84_b1 Φ s⟩ ⟨W84_b2 Φ s⟩
theorem W84_rs (τ:Nat → AV) (H:Heap):resV Tryz.prog τ H [.tmp 2] = some (τ 2):=by kernel_rfl
theorem W84_eq (Φ:EP) (s:St):awp Tryz.prog (Tryz.f84.body.getD .skip) Φ s = W84 Φ s:=by kernel_rfl
theorem W84_S {args:List AV} {r:AV} (hl:args.length ≤ 8) (h:∀ vs,W84 (retK Tryz.prog [.tmp 2] r) ⟨Am.look (argT 0 args),hls [] vs,noG⟩):Am.Spec Tryz.prog 84 args r:=.of_W (W:=W84) Tryz.func84 (by kernel_rfl) (by kernel_rfl) (by kernel_rfl) Tryz.ntmps84 W84_eq (by kernel_rfl) hl h
-- 85 "penance/expr.truth"
def W85_b1 (Φ:EP) (s:St):Prop:=
 @sOp (some 2) (xMov (.int .i64 1) s.H) s<|.mk fun s=>
 Φ .ret s
def W85_b2 (Φ:EP) (s:St):Prop:=
 @sOp (some 2) (xMov (.int .i64 0) s.H) s<|.mk fun s=>
 Φ .ret s
def W85 (Φ:EP) (s:St):Prop:=
 @sOp (some 2) (xMov (.int .i64 0) s.H) s<|.mk fun s=>
 @sMv 3 0 s<|.mk fun s=>
 @sIf (s.τ 3) ⟨W85_b1 Φ s⟩ ⟨W85_b2 Φ s⟩
theorem W85_rs (τ:Nat → AV) (H:Heap):resV Tryz.prog τ H [.tmp 2] = some (τ 2):=by kernel_rfl
theorem W85_eq (Φ:EP) (s:St):awp Tryz.prog (Tryz.f85.body.getD .skip) Φ s = W85 Φ s:=by kernel_rfl
theorem W85_S {args:List AV} {r:AV} (hl:args.length ≤ 4) (h:∀ vs,W85 (retK Tryz.prog [.tmp 2] r) ⟨Am.look (argT 0 args),hls [] vs,noG⟩):Am.Spec Tryz.prog 85 args r:=.of_W (W:=W85) Tryz.func85 (by kernel_rfl) (by kernel_rfl) (by kernel_rfl) Tryz.ntmps85 W85_eq (by kernel_rfl) hl h
-- 86 "penance/expr.times"
def W86_b1 (Φ:EP) (s:St):Prop:=
 @sOp (some 4) (xMov (.int .i64 0) s.H) s<|.mk fun s=>
 @sOp (some 5) (xMov (.int .i64 0) s.H) s<|.mk fun s=>
 Φ .ret s
def W86_b2 (Φ:EP) (s:St):Prop:=
 @sOp (some 4) (xMov (.int .i64 0) s.H) s<|.mk fun s=>
 @sOp (some 5) (xMov (.int .i64 8) s.H) s<|.mk fun s=>
 Φ .ret s
def W86_b3 (Φ:EP) (s:St):Prop:=
 @sMv 25 0 s<|.mk fun s=>
 @sMv 26 1 s<|.mk fun s=>
 @sOp (some 27) (xBin .mul false (s.τ 25) (s.τ 26) s.H) s<|.mk fun s=>
 @sMv 4 27 s<|.mk fun s=>
 @sOp (some 5) (xMov (.int .i64 0) s.H) s<|.mk fun s=>
 Φ .ret s
def W86_b6 (Φ:EP) (s:St):Prop:=
 @sMv 19 0 s<|.mk fun s=>
 @sOp (some 20) (xBin .eql false (s.τ 19) (.int .i64 (-9223372036854775808)) s.H) s<|.mk fun s=>
 @sMv 21 20 s<|.mk fun s=>
 @sGm 22 1 21 false s<|.mk fun s=>
 @sGo 23 21 false s (fun s=>(xBin .eql false (s.τ 22) (.int .i64 (-9223372036854775808)) s.H))<|.mk fun s=>
 @sOp (some 24) (xPick (s.τ 21) (.bool true) (s.τ 23) s.H) s<|.mk fun s=>
 @sIf (s.τ 24) ⟨W86_b2 Φ s⟩ ⟨W86_b3 Φ s⟩
def W86_b7 (Φ:EP) (s:St):Prop:=
 @sMv 36 6 s<|.mk fun s=>
 @sMv 4 36 s<|.mk fun s=>
 @sOp (some 5) (xMov (.int .i64 0) s.H) s<|.mk fun s=>
 Φ .ret s
def W86_b8 (Φ:EP) (s:St):Prop:=
 @sOp (some 4) (xMov (.int .i64 0) s.H) s<|.mk fun s=>
 @sOp (some 5) (xMov (.int .i64 8) s.H) s<|.mk fun s=>
 Φ .ret s
def W86_b9 (Φ:EP) (s:St):Prop:=
 @sMv 28 0 s<|.mk fun s=>
 @sMv 29 1 s<|.mk fun s=>
 @sOp (some 30) (xBin .mul false (s.τ 28) (s.τ 29) s.H) s<|.mk fun s=>
 @sMv 6 30 s<|.mk fun s=>
 @sMv 31 6 s<|.mk fun s=>
 @sMv 32 1 s<|.mk fun s=>
 @sOp (some 33) (xBin .quo false (s.τ 31) (s.τ 32) s.H) s<|.mk fun s=>
 @sMv 34 0 s<|.mk fun s=>
 @sOp (some 35) (xBin .eql false (s.τ 33) (s.τ 34) s.H) s<|.mk fun s=>
 @sIf (s.τ 35) ⟨W86_b7 Φ s⟩ ⟨W86_b8 Φ s⟩
def W86_b12 (Φ:EP) (s:St):Prop:=
 @sMv 13 0 s<|.mk fun s=>
 @sOp (some 14) (xBin .eql false (s.τ 13) (.int .i64 (-1)) s.H) s<|.mk fun s=>
 @sMv 15 14 s<|.mk fun s=>
 @sGm 16 1 15 false s<|.mk fun s=>
 @sGo 17 15 false s (fun s=>(xBin .eql false (s.τ 16) (.int .i64 (-1)) s.H))<|.mk fun s=>
 @sOp (some 18) (xPick (s.τ 15) (.bool true) (s.τ 17) s.H) s<|.mk fun s=>
 @sIf (s.τ 18) ⟨W86_b6 Φ s⟩ ⟨W86_b9 Φ s⟩
def W86 (Φ:EP) (s:St):Prop:=
 @sOp (some 4) (xMov (.int .i64 0) s.H) s<|.mk fun s=>
 @sOp (some 5) (xMov (.int .i64 0) s.H) s<|.mk fun s=>
 @sMv 7 0 s<|.mk fun s=>
 @sOp (some 8) (xBin .eql false (s.τ 7) (.int .i64 0) s.H) s<|.mk fun s=>
 @sMv 9 8 s<|.mk fun s=>
 @sGm 10 1 9 false s<|.mk fun s=>
 @sGo 11 9 false s (fun s=>(xBin .eql false (s.τ 10) (.int .i64 0) s.H))<|.mk fun s=>
 @sOp (some 12) (xPick (s.τ 9) (.bool true) (s.τ 11) s.H) s<|.mk fun s=>
 @sIf (s.τ 12) ⟨W86_b1 Φ s⟩ ⟨W86_b12 Φ s⟩
theorem W86_rs (τ:Nat → AV) (H:Heap):resV Tryz.prog τ H [.tmp 4,.tmp 5] = ob (ob (some (τ 4)) fun v=>ob (ob (some (τ 5)) fun v=>ob (some []) fun vs=>some (v :: vs)) fun vs=>some (v :: vs)) fun vs=>some (.tup vs):=by kernel_rfl
theorem W86_eq (Φ:EP) (s:St):awp Tryz.prog (Tryz.f86.body.getD .skip) Φ s = W86 Φ s:=by kernel_rfl
theorem W86_S {args:List AV} {r:AV} (hl:args.length ≤ 37) (h:∀ vs,W86 (retK Tryz.prog [.tmp 4,.tmp 5] r) ⟨Am.look (argT 0 args),hls [] vs,noG⟩):Am.Spec Tryz.prog 86 args r:=.of_W (W:=W86) Tryz.func86 (by kernel_rfl) (by kernel_rfl) (by kernel_rfl) Tryz.ntmps86 W86_eq (by kernel_rfl) hl h
-- 87 "penance/expr.two"
def W87_b2 (Φ:EP) (s:St):Prop:=
 @sMv 11 1 s<|.mk fun s=>
 @sMv 12 2 s<|.mk fun s=>
 @sCall Tryz.prog (.func 86 []) [(s.τ 11),(s.τ 12)] (some 13) s<|.mk fun s=>
 @sOp (some 14) (xExt (s.τ 13) 0 s.H) s<|.mk fun s=>
 @sOp (some 15) (xExt (s.τ 13) 1 s.H) s<|.mk fun s=>
 @sMv 6 14 s<|.mk fun s=>
 @sMv 7 15 s<|.mk fun s=>
 Φ .ret s
def W87_b4 (Φ:EP) (s:St):Prop:=
 @sMv 18 1 s<|.mk fun s=>
 @sMv 19 2 s<|.mk fun s=>
 @sCall Tryz.prog (.func 115 []) [(s.τ 18),(s.τ 19)] (some 20) s<|.mk fun s=>
 @sOp (some 21) (xExt (s.τ 20) 0 s.H) s<|.mk fun s=>
 @sOp (some 22) (xExt (s.τ 20) 1 s.H) s<|.mk fun s=>
 @sMv 6 21 s<|.mk fun s=>
 @sMv 7 22 s<|.mk fun s=>
 Φ .ret s
def W87_b5 (Φ:EP) (s:St):Prop:=
 @sOp (some 6) (xMov (.int .i64 0) s.H) s<|.mk fun s=>
 @sOp (some 7) (xMov (.int .i64 8) s.H) s<|.mk fun s=>
 Φ .ret s
def W87_b6 (Φ:EP) (s:St):Prop:=
 @sMv 29 1 s<|.mk fun s=>
 @sMv 30 2 s<|.mk fun s=>
 @sOp (some 31) (xBin .sub false (s.τ 29) (s.τ 30) s.H) s<|.mk fun s=>
 @sMv 6 31 s<|.mk fun s=>
 @sOp (some 7) (xMov (.int .i64 0) s.H) s<|.mk fun s=>
 Φ .ret s
def W87_b7 (Φ:EP) (s:St):Prop:=
 @sMv 27 1 s<|.mk fun s=>
 @sOp (some 28) (xBin .geq false (s.τ 27) (.int .i64 0) s.H) s<|.mk fun s=>
 @sIf (s.τ 28) ⟨W87_b5 Φ s⟩ ⟨W87_b6 Φ s⟩
def W87_b9 (Φ:EP) (s:St):Prop:=
 @sMv 32 1 s<|.mk fun s=>
 @sMv 33 2 s<|.mk fun s=>
 @sOp (some 34) (xNeg (s.τ 33) s.H) s<|.mk fun s=>
 @sCall Tryz.prog (.func 115 []) [(s.τ 32),(s.τ 34)] (some 35) s<|.mk fun s=>
 @sOp (some 36) (xExt (s.τ 35) 0 s.H) s<|.mk fun s=>
 @sOp (some 37) (xExt (s.τ 35) 1 s.H) s<|.mk fun s=>
 @sMv 6 36 s<|.mk fun s=>
 @sMv 7 37 s<|.mk fun s=>
 Φ .ret s
def W87_b10 (Φ:EP) (s:St):Prop:=
 @sMv 25 2 s<|.mk fun s=>
 @sOp (some 26) (xBin .eql false (s.τ 25) (.int .i64 (-9223372036854775808)) s.H) s<|.mk fun s=>
 @sIf (s.τ 26) ⟨W87_b7 Φ s⟩ ⟨W87_b9 Φ s⟩
def W87_b11 (Φ:EP) (s:St):Prop:=
 @sOp (some 6) (xMov (.int .i64 0) s.H) s<|.mk fun s=>
 @sOp (some 7) (xMov (.int .i64 9) s.H) s<|.mk fun s=>
 Φ .ret s
def W87_b12 (Φ:EP) (s:St):Prop:=
 @sOp (some 6) (xMov (.int .i64 0) s.H) s<|.mk fun s=>
 @sOp (some 7) (xMov (.int .i64 0) s.H) s<|.mk fun s=>
 Φ .ret s
def W87_b14 (Φ:EP) (s:St):Prop:=
 @sMv 54 1 s<|.mk fun s=>
 @sMv 55 2 s<|.mk fun s=>
 @sCall Tryz.prog (.func 86 []) [(s.τ 54),(s.τ 55)] (some 56) s<|.mk fun s=>
 @sOp (some 57) (xExt (s.τ 56) 0 s.H) s<|.mk fun s=>
 @sOp (some 58) (xExt (s.τ 56) 1 s.H) s<|.mk fun s=>
 @sMv 6 57 s<|.mk fun s=>
 @sMv 7 58 s<|.mk fun s=>
 Φ .ret s
def W87_b15 (Φ:EP) (s:St):Prop:=
 @sMv 62 1 s<|.mk fun s=>
 @sMv 63 2 s<|.mk fun s=>
 @sOp (some 64) (xBin .rem false (s.τ 62) (s.τ 63) s.H) s<|.mk fun s=>
 @sMv 6 64 s<|.mk fun s=>
 @sOp (some 7) (xMov (.int .i64 0) s.H) s<|.mk fun s=>
 Φ .ret s
def W87_b16 (Φ:EP) (s:St):Prop:=
 @sMv 65 1 s<|.mk fun s=>
 @sMv 66 2 s<|.mk fun s=>
 @sOp (some 67) (xBin .quo false (s.τ 65) (s.τ 66) s.H) s<|.mk fun s=>
 @sMv 6 67 s<|.mk fun s=>
 @sOp (some 7) (xMov (.int .i64 0) s.H) s<|.mk fun s=>
 Φ .ret s
def W87_b17 (Φ:EP) (s:St):Prop:=
 @sMv 60 0 s<|.mk fun s=>
 @sOp (some 61) (xBin .eql false (s.τ 60) (.int .i64 7) s.H) s<|.mk fun s=>
 @sMv 59 61 s<|.mk fun s=>
 @sIf (s.τ 59) ⟨W87_b15 Φ s⟩ ⟨W87_b16 Φ s⟩
def W87_b18 (Φ:EP) (s:St):Prop:=
 @sMv 52 2 s<|.mk fun s=>
 @sOp (some 53) (xBin .eql false (s.τ 52) (.int .i64 (-1)) s.H) s<|.mk fun s=>
 @sMv 51 53 s<|.mk fun s=>
 @sIf (s.τ 51) ⟨W87_b14 Φ s⟩ ⟨W87_b17 Φ s⟩
def W87_b21 (Φ:EP) (s:St):Prop:=
 @sMv 45 2 s<|.mk fun s=>
 @sOp (some 46) (xBin .eql false (s.τ 45) (.int .i64 (-1)) s.H) s<|.mk fun s=>
 @sMv 47 46 s<|.mk fun s=>
 @sGm 48 0 47 true s<|.mk fun s=>
 @sGo 49 47 true s (fun s=>(xBin .eql false (s.τ 48) (.int .i64 7) s.H))<|.mk fun s=>
 @sOp (some 50) (xPick (s.τ 47) (s.τ 49) (.bool false) s.H) s<|.mk fun s=>
 @sMv 44 50 s<|.mk fun s=>
 @sIf (s.τ 44) ⟨W87_b12 Φ s⟩ ⟨W87_b18 Φ s⟩
def W87_b22 (Φ:EP) (s:St):Prop:=
 @sMv 42 2 s<|.mk fun s=>
 @sOp (some 43) (xBin .eql false (s.τ 42) (.int .i64 0) s.H) s<|.mk fun s=>
 @sMv 41 43 s<|.mk fun s=>
 @sIf (s.τ 41) ⟨W87_b11 Φ s⟩ ⟨W87_b21 Φ s⟩
def W87_b24 (Φ:EP) (s:St):Prop:=
 @sMv 70 1 s<|.mk fun s=>
 @sMv 71 2 s<|.mk fun s=>
 @sOp (some 72) (xBin .eql false (s.τ 70) (s.τ 71) s.H) s<|.mk fun s=>
 @sCall Tryz.prog (.func 85 []) [(s.τ 72)] (some 73) s<|.mk fun s=>
 @sMv 6 73 s<|.mk fun s=>
 @sOp (some 7) (xMov (.int .i64 0) s.H) s<|.mk fun s=>
 Φ .ret s
def W87_b26 (Φ:EP) (s:St):Prop:=
 @sMv 76 1 s<|.mk fun s=>
 @sMv 77 2 s<|.mk fun s=>
 @sOp (some 78) (xBin .neq false (s.τ 76) (s.τ 77) s.H) s<|.mk fun s=>
 @sCall Tryz.prog (.func 85 []) [(s.τ 78)] (some 79) s<|.mk fun s=>
 @sMv 6 79 s<|.mk fun s=>
 @sOp (some 7) (xMov (.int .i64 0) s.H) s<|.mk fun s=>
 Φ .ret s
def W87_b28 (Φ:EP) (s:St):Prop:=
 @sMv 82 1 s<|.mk fun s=>
 @sMv 83 2 s<|.mk fun s=>
 @sOp (some 84) (xBin .lss false (s.τ 82) (s.τ 83) s.H) s<|.mk fun s=>
 @sCall Tryz.prog (.func 85 []) [(s.τ 84)] (some 85) s<|.mk fun s=>
 @sMv 6 85 s<|.mk fun s=>
 @sOp (some 7) (xMov (.int .i64 0) s.H) s<|.mk fun s=>
 Φ .ret s
def W87_b30 (Φ:EP) (s:St):Prop:=
 @sMv 88 1 s<|.mk fun s=>
 @sMv 89 2 s<|.mk fun s=>
 @sOp (some 90) (xBin .leq false (s.τ 88) (s.τ 89) s.H) s<|.mk fun s=>
 @sCall Tryz.prog (.func 85 []) [(s.τ 90)] (some 91) s<|.mk fun s=>
 @sMv 6 91 s<|.mk fun s=>
 @sOp (some 7) (xMov (.int .i64 0) s.H) s<|.mk fun s=>
 Φ .ret s
def W87_b32 (Φ:EP) (s:St):Prop:=
 @sMv 94 1 s<|.mk fun s=>
 @sMv 95 2 s<|.mk fun s=>
 @sOp (some 96) (xBin .gtr false (s.τ 94) (s.τ 95) s.H) s<|.mk fun s=>
 @sCall Tryz.prog (.func 85 []) [(s.τ 96)] (some 97) s<|.mk fun s=>
 @sMv 6 97 s<|.mk fun s=>
 @sOp (some 7) (xMov (.int .i64 0) s.H) s<|.mk fun s=>
 Φ .ret s
def W87_b34 (Φ:EP) (s:St):Prop:=
 @sMv 98 1 s<|.mk fun s=>
 @sMv 99 2 s<|.mk fun s=>
 @sOp (some 100) (xBin .geq false (s.τ 98) (s.τ 99) s.H) s<|.mk fun s=>
 @sCall Tryz.prog (.func 85 []) [(s.τ 100)] (some 101) s<|.mk fun s=>
 @sMv 6 101 s<|.mk fun s=>
 @sOp (some 7) (xMov (.int .i64 0) s.H) s<|.mk fun s=>
 Φ .ret s
def W87_b35 (Φ:EP) (s:St):Prop:=
 @sOp (some 93) (xBin .eql false (s.τ 8) (.int .i64 14) s.H) s<|.mk fun s=>
 @sMv 92 93 s<|.mk fun s=>
 @sIf (s.τ 92) ⟨W87_b32 Φ s⟩ ⟨W87_b34 Φ s⟩
def W87_b36 (Φ:EP) (s:St):Prop:=
 @sOp (some 87) (xBin .eql false (s.τ 8) (.int .i64 13) s.H) s<|.mk fun s=>
 @sMv 86 87 s<|.mk fun s=>
 @sIf (s.τ 86) ⟨W87_b30 Φ s⟩ ⟨W87_b35 Φ s⟩
def W87_b37 (Φ:EP) (s:St):Prop:=
 @sOp (some 81) (xBin .eql false (s.τ 8) (.int .i64 12) s.H) s<|.mk fun s=>
 @sMv 80 81 s<|.mk fun s=>
 @sIf (s.τ 80) ⟨W87_b28 Φ s⟩ ⟨W87_b36 Φ s⟩
def W87_b38 (Φ:EP) (s:St):Prop:=
 @sOp (some 75) (xBin .eql false (s.τ 8) (.int .i64 11) s.H) s<|.mk fun s=>
 @sMv 74 75 s<|.mk fun s=>
 @sIf (s.τ 74) ⟨W87_b26 Φ s⟩ ⟨W87_b37 Φ s⟩
def W87_b39 (Φ:EP) (s:St):Prop:=
 @sOp (some 69) (xBin .eql false (s.τ 8) (.int .i64 10) s.H) s<|.mk fun s=>
 @sMv 68 69 s<|.mk fun s=>
 @sIf (s.τ 68) ⟨W87_b24 Φ s⟩ ⟨W87_b38 Φ s⟩
def W87_k40 (Φ:EP) (s:St):Prop:=
 @sIf (s.τ 38) ⟨W87_b22 Φ s⟩ ⟨W87_b39 Φ s⟩
def W87_b41 (Φ:EP) (s:St):Prop:=
 @sOp (some 40) (xBin .eql false (s.τ 8) (.int .i64 7) s.H) s<|.mk fun s=>
 @sMv 38 40 s<|.mk fun s=>
 W87_k40 Φ s
def W87_b42 (Φ:EP) (s:St):Prop:=
 @sOp (some 39) (xBin .eql false (s.τ 8) (.int .i64 6) s.H) s<|.mk fun s=>
 @sMv 38 39 s<|.mk fun s=>
 @sIf (s.τ 38) ⟨W87_k40 Φ s⟩ ⟨W87_b41 Φ s⟩
def W87_b43 (Φ:EP) (s:St):Prop:=
 @sOp (some 24) (xBin .eql false (s.τ 8) (.int .i64 9) s.H) s<|.mk fun s=>
 @sMv 23 24 s<|.mk fun s=>
 @sIf (s.τ 23) ⟨W87_b10 Φ s⟩ ⟨W87_b42 Φ s⟩
def W87_b44 (Φ:EP) (s:St):Prop:=
 @sOp (some 17) (xBin .eql false (s.τ 8) (.int .i64 8) s.H) s<|.mk fun s=>
 @sMv 16 17 s<|.mk fun s=>
 @sIf (s.τ 16) ⟨W87_b4 Φ s⟩ ⟨W87_b43 Φ s⟩
def W87 (Φ:EP) (s:St):Prop:=
 @sOp (some 6) (xMov (.int .i64 0) s.H) s<|.mk fun s=>
 @sOp (some 7) (xMov (.int .i64 0) s.H) s<|.mk fun s=>
 @sMv 8 0 s<|.mk fun s=>
 @sOp (some 10) (xBin .eql false (s.τ 8) (.int .i64 5) s.H) s<|.mk fun s=>
 @sMv 9 10 s<|.mk fun s=>
 @sIf (s.τ 9) ⟨W87_b2 Φ s⟩ ⟨W87_b44 Φ s⟩
theorem W87_rs (τ:Nat → AV) (H:Heap):resV Tryz.prog τ H [.tmp 6,.tmp 7] = ob (ob (some (τ 6)) fun v=>ob (ob (some (τ 7)) fun v=>ob (some []) fun vs=>some (v :: vs)) fun vs=>some (v :: vs)) fun vs=>some (.tup vs):=by kernel_rfl
theorem W87_eq (Φ:EP) (s:St):awp Tryz.prog (Tryz.f87.body.getD .skip) Φ s = W87 Φ s:=by kernel_rfl
theorem W87_S {args:List AV} {r:AV} (hl:args.length ≤ 102) (h:∀ vs,W87 (retK Tryz.prog [.tmp 6,.tmp 7] r) ⟨Am.look (argT 0 args),hls [] vs,noG⟩):Am.Spec Tryz.prog 87 args r:=.of_W (W:=W87) Tryz.func87 (by kernel_rfl) (by kernel_rfl) (by kernel_rfl) Tryz.ntmps87 W87_eq (by kernel_rfl) hl h
-- 88 "penance/stacks.ownTerm"
def W88 (Φ:EP) (s:St):Prop:=
 @sOp (some 1) (xBox 1 35 (s.τ 0) s.H) s<|.mk fun s=>
 @sOp (some 2) (xAlloc 2 35 [.int .i64 0,.int .i64 0,.int .i64 0,.str ⟨#[]⟩,.int .i64 0,.int .i64 0,.str ⟨#[]⟩,.nils,.nils] s.H) s<|.mk fun s=>
 @sFl 3 4 1 s<|.mk fun u1=>
 @sLd 4 4 3 true u1<|.mk fun u2=>
 @sCall0 Tryz.prog (.func 116 []) [(u2.τ 4)] (some 5) u2<|.mk fun u3=>
 @sChk (compat (cfp 5 116 [(u2.τ 4)]) (occ (u3.τ 1),[])) <| .mk <|
 @sFl 6 8 1 u3<|.mk fun u4=>
 @sChk (compat (cfp 5 116 [(u2.τ 4)]) (occ (u4.τ 6),[])) <| .mk <|
 @sLd 7 1 6 false u4<|.mk fun u5=>
 @sCall0 Tryz.prog (.func 104 []) [(u5.τ 7),(.func 88 [])] (some 8) u5<|.mk fun u6=>
 @sChk (compat ([8] ++ (occ (.func 104 []) ++ occL [(u5.τ 7),(.func 88 [])]),[8] ++ (occ (.func 104 []) ++ occL [(u5.τ 7),(.func 88 [])])) (occ (u6.τ 1),[])) <| .mk <|
 @sFl 9 4 1 u6<|.mk fun u7=>
 @sOp none (xStore 4 (u7.τ 9) (u7.τ 5) u7.H) u7<|.mk fun u8=>
 @sFl 10 8 1 u8<|.mk fun u9=>
 @sOp none (xStore 1 (u9.τ 10) (u9.τ 8) u9.H) u9<|.mk fun s=>
 @sLd 11 9 1 true s<|.mk fun s=>
 @sOp none (xStore 9 (s.τ 2) (s.τ 11) s.H) s<|.mk fun s=>
 Φ .ret s
theorem W88_rs (τ:Nat → AV) (H:Heap):resV Tryz.prog τ H [.cell 2 35] = rdV H 9 true (τ 2):=by kernel_rfl
theorem W88_eq (Φ:EP) (s:St):awp Tryz.prog (Tryz.f88.body.getD .skip) Φ s = W88 Φ s:=by kernel_rfl
theorem W88_S {args:List AV} {r:AV} (hl:args.length ≤ 12) (h:∀ vs,W88 (retK Tryz.prog [.cell 2 35] r) ⟨Am.look (argT 0 args),hls [] vs,noG⟩):Am.Spec Tryz.prog 88 args r:=.of_W (W:=W88) Tryz.func88 (by kernel_rfl) (by kernel_rfl) (by kernel_rfl) Tryz.ntmps88 W88_eq (by kernel_rfl) hl h
end Go.Proofs.YtnngddgaobhkiaaGreat
