import Derived.Test.YtnngddgaobhkiaaGreatGL21
import Derived.Test.YtnngddgaobhkiaaGreatGQ7
import Derived.Test.YtnngddgaobhkiaaGreatGW8
import Derived.Test.YtnngddgaobhkiaaGreatGW9
import Derived.Test.YtnngddgaobhkiaaGreatGE15
import Derived.ReadAgain
set_option linter.unusedVariables false
set_option linter.unusedSimpArgs false
namespace Go.Proofs.YtnngddgaobhkiaaGreat
open Go Go.Am Go.RowKit Go.ChangeShapes Go.WideShapes Go.ChangeAt
theorem ul3:Tryz.prog.underlying 3 = some (.int .i64):=by kernel_rfl
theorem ulR2:Tryz.prog.underlying 176 = some (.struct (structOf Tryz.prog 176)):=by kernel_rfl
theorem ulR3:Tryz.prog.underlying 69 = some (.struct (structOf Tryz.prog 69)):=by kernel_rfl
theorem ulR2s:Tryz.prog.underlying 67 = some (.slice 176):=by kernel_rfl
theorem ulR3s:Tryz.prog.underlying 22 = some (.slice 69):=by kernel_rfl
theorem rd_R2 (W:World):∀ n,RdN Tryz.prog W n 176 encR2 fun _=>True
 | 0=>.zero
 | n + 1=>fun m hm H enc cs x hx=>by
  have ih:=rd_R2 W n
  obtain ⟨xs,k,hk,rfl,hl,hlen,hf⟩:=DataW.trod_struct ulR2 hx
  have hl:cs.length = 3:=hl.trans (by kernel_rfl)
  obtain ⟨a0,-,h0⟩:=RdN.field hf hlen 0 3 0 1 (by kernel_rfl) (by kernel_rfl) (RdN.int (W:=W) ul3 n) (by omega)
  obtain ⟨a1,-,h1⟩:=RdN.field hf hlen 1 3 1 1 (by kernel_rfl) (by kernel_rfl) (RdN.int (W:=W) ul3 n) (by omega)
  obtain ⟨a2,-,h2⟩:=RdN.field hf hlen 2 67 2 1 (by kernel_rfl) (by kernel_rfl) ((ih.slice ulR2s (fun a=>(encR2_len a).trans (by kernel_rfl)) (by decide +kernel) encR2_cell).mono (by omega)) (by omega)
  obtain ⟨c0,c1,c2,rfl⟩:∃ c0 c1 c2,cs = [c0,c1,c2]:=by
   rcases cs with _ | ⟨c0,_ | ⟨c1,_ | ⟨c2,_ | ⟨c3,cs⟩⟩⟩⟩ <;> simp at hl
   exact ⟨_,_,_,rfl⟩
  refine ⟨⟨a0,a1,a2⟩,trivial,?_⟩
  rw [encR2_eq]
  exact RL.app h0 (RL.app h1 h2)
theorem rd_R3 (W:World):∀ n,RdN Tryz.prog W n 69 encR3 fun _=>True
 | 0=>.zero
 | n + 1=>fun m hm H enc cs x hx=>by
  have ih:=rd_R3 W n
  have i2:=rd_R2 W n
  obtain ⟨xs,k,hk,rfl,hl,hlen,hf⟩:=DataW.trod_struct ulR3 hx
  have hl:cs.length = 5:=hl.trans (by kernel_rfl)
  obtain ⟨a0,-,h0⟩:=RdN.field hf hlen 0 3 0 1 (by kernel_rfl) (by kernel_rfl) (RdN.int (W:=W) ul3 n) (by omega)
  obtain ⟨a1,-,h1⟩:=RdN.field hf hlen 1 3 1 1 (by kernel_rfl) (by kernel_rfl) (RdN.int (W:=W) ul3 n) (by omega)
  obtain ⟨a2,-,h2⟩:=RdN.field hf hlen 2 3 2 1 (by kernel_rfl) (by kernel_rfl) (RdN.int (W:=W) ul3 n) (by omega)
  obtain ⟨a3,-,h3⟩:=RdN.field hf hlen 3 67 3 1 (by kernel_rfl) (by kernel_rfl) ((i2.slice ulR2s (fun a=>(encR2_len a).trans (by kernel_rfl)) (by decide +kernel) encR2_cell).mono (by omega)) (by omega)
  obtain ⟨a4,-,h4⟩:=RdN.field hf hlen 4 22 4 1 (by kernel_rfl) (by kernel_rfl) ((ih.slice ulR3s (fun a=>(encR3_len a).trans (by kernel_rfl)) (by decide +kernel) encR3_cell).mono (by omega)) (by omega)
  obtain ⟨c0,c1,c2,c3,c4,rfl⟩:∃ c0 c1 c2 c3 c4,cs = [c0,c1,c2,c3,c4]:=by
   rcases cs with _ | ⟨c0,_ | ⟨c1,_ | ⟨c2,_ | ⟨c3,_ | ⟨c4,_ | ⟨c5,cs⟩⟩⟩⟩⟩⟩ <;> simp at hl
   exact ⟨_,_,_,_,_,rfl⟩
  refine ⟨⟨a0,a1,a2,a3,a4⟩,trivial,?_⟩
  rw [encR3_eq]
  exact RL.app h0 (RL.app h1 (RL.app h2 (RL.app h3 h4)))
theorem rdv_int:RdV Tryz.prog 3 (fun i=>.int .i64 i) fun i=>(Lit.int .i64 i).wf = true:=.int ul3
theorem prog_laid:laidOutB Tryz.prog = true:=by kernel_rfl
theorem prog_mapsRowed:mapsRowed Tryz.prog = true:=by kernel_rfl
theorem prog_full:∀ t e,t < Tryz.prog.types.size → Tryz.prog.underlying t = some (.slice e) → 0 < Tryz.prog.cellsOf e:=slices_full_of Tryz.prog (by kernel_rfl)
end Go.Proofs.YtnngddgaobhkiaaGreat
namespace Go.Proofs.YtnngddgaobhkiaaGreat
open Go Go.Am Go.RowKit Go.ChangeShapes Go.WideShapes Go.ChangeAt
theorem ulStr:Tryz.prog.underlying 9 = some .string:=by kernel_rfl
theorem ulEx:Tryz.prog.underlying 33 = some (.struct (structOf Tryz.prog 33)):=by kernel_rfl
theorem ulTm:Tryz.prog.underlying 35 = some (.struct (structOf Tryz.prog 35)):=by kernel_rfl
theorem ulExs:Tryz.prog.underlying 31 = some (.slice 33):=by kernel_rfl
theorem ulTms:Tryz.prog.underlying 27 = some (.slice 35):=by kernel_rfl
theorem rd_Exr (W:World):∀ n,RdN Tryz.prog W n 33 encE fun _=>True
 | 0=>.zero
 | n + 1=>fun m hm H enc cs x hx=>by
  have ih:=rd_Exr W n
  obtain ⟨xs,k,hk,rfl,hl,hlen,hf⟩:=DataW.trod_struct ulEx hx
  have hl:cs.length = 4:=hl.trans (by kernel_rfl)
  obtain ⟨a0,-,h0⟩:=RdN.field hf hlen 0 3 0 1 (by kernel_rfl) (by kernel_rfl) (RdN.int (W:=W) ul3 n) (by omega)
  obtain ⟨a1,-,h1⟩:=RdN.field hf hlen 1 3 1 1 (by kernel_rfl) (by kernel_rfl) (RdN.int (W:=W) ul3 n) (by omega)
  obtain ⟨a2,-,h2⟩:=RdN.field hf hlen 2 9 2 1 (by kernel_rfl) (by kernel_rfl) (RdN.str (W:=W) ulStr n) (by omega)
  obtain ⟨a3,-,h3⟩:=RdN.field hf hlen 3 31 3 1 (by kernel_rfl) (by kernel_rfl) ((ih.slice ulExs (fun a=>(encE_len a).trans (by kernel_rfl)) (by decide +kernel) encE_cell).mono (by omega)) (by omega)
  obtain ⟨c0,c1,c2,c3,rfl⟩:∃ c0 c1 c2 c3,cs = [c0,c1,c2,c3]:=by
   rcases cs with _ | ⟨c0,_ | ⟨c1,_ | ⟨c2,_ | ⟨c3,_ | ⟨c4,cs⟩⟩⟩⟩⟩ <;> simp at hl
   exact ⟨_,_,_,_,rfl⟩
  refine ⟨⟨a0,a1,a2,a3⟩,trivial,?_⟩
  rw [encE_eq]
  exact RL.app h0 (RL.app h1 (RL.app h2 h3))
theorem rd_Tmr (W:World):∀ n,RdN Tryz.prog W n 35 encT fun _=>True
 | 0=>.zero
 | n + 1=>fun m hm H enc cs x hx=>by
  have ih:=rd_Tmr W n
  have ie:=rd_Exr W n
  obtain ⟨xs,k,hk,rfl,hl,hlen,hf⟩:=DataW.trod_struct ulTm hx
  have hl:cs.length = 9:=hl.trans (by kernel_rfl)
  obtain ⟨a0,-,h0⟩:=RdN.field hf hlen 0 3 0 1 (by kernel_rfl) (by kernel_rfl) (RdN.int (W:=W) ul3 n) (by omega)
  obtain ⟨a1,-,h1⟩:=RdN.field hf hlen 1 3 1 1 (by kernel_rfl) (by kernel_rfl) (RdN.int (W:=W) ul3 n) (by omega)
  obtain ⟨a2,-,h2⟩:=RdN.field hf hlen 2 3 2 1 (by kernel_rfl) (by kernel_rfl) (RdN.int (W:=W) ul3 n) (by omega)
  obtain ⟨a3,-,h3⟩:=RdN.field hf hlen 3 9 3 1 (by kernel_rfl) (by kernel_rfl) (RdN.str (W:=W) ulStr n) (by omega)
  obtain ⟨a4,-,h4⟩:=RdN.field hf hlen 4 33 4 4 (by kernel_rfl) (by kernel_rfl) ie (by omega)
  obtain ⟨a5,-,h5⟩:=RdN.field hf hlen 5 27 8 1 (by kernel_rfl) (by kernel_rfl) ((ih.slice ulTms (fun a=>(encT_len a).trans (by kernel_rfl)) (by decide +kernel) encT_cell).mono (by omega)) (by omega)
  obtain ⟨c0,c1,c2,c3,c4,c5,c6,c7,c8,rfl⟩:∃ c0 c1 c2 c3 c4 c5 c6 c7 c8,cs = [c0,c1,c2,c3,c4,c5,c6,c7,c8]:=by
   rcases cs with _ | ⟨c0,_ | ⟨c1,_ | ⟨c2,_ | ⟨c3,_ | ⟨c4,_ | ⟨c5,_ | ⟨c6,_ | ⟨c7,_ | ⟨c8,_ | ⟨c9,cs⟩⟩⟩⟩⟩⟩⟩⟩⟩⟩ <;> simp at hl
   exact ⟨_,_,_,_,_,_,_,_,_,rfl⟩
  refine ⟨⟨a0,a1,a2,a3,a4,a5⟩,trivial,?_⟩
  rw [encT_mk]
  exact RL.app h0 (RL.app h1 (RL.app h2 (RL.app h3 (RL.app h4 h5))))
end Go.Proofs.YtnngddgaobhkiaaGreat
