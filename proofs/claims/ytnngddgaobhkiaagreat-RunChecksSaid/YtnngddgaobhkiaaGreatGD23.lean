import Derived.Test.YtnngddgaobhkiaaGreatGR22
import Derived.Test.YtnngddgaobhkiaaGreatGD10
set_option linter.unusedVariables false
set_option linter.unusedSimpArgs false
namespace Go.Proofs.YtnngddgaobhkiaaGreat
open Go Go.Am Go.RowKit Go.ChangeShapes Go.WideShapes Go.ChangeAt
structure Shp where
 mk ::
 v:Int
 s:Int
 bs:List Rw3
def encShp (x:Shp):List AV:=encSh x.v x.s x.bs
theorem ulSh:Tryz.prog.underlying 24 = some (.struct (structOf Tryz.prog 24)):=by kernel_rfl
theorem rd_Sh (W:World):∀ n,RdN Tryz.prog W n 24 encShp fun x=>x.bs.length ≤ maxLen
 | 0=>.zero
 | n + 1=>fun m hm H enc cs x hx=>by
  have i3:=rd_R3 W n
  obtain ⟨xs,k,hk,rfl,hl,hlen,hf⟩:=DataW.trod_struct ulSh hx
  have hl:cs.length = 3:=hl.trans (by kernel_rfl)
  obtain ⟨a0,-,h0⟩:=RdN.field hf hlen 0 3 0 1 (by kernel_rfl) (by kernel_rfl) (RdN.int (W:=W) ul3 n) (by omega)
  obtain ⟨a1,-,h1⟩:=RdN.field hf hlen 1 3 1 1 (by kernel_rfl) (by kernel_rfl) (RdN.int (W:=W) ul3 n) (by omega)
  obtain ⟨a2,p2,h2⟩:=RdN.field hf hlen 2 22 2 1 (by kernel_rfl) (by kernel_rfl) ((i3.slice ulR3s (fun a=>(encR3_len a).trans (by kernel_rfl)) (by decide +kernel) encR3_cell).mono (by omega)) (by omega)
  obtain ⟨c0,c1,c2,rfl⟩:∃ c0 c1 c2,cs = [c0,c1,c2]:=by
   rcases cs with _ | ⟨c0,_ | ⟨c1,_ | ⟨c2,_ | ⟨c3,cs⟩⟩⟩⟩ <;> simp at hl
   exact ⟨_,_,_,rfl⟩
  refine ⟨⟨a0,a1,a2⟩,p2.1,?_⟩
  show RL _ (encSh a0 a1 a2) _
  unfold encSh
  exact RL.app h0 (RL.app h1 h2)
theorem rdv_Sh:RdV Tryz.prog 24 (fun r:Shp=>.agg (encShp r)) fun r=>r.bs.length ≤ maxLen:=.struct ulSh fun W n=>rd_Sh W n
theorem ulIs:Tryz.prog.underlying 25 = some (.slice 3):=by kernel_rfl
end Go.Proofs.YtnngddgaobhkiaaGreat
