import Derived.Test.YtkagfenchknjjaaGE18
import Derived.Test.YtkagfenchknjjaaGR17
set_option linter.unusedVariables false
set_option linter.unusedSimpArgs false
namespace Go.Proofs.Ytkagfenchknjjaa
open Go Go.Am Go.RowKit Go.ChangeShapes Go.WideShapes Go.ChangeAt

theorem ulStr : Try.prog.underlying 9 = some .string := by kernel_rfl
theorem ulEx : Try.prog.underlying 31 = some (.struct (structOf Try.prog 31)) := by kernel_rfl
theorem ulTm : Try.prog.underlying 34 = some (.struct (structOf Try.prog 34)) := by kernel_rfl
theorem ulExs : Try.prog.underlying 29 = some (.slice 31) := by kernel_rfl
theorem ulTms : Try.prog.underlying 32 = some (.slice 34) := by kernel_rfl
theorem rd_Exr (W : World) : ∀ n, RdN Try.prog W n 31 encE fun _ => True
  | 0 => .zero
  | n + 1 => fun m hm H enc cs x hx => by
    have ih := rd_Exr W n
    obtain ⟨xs, k, hk, rfl, hl, hlen, hf⟩ := DataW.trod_struct ulEx hx
    have hl : cs.length = 4 := hl.trans (by kernel_rfl)
    obtain ⟨a0, -, h0⟩ := RdN.field hf hlen 0 3 0 1 (by kernel_rfl) (by kernel_rfl) (RdN.int (W := W) ul3 n) (by omega)
    obtain ⟨a1, -, h1⟩ := RdN.field hf hlen 1 3 1 1 (by kernel_rfl) (by kernel_rfl) (RdN.int (W := W) ul3 n) (by omega)
    obtain ⟨a2, -, h2⟩ := RdN.field hf hlen 2 9 2 1 (by kernel_rfl) (by kernel_rfl) (RdN.str (W := W) ulStr n) (by omega)
    obtain ⟨a3, -, h3⟩ := RdN.field hf hlen 3 29 3 1 (by kernel_rfl) (by kernel_rfl) ((ih.slice ulExs (fun a => (encE_len a).trans (by kernel_rfl)) (by decide +kernel) encE_cell).mono (by omega)) (by omega)
    obtain ⟨c0, c1, c2, c3, rfl⟩ : ∃ c0 c1 c2 c3, cs = [c0, c1, c2, c3] := by
      rcases cs with _ | ⟨c0, _ | ⟨c1, _ | ⟨c2, _ | ⟨c3, _ | ⟨c4, cs⟩⟩⟩⟩⟩ <;> simp at hl
      exact ⟨_, _, _, _, rfl⟩
    refine ⟨⟨a0, a1, a2, a3⟩, trivial, ?_⟩
    rw [encE_eq]
    exact RL.app h0 (RL.app h1 (RL.app h2 h3))
theorem rd_Tmr (W : World) : ∀ n, RdN Try.prog W n 34 encT fun _ => True
  | 0 => .zero
  | n + 1 => fun m hm H enc cs x hx => by
    have ih := rd_Tmr W n
    have ie := rd_Exr W n
    obtain ⟨xs, k, hk, rfl, hl, hlen, hf⟩ := DataW.trod_struct ulTm hx
    have hl : cs.length = 9 := hl.trans (by kernel_rfl)
    obtain ⟨a0, -, h0⟩ := RdN.field hf hlen 0 3 0 1 (by kernel_rfl) (by kernel_rfl) (RdN.int (W := W) ul3 n) (by omega)
    obtain ⟨a1, -, h1⟩ := RdN.field hf hlen 1 3 1 1 (by kernel_rfl) (by kernel_rfl) (RdN.int (W := W) ul3 n) (by omega)
    obtain ⟨a2, -, h2⟩ := RdN.field hf hlen 2 3 2 1 (by kernel_rfl) (by kernel_rfl) (RdN.int (W := W) ul3 n) (by omega)
    obtain ⟨a3, -, h3⟩ := RdN.field hf hlen 3 9 3 1 (by kernel_rfl) (by kernel_rfl) (RdN.str (W := W) ulStr n) (by omega)
    obtain ⟨a4, -, h4⟩ := RdN.field hf hlen 4 31 4 4 (by kernel_rfl) (by kernel_rfl) ie (by omega)
    obtain ⟨a5, -, h5⟩ := RdN.field hf hlen 5 32 8 1 (by kernel_rfl) (by kernel_rfl) ((ih.slice ulTms (fun a => (encT_len a).trans (by kernel_rfl)) (by decide +kernel) encT_cell).mono (by omega)) (by omega)
    obtain ⟨c0, c1, c2, c3, c4, c5, c6, c7, c8, rfl⟩ : ∃ c0 c1 c2 c3 c4 c5 c6 c7 c8, cs = [c0, c1, c2, c3, c4, c5, c6, c7, c8] := by
      rcases cs with _ | ⟨c0, _ | ⟨c1, _ | ⟨c2, _ | ⟨c3, _ | ⟨c4, _ | ⟨c5, _ | ⟨c6, _ | ⟨c7, _ | ⟨c8, _ | ⟨c9, cs⟩⟩⟩⟩⟩⟩⟩⟩⟩⟩ <;> simp at hl
      exact ⟨_, _, _, _, _, _, _, _, _, rfl⟩
    refine ⟨⟨a0, a1, a2, a3, a4, a5⟩, trivial, ?_⟩
    rw [encT_mk]
    exact RL.app h0 (RL.app h1 (RL.app h2 (RL.app h3 (RL.app h4 h5))))
theorem rdv_Tm : RdV Try.prog 34 (fun r => .agg (encT r)) fun _ => True := .struct ulTm fun W n => rd_Tmr W n
end Go.Proofs.Ytkagfenchknjjaa
