/- The environment: slices.Insert, slices.Delete by hand. -/
import Derived.Test.YtoihpjpgihhcjaaEvf16B3
set_option linter.unusedSimpArgs false
set_option linter.unusedVariables false
namespace Go.Proofs.YtoihpjpgihhcjaaR
open Go Go.Proofs.YtoihpjpgihhcjaaEv Go.RowKit Go.Proofs
noncomputable def envi : Env := fun n => if n = 31 then some (.prim insG) else envh n
theorem enviOk : EnvOk Try.prog raws envi := envOk_prim envhOk ⟨Try.f31, _, Try.func31, rfl, by decide⟩ ins_ok
noncomputable def env : Env := fun n => if n = 44 then some (.prim delG) else envi n
theorem envOk : EnvOk Try.prog raws env := envOk_prim enviOk ⟨Try.f44, _, Try.func44, rfl, by decide⟩ del_ok
theorem env31 : env 31 = some (.prim insG) := rfl
theorem env44 : env 44 = some (.prim delG) := rfl
theorem env_but : ∀ n, n ≠ 31 → n ≠ 44 → env n = envh n := fun n h1 h2 => by unfold env envi; rw [if_neg h2, if_neg h1]
theorem env3 : env 3 = some (.pub ir3) := by kernel_rfl
theorem env4 : env 4 = some (.pub ir4) := by kernel_rfl
theorem env5 : env 5 = some (.pub ir5) := by kernel_rfl
theorem env6 : env 6 = some (.pub ir6) := by kernel_rfl
theorem env7 : env 7 = some (.pub ir7) := by kernel_rfl
theorem env8 : env 8 = some (.pub ir8) := by kernel_rfl
theorem env9 : env 9 = some (.pub ir9) := by kernel_rfl
theorem env10 : env 10 = some (.pub ir10) := by kernel_rfl
theorem env11 : env 11 = some (.pub ir11) := by kernel_rfl
theorem env12 : env 12 = some (.pub ir12) := by kernel_rfl
theorem env13 : env 13 = some (.pub ir13) := by kernel_rfl
theorem env14 : env 14 = some (.pub ir14) := by kernel_rfl
theorem env15 : env 15 = some (.pub ir15) := by kernel_rfl
theorem env16 : env 16 = some (.pub ir16) := by kernel_rfl
theorem env17 : env 17 = some (.pub ir17) := by kernel_rfl
theorem env18 : env 18 = some (.pub ir18) := by kernel_rfl
theorem env19 : env 19 = some (.pub ir19) := by kernel_rfl
theorem env20 : env 20 = some (.pub ir20) := by kernel_rfl
theorem env21 : env 21 = some (.pub ir21) := by kernel_rfl
theorem env22 : env 22 = some (.pub ir22) := by kernel_rfl
theorem env23 : env 23 = some (.pub ir23) := by kernel_rfl
theorem env24 : env 24 = some (.pub ir24) := by kernel_rfl
theorem env25 : env 25 = some (.pub ir25) := by kernel_rfl
theorem env26 : env 26 = some (.pub ir26) := by kernel_rfl
theorem env27 : env 27 = some (.pub ir27) := by kernel_rfl
theorem env28 : env 28 = some (.pub ir28) := by kernel_rfl
theorem env29 : env 29 = some (.pub ir29) := by kernel_rfl
theorem env30 : env 30 = some (.body ir30) := by kernel_rfl
theorem env33 : env 33 = some (.pub ir33) := by kernel_rfl
theorem env34 : env 34 = some (.pub ir34) := by kernel_rfl
theorem env35 : env 35 = some (.pub ir35) := by kernel_rfl
theorem env36 : env 36 = some (.pub ir36) := by kernel_rfl
theorem env37 : env 37 = some (.pub ir37) := by kernel_rfl
theorem env38 : env 38 = some (.body ir38) := by kernel_rfl
theorem env39 : env 39 = some (.body ir39) := by kernel_rfl
theorem env40 : env 40 = some (.body ir40) := by kernel_rfl
theorem env41 : env 41 = some (.body ir41) := by kernel_rfl
theorem env43 : env 43 = some (.body ir43) := by kernel_rfl
theorem env45 : env 45 = some (.body ir45) := by kernel_rfl
theorem env46 : env 46 = some (.body ir46) := by kernel_rfl
theorem env47 : env 47 = some (.body ir47) := by kernel_rfl
end Go.Proofs.YtoihpjpgihhcjaaR
