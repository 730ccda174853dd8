/- The environment: dict.Find by hand. -/
import Derived.Test.YtbgihgkobojfaaaEvf11A3
set_option linter.unusedSimpArgs false
set_option linter.unusedVariables false
namespace Go.Proofs.YtbgihgkobojfaaaR
open Go Go.Proofs.YtbgihgkobojfaaaEv Go.RowKit Go.Proofs
noncomputable def env : Env := fun n => if n = 11 then some (.prim findG) else envh n
theorem envOk : EnvOk Try.prog raws env := envOk_prim envhOk ⟨Try.f11, _, Try.func11, rfl, by decide⟩ find_ok
theorem env11 : env 11 = some (.prim findG) := rfl
theorem env_but : ∀ n, n ≠ 11 → env n = envh n := fun n hn => if_neg hn
theorem env6 : env 6 = some (.pub ir6) := by kernel_rfl
theorem env8 : env 8 = some (.pub ir8) := by kernel_rfl
theorem env9 : env 9 = some (.pub ir9) := by kernel_rfl
theorem env10 : env 10 = some (.pub ir10) := by kernel_rfl
theorem env12 : env 12 = some (.pub ir12) := by kernel_rfl
theorem env13 : env 13 = some (.pub ir13) := by kernel_rfl
theorem env14 : env 14 = some (.pub ir14) := by kernel_rfl
theorem env15 : env 15 = some (.pub ir15) := by kernel_rfl
theorem env16 : env 16 = some (.pub ir16) := by kernel_rfl
theorem env17 : env 17 = some (.pub ir17) := by kernel_rfl
theorem env18 : env 18 = some (.pub ir18) := by kernel_rfl
theorem env19 : env 19 = some (.pub ir19) := by kernel_rfl
theorem env20 : env 20 = some (.pub ir20) := by kernel_rfl
theorem env21 : env 21 = some (.pub ir21) := by kernel_rfl
theorem env22 : env 22 = some (.pub ir22) := by kernel_rfl
theorem env23 : env 23 = some (.pub ir23) := by kernel_rfl
theorem env24 : env 24 = some (.pub ir24) := by kernel_rfl
theorem env25 : env 25 = some (.pub ir25) := by kernel_rfl
theorem env26 : env 26 = some (.pub ir26) := by kernel_rfl
theorem env27 : env 27 = some (.pub ir27) := by kernel_rfl
theorem env28 : env 28 = some (.pub ir28) := by kernel_rfl
theorem env29 : env 29 = some (.pub ir29) := by kernel_rfl
theorem env30 : env 30 = some (.pub ir30) := by kernel_rfl
theorem env31 : env 31 = some (.pub ir31) := by kernel_rfl
theorem env32 : env 32 = some (.body ir32) := by kernel_rfl
theorem env33 : env 33 = some (.pub ir33) := by kernel_rfl
theorem env34 : env 34 = some (.pub ir34) := by kernel_rfl
theorem env35 : env 35 = some (.body ir35) := by kernel_rfl
theorem env36 : env 36 = some (.pub ir36) := by kernel_rfl
theorem env37 : env 37 = some (.pub ir37) := by kernel_rfl
theorem env38 : env 38 = some (.pub ir38) := by kernel_rfl
theorem env39 : env 39 = some (.pub ir39) := by kernel_rfl
theorem env41 : env 41 = some (.pub ir41) := by kernel_rfl
theorem env42 : env 42 = some (.pub ir42) := by kernel_rfl
theorem env43 : env 43 = some (.pub ir43) := by kernel_rfl
theorem env44 : env 44 = some (.pub ir44) := by kernel_rfl
theorem env45 : env 45 = some (.body ir45) := by kernel_rfl
theorem env46 : env 46 = some (.body ir46) := by kernel_rfl
theorem env47 : env 47 = some (.body ir47) := by kernel_rfl
theorem env48 : env 48 = some (.body ir48) := by kernel_rfl
theorem env49 : env 49 = some (.pub ir49) := by kernel_rfl
theorem env50 : env 50 = some (.body ir50) := by kernel_rfl
theorem env51 : env 51 = some (.pub ir51) := by kernel_rfl
theorem env52 : env 52 = some (.pub ir52) := by kernel_rfl
theorem env53 : env 53 = some (.pub ir53) := by kernel_rfl
theorem env54 : env 54 = some (.pub ir54) := by kernel_rfl
theorem env55 : env 55 = some (.pub ir55) := by kernel_rfl
theorem env56 : env 56 = some (.pub ir56) := by kernel_rfl
theorem env57 : env 57 = some (.pub ir57) := by kernel_rfl
end Go.Proofs.YtbgihgkobojfaaaR
