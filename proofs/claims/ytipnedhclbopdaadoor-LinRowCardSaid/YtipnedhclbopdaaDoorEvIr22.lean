/- The environment: lin.keyOf by hand. -/
import Derived.Test.YtipnedhclbopdaaDoorEvf22A5
set_option linter.unusedSimpArgs false
set_option linter.unusedVariables false
namespace Go.Proofs.YtipnedhclbopdaaDoorR
open Go Go.Proofs.YtipnedhclbopdaaDoorEv Go.RowKit Go.Proofs
theorem env28 : env 28 = some (.prim keyG) := rfl
theorem envP26 : env 26 = some (.prim (cloneG 1 (ev env0) 26)) := rfl
theorem envP29 : env 29 = some (.prim (cloneG 1 (ev env0) 29)) := rfl
theorem env3 : env 3 = some (.pub ir3) := by kernel_rfl
theorem env4 : env 4 = some (.pub ir4) := by kernel_rfl
theorem env5 : env 5 = some (.pub ir5) := by kernel_rfl
theorem env6 : env 6 = some (.pub ir6) := by kernel_rfl
theorem env7 : env 7 = some (.pub ir7) := by kernel_rfl
theorem env8 : env 8 = some (.pub ir8) := by kernel_rfl
theorem env9 : env 9 = some (.pub ir9) := by kernel_rfl
theorem env10 : env 10 = some (.pub ir10) := by kernel_rfl
theorem env11 : env 11 = some (.pub ir11) := by kernel_rfl
theorem env12 : env 12 = some (.pub ir12) := by kernel_rfl
theorem env13 : env 13 = some (.pub ir13) := by kernel_rfl
theorem env14 : env 14 = some (.pub ir14) := by kernel_rfl
theorem env15 : env 15 = some (.pub ir15) := by kernel_rfl
theorem env16 : env 16 = some (.pub ir16) := by kernel_rfl
theorem env17 : env 17 = some (.pub ir17) := by kernel_rfl
theorem env18 : env 18 = some (.pub ir18) := by kernel_rfl
theorem env19 : env 19 = some (.pub ir19) := by kernel_rfl
theorem env20 : env 20 = some (.pub ir20) := by kernel_rfl
theorem env21 : env 21 = some (.pub ir21) := by kernel_rfl
theorem env22 : env 22 = some (.pub ir22) := by kernel_rfl
theorem env23 : env 23 = some (.pub ir23) := by kernel_rfl
theorem env24 : env 24 = some (.pub ir24) := by kernel_rfl
theorem env25 : env 25 = some (.pub ir25) := by kernel_rfl
theorem env27 : env 27 = some (.body ir27) := by kernel_rfl
theorem env30 : env 30 = some (.pub ir30) := by kernel_rfl
end Go.Proofs.YtipnedhclbopdaaDoorR
