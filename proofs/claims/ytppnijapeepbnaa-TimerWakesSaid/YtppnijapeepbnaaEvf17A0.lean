/- Evf17A0: a part of the proof. -/
import Derived.Test.YtppnijapeepbnaaEvIs17
import Derived.Test.YtppnijapeepbnaaEv5
import Derived.IntWalk
set_option linter.unusedVariables false
set_option linter.unusedSimpArgs false
namespace Go.Proofs.YtppnijapeepbnaaR
open Go Go.Proofs.YtppnijapeepbnaaEv
theorem envh3 : envh 3 = some (.pub ir3) := by kernel_rfl
theorem envh4 : envh 4 = some (.pub ir4) := by kernel_rfl
theorem envh5 : envh 5 = some (.pub ir5) := by kernel_rfl
theorem envh6 : envh 6 = some (.pub ir6) := by kernel_rfl
theorem envh7 : envh 7 = some (.pub ir7) := by kernel_rfl
theorem envh8 : envh 8 = some (.pub ir8) := by kernel_rfl
theorem envh10 : envh 10 = some (.pub ir10) := by kernel_rfl
theorem envh11 : envh 11 = some (.pub ir11) := by kernel_rfl
theorem envh12 : envh 12 = some (.pub ir12) := by kernel_rfl
theorem envh13 : envh 13 = some (.pub ir13) := by kernel_rfl
theorem envh14 : envh 14 = some (.pub ir14) := by kernel_rfl
theorem envh15 : envh 15 = some (.pub ir15) := by kernel_rfl
theorem envh16 : envh 16 = some (.pub ir16) := by kernel_rfl
theorem envh17 : envh 17 = some (.pub ir17) := by kernel_rfl
theorem envh18 : envh 18 = some (.pub ir18) := by kernel_rfl
theorem envh19 : envh 19 = some (.pub ir19) := by kernel_rfl
theorem envh20 : envh 20 = some (.pub ir20) := by kernel_rfl
theorem envh21 : envh 21 = some (.pub ir21) := by kernel_rfl
theorem envh22 : envh 22 = some (.pub ir22) := by kernel_rfl
theorem envh23 : envh 23 = some (.pub ir23) := by kernel_rfl
theorem envh24 : envh 24 = some (.body ir24) := by kernel_rfl
theorem envh25 : envh 25 = some (.body ir25) := by kernel_rfl
theorem envh27 : envh 27 = some (.body ir27) := by kernel_rfl
theorem envh28 : envh 28 = some (.pub ir28) := by kernel_rfl
theorem envh29 : envh 29 = some (.pub ir29) := by kernel_rfl
theorem envh30 : envh 30 = some (.body ir30) := by kernel_rfl
theorem envh31 : envh 31 = some (.pub ir31) := by kernel_rfl
theorem envh32 : envh 32 = some (.pub ir32) := by kernel_rfl
theorem envh33 : envh 33 = some (.body ir33) := by kernel_rfl
theorem envh34 : envh 34 = some (.pub ir34) := by kernel_rfl
theorem envh35 : envh 35 = some (.body ir35) := by kernel_rfl
theorem envh36 : envh 36 = some (.body ir36) := by kernel_rfl
theorem envh37 : envh 37 = some (.body ir37) := by kernel_rfl
theorem envh38 : envh 38 = some (.body ir38) := by kernel_rfl
theorem envh39 : envh 39 = some (.body ir39) := by kernel_rfl
theorem envh40 : envh 40 = some (.body ir40) := by kernel_rfl
theorem envh41 : envh 41 = some (.body ir41) := by kernel_rfl
theorem envh42 : envh 42 = some (.body ir42) := by kernel_rfl
theorem envh43 : envh 43 = some (.body ir43) := by kernel_rfl
theorem envh44 : envh 44 = some (.body ir44) := by kernel_rfl
end Go.Proofs.YtppnijapeepbnaaR
