/- Evf11A0: a part of the proof. -/
import Derived.Test.YtbgihgkobojfaaaEvIs11
import Derived.Test.YtbgihgkobojfaaaEv5
import Derived.IntWalk
set_option linter.unusedVariables false
set_option linter.unusedSimpArgs false
namespace Go.Proofs.YtbgihgkobojfaaaR
open Go Go.Proofs.YtbgihgkobojfaaaEv
theorem envh6 : envh 6 = some (.pub ir6) := by kernel_rfl
theorem envh8 : envh 8 = some (.pub ir8) := by kernel_rfl
theorem envh9 : envh 9 = some (.pub ir9) := by kernel_rfl
theorem envh10 : envh 10 = some (.pub ir10) := by kernel_rfl
theorem envh12 : envh 12 = some (.pub ir12) := by kernel_rfl
theorem envh13 : envh 13 = some (.pub ir13) := by kernel_rfl
theorem envh14 : envh 14 = some (.pub ir14) := by kernel_rfl
theorem envh15 : envh 15 = some (.pub ir15) := by kernel_rfl
theorem envh16 : envh 16 = some (.pub ir16) := by kernel_rfl
theorem envh17 : envh 17 = some (.pub ir17) := by kernel_rfl
theorem envh18 : envh 18 = some (.pub ir18) := by kernel_rfl
theorem envh19 : envh 19 = some (.pub ir19) := by kernel_rfl
theorem envh20 : envh 20 = some (.pub ir20) := by kernel_rfl
theorem envh21 : envh 21 = some (.pub ir21) := by kernel_rfl
theorem envh22 : envh 22 = some (.pub ir22) := by kernel_rfl
theorem envh23 : envh 23 = some (.pub ir23) := by kernel_rfl
theorem envh24 : envh 24 = some (.pub ir24) := by kernel_rfl
theorem envh25 : envh 25 = some (.pub ir25) := by kernel_rfl
theorem envh26 : envh 26 = some (.pub ir26) := by kernel_rfl
theorem envh27 : envh 27 = some (.pub ir27) := by kernel_rfl
theorem envh28 : envh 28 = some (.pub ir28) := by kernel_rfl
theorem envh29 : envh 29 = some (.pub ir29) := by kernel_rfl
theorem envh30 : envh 30 = some (.pub ir30) := by kernel_rfl
theorem envh31 : envh 31 = some (.pub ir31) := by kernel_rfl
theorem envh32 : envh 32 = some (.body ir32) := by kernel_rfl
theorem envh33 : envh 33 = some (.pub ir33) := by kernel_rfl
theorem envh34 : envh 34 = some (.pub ir34) := by kernel_rfl
theorem envh35 : envh 35 = some (.body ir35) := by kernel_rfl
theorem envh36 : envh 36 = some (.pub ir36) := by kernel_rfl
theorem envh37 : envh 37 = some (.pub ir37) := by kernel_rfl
theorem envh38 : envh 38 = some (.pub ir38) := by kernel_rfl
theorem envh39 : envh 39 = some (.pub ir39) := by kernel_rfl
theorem envh41 : envh 41 = some (.pub ir41) := by kernel_rfl
theorem envh42 : envh 42 = some (.pub ir42) := by kernel_rfl
theorem envh43 : envh 43 = some (.pub ir43) := by kernel_rfl
theorem envh44 : envh 44 = some (.pub ir44) := by kernel_rfl
theorem envh45 : envh 45 = some (.body ir45) := by kernel_rfl
theorem envh46 : envh 46 = some (.body ir46) := by kernel_rfl
theorem envh47 : envh 47 = some (.body ir47) := by kernel_rfl
theorem envh48 : envh 48 = some (.body ir48) := by kernel_rfl
theorem envh49 : envh 49 = some (.pub ir49) := by kernel_rfl
theorem envh50 : envh 50 = some (.body ir50) := by kernel_rfl
theorem envh51 : envh 51 = some (.pub ir51) := by kernel_rfl
theorem envh52 : envh 52 = some (.pub ir52) := by kernel_rfl
theorem envh53 : envh 53 = some (.pub ir53) := by kernel_rfl
theorem envh54 : envh 54 = some (.pub ir54) := by kernel_rfl
theorem envh55 : envh 55 = some (.pub ir55) := by kernel_rfl
theorem envh56 : envh 56 = some (.pub ir56) := by kernel_rfl
theorem envh57 : envh 57 = some (.pub ir57) := by kernel_rfl
end Go.Proofs.YtbgihgkobojfaaaR
