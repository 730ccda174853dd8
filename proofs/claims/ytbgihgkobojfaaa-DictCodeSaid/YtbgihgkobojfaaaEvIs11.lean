/- EvIs11: a part of the proof. -/
import Derived.Test.YtbgihgkobojfaaaEv5
import Derived.Test.YtbgihgkobojfaaaEv6
import Derived.Test.YtbgihgkobojfaaaEvCln2
import Derived.Test.YtbgihgkobojfaaaEvOwn
import Derived.WalkKit
import Derived.WalkSpells
import Derived.Test.YtbgihgkobojfaaaRows
import Derived.KernelRfl
set_option linter.unusedVariables false
set_option linter.unusedSimpArgs false
set_option maxRecDepth 20000
namespace Go.Proofs.YtbgihgkobojfaaaR
open Go Go.Proofs.YtbgihgkobojfaaaEv Go.Proofs
def raws : Nat → List Bool := fun f => ([] : List (Nat × List Bool)).lookup f |>.getD []
/-- tenterhook/tenterhooklaw11.DictIs -/
def ir6 : F := ⟨151, [.t 10],
 (.seq (.ops none [⟨some 6, .box (.t 1), none⟩,
   ⟨some 9, .box (.t 4), none⟩,
   ⟨some 10, .mv (.c (.bool false)), none⟩])
  (.seq (.ops none [⟨some 28, .call 9 true [] [], none⟩,
    ⟨some 11, .mv (.t 28), none⟩])
   (.seq (.seq (.ops none [⟨some 29, .mv (.t 0), none⟩,
      ⟨some 30, .call 16 true [] [(.t 29)], none⟩,
      ⟨some 31, .un .not (.t 30), none⟩,
      ⟨some 32, .mv (.t 31), none⟩,
      ⟨some 33, .mv (.t 2), some (32, false)⟩,
      ⟨some 34, .len true (.t 33), some (32, false)⟩,
      ⟨some 35, .bin .gtr (.t 34) (.c (.int .i64 100)), some (32, false)⟩,
      ⟨some 36, .pick (.t 32) (.c (.bool true)) (.t 35), none⟩,
      ⟨some 37, .mv (.t 36), none⟩,
      ⟨some 38, .faddr 0 (.t 6), some (37, false)⟩,
      ⟨some 39, .load false 1 (.t 38), some (37, false)⟩,
      ⟨some 40, .len true (.t 39), some (37, false)⟩,
      ⟨some 41, .bin .gtr (.t 40) (.c (.int .i64 100)), some (37, false)⟩,
      ⟨some 42, .pick (.t 37) (.c (.bool true)) (.t 41), none⟩])
     (.cond (.t 42)
      (.seq (.ops none [⟨some 43, .mv (.t 11), none⟩,
        ⟨some 10, .mv (.t 43), none⟩])
       .ret)
      .skip))
    (.seq (.ops none [⟨some 45, .mv (.t 0), none⟩,
      ⟨some 46, .call 18 false [] [(.t 45)], none⟩,
      ⟨some 47, .mv (.t 2), none⟩,
      ⟨some 48, .call 11 true [] [(.t 46), (.t 47)], none⟩,
      ⟨some 44, .mv (.t 48), none⟩,
      ⟨some 49, .ext (.t 44) 0, none⟩,
      ⟨some 50, .ext (.t 44) 1, none⟩,
      ⟨some 12, .mv (.t 49), none⟩,
      ⟨some 13, .mv (.t 50), none⟩])
     (.seq (.ops none [⟨some 52, .mv (.t 0), none⟩,
       ⟨some 53, .mv (.t 2), none⟩,
       ⟨some 54, .call 23 true [] [(.t 52), (.t 53)], none⟩,
       ⟨some 51, .mv (.t 54), none⟩,
       ⟨some 55, .ext (.t 51) 0, none⟩,
       ⟨some 56, .ext (.t 51) 1, none⟩,
       ⟨some 14, .mv (.t 55), none⟩,
       ⟨some 15, .mv (.t 56), none⟩])
      (.seq (.ops (some [(1, 2)]) [⟨some 58, .mv (.t 0), none⟩,
        ⟨some 59, .call 18 false [] [(.t 58)], none⟩,
        ⟨some 60, .load true 6 (.t 6), none⟩,
        ⟨some 61, .call 19 true [] [(.t 60)], none⟩,
        ⟨some 62, .call 17 false [] [(.t 59), (.t 61)], none⟩,
        ⟨some 57, .mv (.t 62), none⟩,
        ⟨some 63, .ext (.t 57) 0, none⟩,
        ⟨some 64, .ext (.t 57) 1, none⟩,
        ⟨some 16, .mv (.t 63), none⟩,
        ⟨some 17, .mv (.t 64), none⟩])
       (.seq (.ops none [⟨some 66, .mv (.t 0), none⟩,
         ⟨some 67, .load true 6 (.t 6), none⟩,
         ⟨some 68, .call 24 false [] [(.t 66), (.t 67)], none⟩,
         ⟨some 65, .mv (.t 68), none⟩,
         ⟨some 69, .ext (.t 65) 0, none⟩,
         ⟨some 70, .ext (.t 65) 1, none⟩,
         ⟨some 18, .mv (.t 69), none⟩,
         ⟨some 19, .mv (.t 70), none⟩])
        (.seq (.ops none [⟨some 72, .mv (.t 0), none⟩,
          ⟨some 73, .call 18 false [] [(.t 72)], none⟩,
          ⟨some 74, .mv (.t 3), none⟩,
          ⟨some 75, .call 14 false [] [(.t 73), (.t 74)], none⟩,
          ⟨some 71, .mv (.t 75), none⟩,
          ⟨some 76, .ext (.t 71) 0, none⟩,
          ⟨some 77, .ext (.t 71) 1, none⟩,
          ⟨some 20, .mv (.t 76), none⟩,
          ⟨some 21, .mv (.t 77), none⟩])
         (.seq (.ops none [⟨some 79, .mv (.t 0), none⟩,
           ⟨some 80, .mv (.t 3), none⟩,
           ⟨some 81, .call 25 false [] [(.t 79), (.t 80)], none⟩,
           ⟨some 78, .mv (.t 81), none⟩,
           ⟨some 82, .ext (.t 78) 0, none⟩,
           ⟨some 83, .ext (.t 78) 1, none⟩,
           ⟨some 22, .mv (.t 82), none⟩,
           ⟨some 23, .mv (.t 83), none⟩])
          (.seq (.ops none [⟨some 85, .mv (.t 3), none⟩,
            ⟨some 86, .call 26 true [] [(.t 85)], none⟩,
            ⟨some 84, .mv (.t 86), none⟩,
            ⟨some 87, .ext (.t 84) 0, none⟩,
            ⟨some 88, .ext (.t 84) 1, none⟩,
            ⟨some 24, .alloc [.int .i64 0, .int .i64 0], none⟩,
            ⟨none, .store 2 (.t 24) (.t 87), none⟩,
            ⟨some 25, .mv (.t 88), none⟩])
           (.seq (.ops none [⟨some 90, .mv (.t 3), none⟩,
             ⟨some 91, .call 27 true [] [(.t 90)], none⟩,
             ⟨some 89, .mv (.t 91), none⟩,
             ⟨some 92, .ext (.t 89) 0, none⟩,
             ⟨some 93, .ext (.t 89) 1, none⟩,
             ⟨some 26, .alloc [.int .i64 0, .int .i64 0], none⟩,
             ⟨none, .store 2 (.t 26) (.t 92), none⟩,
             ⟨some 27, .mv (.t 93), none⟩])
            (.seq (.ops (some []) [⟨some 94, .mv (.t 11), none⟩,
              ⟨some 95, .mv (.t 94), none⟩,
              ⟨some 96, .mv (.t 12), some (95, true)⟩,
              ⟨some 97, .mv (.t 14), some (95, true)⟩,
              ⟨some 98, .bin .eql (.t 96) (.t 97), some (95, true)⟩,
              ⟨some 99, .pick (.t 95) (.t 98) (.c (.bool false)), none⟩,
              ⟨some 100, .mv (.t 99), none⟩,
              ⟨some 101, .mv (.t 13), some (100, true)⟩,
              ⟨some 102, .mv (.t 15), some (100, true)⟩,
              ⟨some 103, .eqB false (.t 101) (.t 102), some (100, true)⟩,
              ⟨some 104, .pick (.t 100) (.t 103) (.c (.bool false)), none⟩,
              ⟨some 105, .mv (.t 104), none⟩,
              ⟨some 106, .mv (.t 16), some (105, true)⟩,
              ⟨some 107, .call 21 false [] [(.t 106)], some (105, true)⟩,
              ⟨some 108, .mv (.t 18), some (105, true)⟩,
              ⟨some 109, .call 20 true [] [(.t 107), (.t 108)], some (105, true)⟩,
              ⟨some 110, .pick (.t 105) (.t 109) (.c (.bool false)), none⟩,
              ⟨some 111, .mv (.t 110), none⟩,
              ⟨some 112, .mv (.t 17), some (111, true)⟩,
              ⟨some 113, .mv (.t 19), some (111, true)⟩,
              ⟨some 114, .bin .eql (.t 112) (.t 113), some (111, true)⟩,
              ⟨some 115, .pick (.t 111) (.t 114) (.c (.bool false)), none⟩,
              ⟨some 116, .mv (.t 115), none⟩,
              ⟨some 117, .mv (.t 20), some (116, true)⟩,
              ⟨some 118, .mv (.t 22), some (116, true)⟩,
              ⟨some 119, .call 28 true [] [(.t 117), (.t 118)], some (116, true)⟩,
              ⟨some 120, .pick (.t 116) (.t 119) (.c (.bool false)), none⟩,
              ⟨some 121, .mv (.t 120), none⟩,
              ⟨some 122, .mv (.t 21), some (121, true)⟩,
              ⟨some 123, .mv (.t 23), some (121, true)⟩,
              ⟨some 124, .eqB false (.t 122) (.t 123), some (121, true)⟩,
              ⟨some 125, .pick (.t 121) (.t 124) (.c (.bool false)), none⟩,
              ⟨some 126, .mv (.t 125), none⟩,
              ⟨some 127, .load true 2 (.t 24), some (126, true)⟩,
              ⟨some 128, .load true 2 (.t 26), some (126, true)⟩,
              ⟨some 129, .eqS false [0, 0] (.t 127) (.t 128), some (126, true)⟩,
              ⟨some 130, .pick (.t 126) (.t 129) (.c (.bool false)), none⟩,
              ⟨some 131, .mv (.t 130), none⟩,
              ⟨some 132, .mv (.t 25), some (131, true)⟩,
              ⟨some 133, .mv (.t 27), some (131, true)⟩,
              ⟨some 134, .eqB false (.t 132) (.t 133), some (131, true)⟩,
              ⟨some 135, .pick (.t 131) (.t 134) (.c (.bool false)), none⟩,
              ⟨some 136, .mv (.t 135), none⟩,
              ⟨some 137, .load true 2 (.t 9), some (136, true)⟩,
              ⟨some 138, .call 29 true [] [(.t 137)], some (136, true)⟩,
              ⟨some 139, .load true 2 (.t 9), some (136, true)⟩,
              ⟨some 140, .call 30 true [] [(.t 139)], some (136, true)⟩,
              ⟨some 141, .bin .eql (.t 138) (.t 140), some (136, true)⟩,
              ⟨some 142, .pick (.t 136) (.t 141) (.c (.bool false)), none⟩,
              ⟨some 143, .mv (.t 142), none⟩,
              ⟨some 144, .load true 6 (.t 6), some (143, true)⟩,
              ⟨some 145, .call 19 true [] [(.t 144)], some (143, true)⟩,
              ⟨some 146, .call 15 true [] [(.t 145)], some (143, true)⟩,
              ⟨some 147, .load true 6 (.t 6), some (143, true)⟩,
              ⟨some 148, .call 31 true [] [(.t 147)], some (143, true)⟩,
              ⟨some 149, .eqB false (.t 146) (.t 148), some (143, true)⟩,
              ⟨some 150, .pick (.t 143) (.t 149) (.c (.bool false)), none⟩,
              ⟨some 10, .mv (.t 150), none⟩])
             .ret))))))))))))⟩
theorem cop6 : copF Try.prog raws [] 6 = some ir6 := by kernel_rfl
/-- tenterhook/tenterhooklaw11.DictCode -/
def ir8 : F := ⟨158, [.t 6],
 (.seq (.ops none [⟨some 4, .box (.t 1), none⟩,
   ⟨some 6, .mv (.c (.bool false)), none⟩])
  (.seq (.ops none [⟨some 19, .call 9 true [] [], none⟩,
    ⟨some 7, .mv (.t 19), none⟩])
   (.seq (.seq (.ops none [⟨some 20, .mv (.t 0), none⟩,
      ⟨some 21, .call 16 true [] [(.t 20)], none⟩,
      ⟨some 22, .un .not (.t 21), none⟩,
      ⟨some 23, .mv (.t 22), none⟩,
      ⟨some 24, .mv (.t 0), some (23, false)⟩,
      ⟨some 25, .len false (.t 24), some (23, false)⟩,
      ⟨some 26, .bin .eql (.t 25) (.c (.int .i64 0)), some (23, false)⟩,
      ⟨some 27, .pick (.t 23) (.c (.bool true)) (.t 26), none⟩,
      ⟨some 28, .mv (.t 27), none⟩,
      ⟨some 29, .faddr 0 (.t 4), some (28, false)⟩,
      ⟨some 30, .load false 1 (.t 29), some (28, false)⟩,
      ⟨some 31, .len true (.t 30), some (28, false)⟩,
      ⟨some 32, .bin .gtr (.t 31) (.c (.int .i64 100)), some (28, false)⟩,
      ⟨some 33, .pick (.t 28) (.c (.bool true)) (.t 32), none⟩])
     (.cond (.t 33)
      (.seq (.ops none [⟨some 34, .mv (.t 7), none⟩,
        ⟨some 6, .mv (.t 34), none⟩])
       .ret)
      .skip))
    (.seq (.ops none [⟨some 35, .mv (.t 2), none⟩,
      ⟨some 36, .bin .and (.t 35) (.c (.int .i64 65535)), none⟩,
      ⟨some 37, .mv (.t 0), none⟩,
      ⟨some 38, .len false (.t 37), none⟩,
      ⟨some 39, .bin .rem (.t 36) (.t 38), none⟩,
      ⟨some 8, .mv (.t 39), none⟩])
     (.seq (.ops none [⟨some 41, .mv (.t 0), none⟩,
       ⟨some 42, .call 18 false [] [(.t 41)], none⟩,
       ⟨some 43, .mv (.t 8), none⟩,
       ⟨some 44, .call 14 false [] [(.t 42), (.t 43)], none⟩,
       ⟨some 40, .mv (.t 44), none⟩,
       ⟨some 45, .ext (.t 40) 0, none⟩,
       ⟨some 46, .ext (.t 40) 1, none⟩,
       ⟨some 9, .mv (.t 45), none⟩,
       ⟨some 10, .mv (.t 46), none⟩])
      (.seq (.ops (some [(1, 2)]) [⟨some 48, .mv (.t 0), none⟩,
        ⟨some 49, .call 18 false [] [(.t 48)], none⟩,
        ⟨some 50, .load true 6 (.t 4), none⟩,
        ⟨some 51, .call 19 true [] [(.t 50)], none⟩,
        ⟨some 52, .call 17 false [] [(.t 49), (.t 51)], none⟩,
        ⟨some 47, .mv (.t 52), none⟩,
        ⟨some 53, .ext (.t 47) 0, none⟩,
        ⟨some 54, .ext (.t 47) 1, none⟩,
        ⟨some 11, .mv (.t 53), none⟩,
        ⟨some 12, .mv (.t 54), none⟩])
       (.seq (.ops none [⟨some 56, .mv (.t 11), none⟩,
         ⟨some 57, .mv (.t 8), none⟩,
         ⟨some 58, .call 14 false [] [(.t 56), (.t 57)], none⟩,
         ⟨some 55, .mv (.t 58), none⟩,
         ⟨some 59, .ext (.t 55) 0, none⟩,
         ⟨some 60, .ext (.t 55) 1, none⟩,
         ⟨some 13, .mv (.t 59), none⟩,
         ⟨some 14, .mv (.t 60), none⟩])
        (.seq (.seq (.ops none [⟨some 61, .mv (.t 10), none⟩,
           ⟨some 62, .mv (.t 14), none⟩,
           ⟨some 63, .eqB true (.t 61) (.t 62), none⟩,
           ⟨some 64, .mv (.t 63), none⟩,
           ⟨some 65, .mv (.t 9), some (64, false)⟩,
           ⟨some 66, .mv (.t 13), some (64, false)⟩,
           ⟨some 67, .call 28 true [] [(.t 65), (.t 66)], some (64, false)⟩,
           ⟨some 68, .un .not (.t 67), some (64, false)⟩,
           ⟨some 69, .pick (.t 64) (.c (.bool true)) (.t 68), none⟩,
           ⟨some 70, .mv (.t 69), none⟩,
           ⟨some 71, .mv (.t 10), some (70, false)⟩,
           ⟨some 72, .mv (.t 0), some (70, false)⟩,
           ⟨some 73, .mv (.t 8), some (70, false)⟩,
           ⟨some 74, .iaddr 6 (.t 72) (.t 73), some (70, false)⟩,
           ⟨some 75, .load true 6 (.t 74), some (70, false)⟩,
           ⟨some 76, .call 19 true [] [(.t 75)], some (70, false)⟩,
           ⟨some 77, .call 15 true [] [(.t 76)], some (70, false)⟩,
           ⟨some 78, .eqB true (.t 71) (.t 77), some (70, false)⟩,
           ⟨some 79, .pick (.t 70) (.c (.bool true)) (.t 78), none⟩])
          (.cond (.t 79)
           (.seq (.ops none [⟨some 6, .mv (.c (.bool false)), none⟩])
            .ret)
           .skip))
         (.seq (.seq (.ops none [⟨some 80, .mv (.t 10), none⟩,
            ⟨some 81, .un .not (.t 80), none⟩])
           (.cond (.t 81)
            (.seq (.ops none [⟨some 82, .mv (.t 7), none⟩,
              ⟨some 83, .mv (.t 82), none⟩,
              ⟨some 84, .mv (.t 9), some (83, true)⟩,
              ⟨some 85, .len false (.t 84), some (83, true)⟩,
              ⟨some 86, .bin .eql (.t 85) (.c (.int .i64 0)), some (83, true)⟩,
              ⟨some 87, .pick (.t 83) (.t 86) (.c (.bool false)), none⟩,
              ⟨some 6, .mv (.t 87), none⟩])
             .ret)
            .skip))
          (.seq (.ops none [⟨some 88, .mv (.t 9), none⟩,
            ⟨some 89, .mv (.t 9), none⟩,
            ⟨some 90, .len false (.t 89), none⟩,
            ⟨some 91, .bin .sub (.t 90) (.c (.int .i64 1)), none⟩,
            ⟨some 92, .iaddr 2 (.t 88) (.t 91), none⟩,
            ⟨some 93, .load true 2 (.t 92), none⟩,
            ⟨some 15, .alloc [.int .i64 0, .int .i64 0], none⟩,
            ⟨none, .store 2 (.t 15) (.t 93), none⟩])
           (.seq (.ops none [⟨some 95, .faddr 1 (.t 15), none⟩,
             ⟨some 96, .load false 1 (.t 95), none⟩,
             ⟨some 97, .call 26 true [] [(.t 96)], none⟩,
             ⟨some 94, .mv (.t 97), none⟩,
             ⟨some 98, .ext (.t 94) 0, none⟩,
             ⟨some 99, .ext (.t 94) 1, none⟩,
             ⟨some 16, .alloc [.int .i64 0, .int .i64 0], none⟩,
             ⟨none, .store 2 (.t 16) (.t 98), none⟩,
             ⟨some 17, .mv (.t 99), none⟩])
            (.seq (.ops none [⟨some 100, .mv (.t 0), none⟩,
              ⟨some 101, .mv (.t 8), none⟩,
              ⟨some 102, .iaddr 6 (.t 100) (.t 101), none⟩,
              ⟨some 103, .faddr 2 (.t 102), none⟩,
              ⟨some 104, .load false 1 (.t 103), none⟩,
              ⟨some 105, .bin .eql (.t 104) (.c (.int .i64 1)), none⟩,
              ⟨some 106, .mv (.t 105), none⟩,
              ⟨some 107, .mv (.t 0), some (106, false)⟩,
              ⟨some 108, .mv (.t 8), some (106, false)⟩,
              ⟨some 109, .iaddr 6 (.t 107) (.t 108), some (106, false)⟩,
              ⟨some 110, .faddr 2 (.t 109), some (106, false)⟩,
              ⟨some 111, .load false 1 (.t 110), some (106, false)⟩,
              ⟨some 112, .bin .eql (.t 111) (.c (.int .i64 4)), some (106, false)⟩,
              ⟨some 113, .pick (.t 106) (.c (.bool true)) (.t 112), none⟩,
              ⟨some 18, .mv (.t 113), none⟩])
             (.seq (.ops (some []) [⟨some 114, .mv (.t 7), none⟩,
               ⟨some 115, .mv (.t 114), none⟩,
               ⟨some 116, .mv (.t 9), some (115, true)⟩,
               ⟨some 117, .len false (.t 116), some (115, true)⟩,
               ⟨some 118, .bin .geq (.t 117) (.c (.int .i64 1)), some (115, true)⟩,
               ⟨some 119, .pick (.t 115) (.t 118) (.c (.bool false)), none⟩,
               ⟨some 120, .mv (.t 119), none⟩,
               ⟨some 121, .mv (.t 9), some (120, true)⟩,
               ⟨some 122, .len false (.t 121), some (120, true)⟩,
               ⟨some 123, .bin .leq (.t 122) (.c (.int .i64 2)), some (120, true)⟩,
               ⟨some 124, .pick (.t 120) (.t 123) (.c (.bool false)), none⟩,
               ⟨some 125, .mv (.t 124), none⟩,
               ⟨some 126, .mv (.t 9), some (125, true)⟩,
               ⟨some 127, .len false (.t 126), some (125, true)⟩,
               ⟨some 128, .bin .eql (.t 127) (.c (.int .i64 2)), some (125, true)⟩,
               ⟨some 129, .mv (.t 0), some (125, true)⟩,
               ⟨some 130, .mv (.t 8), some (125, true)⟩,
               ⟨some 131, .iaddr 6 (.t 129) (.t 130), some (125, true)⟩,
               ⟨some 132, .faddr 2 (.t 131), some (125, true)⟩,
               ⟨some 133, .load false 1 (.t 132), some (125, true)⟩,
               ⟨some 134, .bin .eql (.t 133) (.c (.int .i64 4)), some (125, true)⟩,
               ⟨some 135, .eqB false (.t 128) (.t 134), some (125, true)⟩,
               ⟨some 136, .pick (.t 125) (.t 135) (.c (.bool false)), none⟩,
               ⟨some 137, .mv (.t 136), none⟩,
               ⟨some 138, .mv (.t 18), some (137, true)⟩,
               ⟨some 139, .un .not (.t 138), some (137, true)⟩,
               ⟨some 140, .mv (.t 139), some (137, true)⟩,
               ⟨some 141, .faddr 0 (.t 15), some (140, false)⟩,
               ⟨some 142, .load false 1 (.t 141), some (140, false)⟩,
               ⟨some 143, .bin .eql (.t 142) (.c (.int .i64 3)), some (140, false)⟩,
               ⟨some 144, .mv (.t 143), some (140, false)⟩,
               ⟨some 145, .mv (.t 17), some (144, true)⟩,
               ⟨some 146, .pick (.t 144) (.t 145) (.c (.bool false)), some (140, false)⟩,
               ⟨some 147, .mv (.t 146), some (140, false)⟩,
               ⟨some 148, .load true 2 (.t 16), some (147, true)⟩,
               ⟨some 149, .mv (.t 0), some (147, true)⟩,
               ⟨some 150, .mv (.t 8), some (147, true)⟩,
               ⟨some 151, .iaddr 6 (.t 149) (.t 150), some (147, true)⟩,
               ⟨some 152, .faddr 4 (.t 151), some (147, true)⟩,
               ⟨some 153, .load true 2 (.t 152), some (147, true)⟩,
               ⟨some 154, .eqS false [0, 0] (.t 148) (.t 153), some (147, true)⟩,
               ⟨some 155, .pick (.t 147) (.t 154) (.c (.bool false)), some (140, false)⟩,
               ⟨some 156, .pick (.t 140) (.c (.bool true)) (.t 155), some (137, true)⟩,
               ⟨some 157, .pick (.t 137) (.t 156) (.c (.bool false)), none⟩,
               ⟨some 6, .mv (.t 157), none⟩])
              .ret)))))))))))))⟩
theorem cop8 : copF Try.prog raws [] 8 = some ir8 := by kernel_rfl
/-- tenterhook/tenterhooklaw11.awake -/
def ir9 : F := ⟨64, [.t 0],
 (.seq (.ops none [⟨some 0, .mv (.c (.bool false)), none⟩])
  (.seq (.ops none [⟨some 10, .build [.str ⟨#[]⟩, .bool false, .int .i64 0, .int .i64 0, .int .i64 0, .int .i64 0] [(0, 1, (.c (.str ⟨#[97]⟩))), (2, 1, (.c (.int .i64 3))), (3, 1, (.c (.int .i64 1)))], none⟩,
    ⟨some 11, .call 17 false [] [(.c (.nil)), (.t 10)], none⟩,
    ⟨some 9, .mv (.t 11), none⟩,
    ⟨some 12, .ext (.t 9) 0, none⟩,
    ⟨some 13, .ext (.t 9) 1, none⟩,
    ⟨some 1, .mv (.t 12), none⟩,
    ⟨some 2, .mv (.t 13), none⟩])
   (.seq (.ops none [⟨some 15, .mv (.t 1), none⟩,
     ⟨some 16, .build [.str ⟨#[]⟩, .bool false, .int .i64 0, .int .i64 0, .int .i64 0, .int .i64 0] [(0, 1, (.c (.str ⟨#[65]⟩))), (2, 1, (.c (.int .i64 3))), (3, 1, (.c (.int .i64 2)))], none⟩,
     ⟨some 17, .call 17 false [] [(.t 15), (.t 16)], none⟩,
     ⟨some 14, .mv (.t 17), none⟩,
     ⟨some 18, .ext (.t 14) 0, none⟩,
     ⟨some 19, .ext (.t 14) 1, none⟩,
     ⟨some 3, .mv (.t 18), none⟩,
     ⟨some 4, .mv (.t 19), none⟩])
    (.seq (.ops none [⟨some 21, .mv (.t 3), none⟩,
      ⟨some 22, .call 11 true [] [(.t 21), (.c (.str ⟨#[97]⟩))], none⟩,
      ⟨some 20, .mv (.t 22), none⟩,
      ⟨some 23, .ext (.t 20) 0, none⟩,
      ⟨some 24, .ext (.t 20) 1, none⟩,
      ⟨some 5, .mv (.t 23), none⟩,
      ⟨some 6, .mv (.t 24), none⟩])
     (.seq (.ops none [⟨some 26, .mv (.t 3), none⟩,
       ⟨some 27, .mv (.t 5), none⟩,
       ⟨some 28, .call 14 false [] [(.t 26), (.t 27)], none⟩,
       ⟨some 25, .mv (.t 28), none⟩,
       ⟨some 29, .ext (.t 25) 0, none⟩,
       ⟨some 30, .ext (.t 25) 1, none⟩,
       ⟨some 7, .mv (.t 29), none⟩,
       ⟨some 8, .mv (.t 30), none⟩])
      (.seq (.ops none [⟨some 31, .mv (.t 2), none⟩,
        ⟨some 32, .bin .eql (.t 31) (.c (.int .i64 0)), none⟩,
        ⟨some 33, .mv (.t 32), none⟩,
        ⟨some 34, .mv (.t 4), some (33, true)⟩,
        ⟨some 35, .bin .eql (.t 34) (.c (.int .i64 0)), some (33, true)⟩,
        ⟨some 36, .pick (.t 33) (.t 35) (.c (.bool false)), none⟩,
        ⟨some 37, .mv (.t 36), none⟩,
        ⟨some 38, .mv (.t 6), some (37, true)⟩,
        ⟨some 39, .pick (.t 37) (.t 38) (.c (.bool false)), none⟩,
        ⟨some 40, .mv (.t 39), none⟩,
        ⟨some 41, .mv (.t 5), some (40, true)⟩,
        ⟨some 42, .bin .eql (.t 41) (.c (.int .i64 1)), some (40, true)⟩,
        ⟨some 43, .pick (.t 40) (.t 42) (.c (.bool false)), none⟩,
        ⟨some 44, .mv (.t 43), none⟩,
        ⟨some 45, .mv (.t 8), some (44, true)⟩,
        ⟨some 46, .pick (.t 44) (.t 45) (.c (.bool false)), none⟩,
        ⟨some 47, .mv (.t 46), none⟩,
        ⟨some 48, .mv (.t 7), some (47, true)⟩,
        ⟨some 49, .len false (.t 48), some (47, true)⟩,
        ⟨some 50, .bin .eql (.t 49) (.c (.int .i64 1)), some (47, true)⟩,
        ⟨some 51, .pick (.t 47) (.t 50) (.c (.bool false)), none⟩,
        ⟨some 52, .mv (.t 51), none⟩,
        ⟨some 53, .mv (.t 7), some (52, true)⟩,
        ⟨some 54, .iaddr 2 (.t 53) (.c (.int .i64 0)), some (52, true)⟩,
        ⟨some 55, .load true 2 (.t 54), some (52, true)⟩,
        ⟨some 56, .build [.int .i64 0, .int .i64 0] [(0, 1, (.c (.int .i64 0))), (1, 1, (.c (.int .i64 2)))], some (52, true)⟩,
        ⟨some 57, .eqS false [0, 0] (.t 55) (.t 56), some (52, true)⟩,
        ⟨some 58, .pick (.t 52) (.t 57) (.c (.bool false)), none⟩,
        ⟨some 59, .mv (.t 58), none⟩,
        ⟨some 60, .call 10 false [] [], some (59, true)⟩,
        ⟨some 61, .len false (.t 60), some (59, true)⟩,
        ⟨some 62, .bin .gtr (.t 61) (.c (.int .i64 9)), some (59, true)⟩,
        ⟨some 63, .pick (.t 59) (.t 62) (.c (.bool false)), none⟩,
        ⟨some 0, .mv (.t 63), none⟩])
       .ret))))))⟩
theorem cop9 : copF Try.prog raws [] 9 = some ir9 := by kernel_rfl
/-- tenterhook/dict.Base -/
def ir10 : F := ⟨18, [.t 0],
 (.seq (.ops none [⟨some 0, .mv (.c (.nil)), none⟩])
  (.seq (.ops none [⟨some 1, .mv (.c (.nil)), none⟩])
   (.seq (.seq (.ops none [⟨some 3, .mv (.c (.int .i64 0)), none⟩])
     (.block 0 (.loop [1, 3] [(1, none, 6)]
       (.seq (.ops none [⟨some 4, .bin .lss (.t 3) (.c (.int .i64 111)), none⟩])
        (.seq (.cond (.t 4)
          .skip
          (.exit 0))
         (.seq (.block 1 (.seq (.ops none [⟨some 5, .mv (.t 3), none⟩,
             ⟨some 2, .mv (.t 5), none⟩])
            (.seq (.ops none [⟨some 6, .mv (.t 2), none⟩,
              ⟨some 7, .call 13 true [] [(.t 6)], none⟩,
              ⟨some 8, .un .not (.t 7), none⟩])
             (.cond (.t 8)
              (.ops none [⟨some 9, .mv (.t 1), none⟩,
               ⟨some 10, .mv (.t 2), none⟩,
               ⟨some 11, .call 12 true [] [(.t 10)], none⟩,
               ⟨some 12, .mv (.t 2), none⟩,
               ⟨some 13, .build [.str ⟨#[]⟩, .bool false, .int .i64 0, .int .i64 0, .int .i64 0, .int .i64 0] [(0, 1, (.t 11)), (3, 1, (.t 12))], none⟩,
               ⟨some 14, .bslice 6 1 [.str ⟨#[]⟩, .bool false, .int .i64 0, .int .i64 0, .int .i64 0, .int .i64 0] [(0, (.t 13))], none⟩,
               ⟨some 15, .append 6 (.t 9) (.t 14), none⟩,
               ⟨some 1, .mv (.t 15), none⟩])
              .skip))))
          (.ops none [⟨some 16, .bin .add (.t 3) (.c (.int .i64 1)), none⟩,
           ⟨some 3, .mv (.t 16), none⟩])))))))
    (.seq (.ops none [⟨some 17, .mv (.t 1), none⟩,
      ⟨some 0, .mv (.t 17), none⟩])
     .ret))))⟩
theorem cop10 : copF Try.prog raws [([1, 3], [(1, none, 6)])] 10 = some ir10 := by kernel_rfl
/-- tenterhook/op.Name -/
def ir12 : F := ⟨10, [.t 2],
 (.seq (.ops none [⟨some 2, .mv (.c (.str ⟨#[]⟩)), none⟩])
  (.seq (.seq (.ops none [⟨some 3, .mv (.t 0), none⟩,
     ⟨some 4, .call 33 true [] [(.t 3)], none⟩,
     ⟨some 5, .un .not (.t 4), none⟩])
    (.cond (.t 5)
     (.seq (.ops none [⟨some 2, .mv (.c (.str ⟨#[]⟩)), none⟩])
      .ret)
     .skip))
   (.seq (.ops none [⟨some 6, .call 34 false [] [], none⟩,
     ⟨some 7, .mv (.t 0), none⟩,
     ⟨some 8, .iaddr 1 (.t 6) (.t 7), none⟩,
     ⟨some 9, .load false 1 (.t 8), none⟩,
     ⟨some 2, .mv (.t 9), none⟩])
    .ret)))⟩
theorem cop12 : copF Try.prog raws [] 12 = some ir12 := by kernel_rfl
/-- tenterhook/op.Hidden -/
def ir13 : F := ⟨6, [.t 2],
 (.seq (.ops none [⟨some 2, .mv (.c (.bool false)), none⟩])
  (.seq (.ops none [⟨some 3, .mv (.t 0), none⟩,
    ⟨some 4, .call 12 true [] [(.t 3)], none⟩,
    ⟨some 5, .call 35 true [] [(.t 4), (.c (.str ⟨#[40]⟩))], none⟩,
    ⟨some 2, .mv (.t 5), none⟩])
   .ret))⟩
theorem cop13 : copF Try.prog raws [] 13 = some ir13 := by kernel_rfl
/-- tenterhook/dict.Code -/
def ir14 : F := ⟨53, [.t 4, .t 5],
 (.seq (.ops none [⟨some 4, .mv (.c (.nil)), none⟩,
   ⟨some 5, .mv (.c (.bool false)), none⟩])
  (.seq (.seq (.ops none [⟨some 9, .mv (.t 1), none⟩,
     ⟨some 10, .mv (.t 0), none⟩,
     ⟨some 11, .len false (.t 10), none⟩,
     ⟨some 12, .bin .sub (.t 11) (.c (.int .i64 1)), none⟩,
     ⟨some 13, .call 36 true [] [(.t 9), (.t 12)], none⟩,
     ⟨some 14, .un .not (.t 13), none⟩,
     ⟨some 15, .mv (.t 14), none⟩,
     ⟨some 16, .mv (.t 0), some (15, false)⟩,
     ⟨some 17, .mv (.t 1), some (15, false)⟩,
     ⟨some 18, .iaddr 6 (.t 16) (.t 17), some (15, false)⟩,
     ⟨some 19, .load true 6 (.t 18), some (15, false)⟩,
     ⟨some 20, .call 15 true [] [(.t 19)], some (15, false)⟩,
     ⟨some 21, .un .not (.t 20), some (15, false)⟩,
     ⟨some 22, .pick (.t 15) (.c (.bool true)) (.t 21), none⟩])
    (.cond (.t 22)
     (.seq (.ops none [⟨some 4, .mv (.c (.nil)), none⟩,
       ⟨some 5, .mv (.c (.bool false)), none⟩])
      .ret)
     .skip))
   (.seq (.ops none [⟨some 23, .mv (.t 0), none⟩,
     ⟨some 24, .mv (.t 1), none⟩,
     ⟨some 25, .iaddr 6 (.t 23) (.t 24), none⟩,
     ⟨some 26, .load true 6 (.t 25), none⟩,
     ⟨some 6, .alloc [.str ⟨#[]⟩, .bool false, .int .i64 0, .int .i64 0, .int .i64 0, .int .i64 0], none⟩,
     ⟨none, .store 6 (.t 6) (.t 26), none⟩])
    (.seq (.ops (some [(1, 7), (4, 7), (5, 7), (1, 8), (4, 8), (5, 8), (7, 8)]) [⟨some 27, .faddr 3 (.t 6), none⟩,
      ⟨some 28, .load false 1 (.t 27), none⟩,
      ⟨some 29, .build [.int .i64 0, .int .i64 0] [(0, 1, (.c (.int .i64 0))), (1, 1, (.t 28))], none⟩,
      ⟨some 30, .faddr 4 (.t 6), none⟩,
      ⟨some 31, .load true 2 (.t 30), none⟩,
      ⟨some 32, .call 29 true [] [(.t 31)], none⟩,
      ⟨some 33, .build [.int .i64 0, .int .i64 0] [(0, 1, (.c (.int .i64 3))), (1, 1, (.t 32))], none⟩,
      ⟨some 7, .alloc [.int .i64 0, .int .i64 0], none⟩,
      ⟨some 8, .alloc [.int .i64 0, .int .i64 0], none⟩,
      ⟨none, .store 2 (.t 7) (.t 29), none⟩,
      ⟨none, .store 2 (.t 8) (.t 33), none⟩])
     (.seq (.seq (.ops none [⟨some 34, .faddr 2 (.t 6), none⟩,
        ⟨some 35, .load false 1 (.t 34), none⟩])
       (.block 0 (.seq (.ops none [⟨some 37, .bin .eql (.t 35) (.c (.int .i64 0)), none⟩,
          ⟨some 36, .mv (.t 37), none⟩])
         (.cond (.t 36)
          (.seq (.ops none [⟨some 38, .faddr 3 (.t 6), none⟩,
            ⟨some 39, .load false 1 (.t 38), none⟩,
            ⟨some 40, .build [.int .i64 0, .int .i64 0] [(0, 1, (.t 39))], none⟩,
            ⟨some 41, .bslice 2 1 [.int .i64 0, .int .i64 0] [(0, (.t 40))], none⟩,
            ⟨some 4, .mv (.t 41), none⟩,
            ⟨some 5, .mv (.c (.bool true)), none⟩])
           .ret)
          (.seq (.ops none [⟨some 43, .bin .eql (.t 35) (.c (.int .i64 1)), none⟩,
            ⟨some 42, .mv (.t 43), none⟩])
           (.cond (.t 42)
            (.seq (.ops none [⟨some 44, .load true 2 (.t 8), none⟩,
              ⟨some 45, .bslice 2 1 [.int .i64 0, .int .i64 0] [(0, (.t 44))], none⟩,
              ⟨some 4, .mv (.t 45), none⟩,
              ⟨some 5, .mv (.c (.bool true)), none⟩])
             .ret)
            (.seq (.ops none [⟨some 47, .bin .eql (.t 35) (.c (.int .i64 4)), none⟩,
              ⟨some 46, .mv (.t 47), none⟩])
             (.cond (.t 46)
              (.seq (.ops none [⟨some 48, .load true 2 (.t 7), none⟩,
                ⟨some 49, .load true 2 (.t 8), none⟩,
                ⟨some 50, .bslice 2 2 [.int .i64 0, .int .i64 0] [(0, (.t 48)), (1, (.t 49))], none⟩,
                ⟨some 4, .mv (.t 50), none⟩,
                ⟨some 5, .mv (.c (.bool true)), none⟩])
               .ret)
              .skip))))))))
      (.seq (.ops none [⟨some 51, .load true 2 (.t 7), none⟩,
        ⟨some 52, .bslice 2 1 [.int .i64 0, .int .i64 0] [(0, (.t 51))], none⟩,
        ⟨some 4, .mv (.t 52), none⟩,
        ⟨some 5, .mv (.c (.bool true)), none⟩])
       .ret))))))⟩
theorem cop14 : copF Try.prog raws [] 14 = some ir14 := by kernel_rfl
/-- tenterhook/dict.Sane -/
def ir15 : F := ⟨35, [.t 2],
 (.seq (.ops none [⟨some 1, .box (.t 0), none⟩,
   ⟨some 2, .mv (.c (.bool false)), none⟩])
  (.seq (.seq (.ops none [⟨some 3, .faddr 0 (.t 1), none⟩,
     ⟨some 4, .load false 1 (.t 3), none⟩,
     ⟨some 5, .call 37 true [] [(.t 4)], none⟩,
     ⟨some 6, .un .not (.t 5), none⟩])
    (.cond (.t 6)
     (.seq (.ops none [⟨some 2, .mv (.c (.bool false)), none⟩])
      .ret)
     .skip))
   (.seq (.seq (.ops none [⟨some 7, .faddr 2 (.t 1), none⟩,
      ⟨some 8, .load false 1 (.t 7), none⟩])
     (.block 0 (.seq (.ops none [⟨some 10, .bin .eql (.t 8) (.c (.int .i64 0)), none⟩,
        ⟨some 9, .mv (.t 10), none⟩])
       (.cond (.t 9)
        (.seq (.ops none [⟨some 11, .faddr 3 (.t 1), none⟩,
          ⟨some 12, .load false 1 (.t 11), none⟩,
          ⟨some 13, .call 38 true [] [(.t 12)], none⟩,
          ⟨some 14, .mv (.t 13), none⟩,
          ⟨some 15, .faddr 4 (.t 1), some (14, true)⟩,
          ⟨some 16, .load true 2 (.t 15), some (14, true)⟩,
          ⟨some 17, .build [.int .i64 0, .int .i64 0] [], some (14, true)⟩,
          ⟨some 18, .eqS false [0, 0] (.t 16) (.t 17), some (14, true)⟩,
          ⟨some 19, .pick (.t 14) (.t 18) (.c (.bool false)), none⟩,
          ⟨some 2, .mv (.t 19), none⟩])
         .ret)
        (.seq (.seq (.ops none [⟨some 21, .bin .eql (.t 8) (.c (.int .i64 1)), none⟩,
           ⟨some 20, .mv (.t 21), none⟩])
          (.cond (.t 20)
           .skip
           (.ops none [⟨some 22, .bin .eql (.t 8) (.c (.int .i64 4)), none⟩,
            ⟨some 20, .mv (.t 22), none⟩])))
         (.cond (.t 20)
          (.seq (.ops none [⟨some 23, .faddr 4 (.t 1), none⟩,
            ⟨some 24, .load true 2 (.t 23), none⟩,
            ⟨some 25, .call 29 true [] [(.t 24)], none⟩,
            ⟨some 26, .bin .geq (.t 25) (.c (.int .i64 0)), none⟩,
            ⟨some 2, .mv (.t 26), none⟩])
           .ret)
          .skip))))))
    (.seq (.ops none [⟨some 27, .faddr 2 (.t 1), none⟩,
      ⟨some 28, .load false 1 (.t 27), none⟩,
      ⟨some 29, .bin .eql (.t 28) (.c (.int .i64 2)), none⟩,
      ⟨some 30, .mv (.t 29), none⟩,
      ⟨some 31, .faddr 2 (.t 1), some (30, false)⟩,
      ⟨some 32, .load false 1 (.t 31), some (30, false)⟩,
      ⟨some 33, .bin .eql (.t 32) (.c (.int .i64 3)), some (30, false)⟩,
      ⟨some 34, .pick (.t 30) (.c (.bool true)) (.t 33), none⟩,
      ⟨some 2, .mv (.t 34), none⟩])
     .ret))))⟩
theorem cop15 : copF Try.prog raws [] 15 = some ir15 := by kernel_rfl
/-- tenterhook/tenterhookref11.Few -/
def ir16 : F := ⟨20, [.t 2],
 (.seq (.ops none [⟨some 2, .mv (.c (.bool false)), none⟩])
  (.seq (.seq (.ops none [⟨some 3, .mv (.c (.int .i64 0)), none⟩])
    (.block 0 (.loop [0, 3] []
      (.seq (.seq (.ops none [⟨some 4, .mv (.t 3), none⟩,
         ⟨some 5, .mv (.t 0), none⟩,
         ⟨some 6, .len false (.t 5), none⟩,
         ⟨some 7, .bin .lss (.t 4) (.t 6), none⟩])
        (.cond (.t 7)
         .skip
         (.exit 0)))
       (.seq (.block 1 (.seq (.ops none [⟨some 10, .mv (.t 0), none⟩,
           ⟨some 11, .mv (.t 3), none⟩,
           ⟨some 12, .iaddr 6 (.t 10) (.t 11), none⟩,
           ⟨some 13, .faddr 0 (.t 12), none⟩,
           ⟨some 14, .load false 1 (.t 13), none⟩,
           ⟨some 15, .len true (.t 14), none⟩,
           ⟨some 16, .bin .gtr (.t 15) (.c (.int .i64 100)), none⟩])
          (.cond (.t 16)
           (.seq (.ops none [⟨some 2, .mv (.c (.bool false)), none⟩])
            .ret)
           .skip)))
        (.ops none [⟨some 8, .mv (.t 3), none⟩,
         ⟨some 9, .bin .add (.t 8) (.c (.int .i64 1)), none⟩,
         ⟨some 3, .mv (.t 9), none⟩]))))))
   (.seq (.ops none [⟨some 17, .mv (.t 0), none⟩,
     ⟨some 18, .len false (.t 17), none⟩,
     ⟨some 19, .bin .leq (.t 18) (.c (.int .i64 600)), none⟩,
     ⟨some 2, .mv (.t 19), none⟩])
    .ret)))⟩
theorem cop16 : copF Try.prog raws [([0, 3], [])] 16 = some ir16 := by kernel_rfl
/-- tenterhook/dict.Add -/
def ir17 : F := ⟨31, [.t 4, .t 5],
 (.seq (.ops none [⟨some 3, .box (.t 1), none⟩,
   ⟨some 4, .mv (.c (.nil)), none⟩,
   ⟨some 5, .mv (.c (.int .i64 0)), none⟩])
  (.seq (.ops none [⟨some 6, .faddr 0 (.t 3), none⟩,
    ⟨some 7, .load false 1 (.t 6), none⟩,
    ⟨some 8, .call 22 true [] [(.t 7)], none⟩,
    ⟨some 9, .faddr 0 (.t 3), none⟩,
    ⟨none, .store 1 (.t 9) (.t 8), none⟩])
   (.seq (.block 0 (.seq (.ops none [⟨some 11, .faddr 0 (.t 3), none⟩,
       ⟨some 12, .load false 1 (.t 11), none⟩,
       ⟨some 13, .call 39 true [] [(.t 12)], none⟩,
       ⟨some 14, .un .not (.t 13), none⟩,
       ⟨some 10, .mv (.t 14), none⟩])
      (.cond (.t 10)
       (.seq (.ops none [⟨some 15, .mv (.t 0), none⟩,
         ⟨some 4, .mv (.t 15), none⟩,
         ⟨some 5, .mv (.c (.int .i64 (-16))), none⟩])
        .ret)
       (.seq (.ops none [⟨some 17, .load true 6 (.t 3), none⟩,
         ⟨some 18, .call 15 true [] [(.t 17)], none⟩,
         ⟨some 19, .un .not (.t 18), none⟩,
         ⟨some 16, .mv (.t 19), none⟩])
        (.cond (.t 16)
         (.seq (.ops none [⟨some 20, .mv (.t 0), none⟩,
           ⟨some 4, .mv (.t 20), none⟩,
           ⟨some 5, .mv (.c (.int .i64 (-21))), none⟩])
          .ret)
         (.seq (.ops none [⟨some 22, .mv (.t 0), none⟩,
           ⟨some 23, .len false (.t 22), none⟩,
           ⟨some 24, .bin .geq (.t 23) (.c (.int .i64 512)), none⟩,
           ⟨some 21, .mv (.t 24), none⟩])
          (.cond (.t 21)
           (.seq (.ops none [⟨some 25, .mv (.t 0), none⟩,
             ⟨some 4, .mv (.t 25), none⟩,
             ⟨some 5, .mv (.c (.int .i64 (-8))), none⟩])
            .ret)
           .skip)))))))
    (.seq (.ops (some [(1, 2), (1, 3)]) [⟨some 26, .mv (.t 0), none⟩,
      ⟨some 27, .call 40 false [] [(.t 26)], none⟩,
      ⟨some 28, .load true 6 (.t 3), none⟩,
      ⟨some 29, .bslice 6 1 [.str ⟨#[]⟩, .bool false, .int .i64 0, .int .i64 0, .int .i64 0, .int .i64 0] [(0, (.t 28))], none⟩,
      ⟨some 30, .append 6 (.t 27) (.t 29), none⟩,
      ⟨some 4, .mv (.t 30), none⟩,
      ⟨some 5, .mv (.c (.int .i64 0)), none⟩])
     .ret))))⟩
theorem cop17 : copF Try.prog raws [] 17 = some ir17 := by kernel_rfl
/-- tenterhook/tenterhooklaw11.entries -/
def ir18 : F := ⟨20, [.t 2],
 (.seq (.ops none [⟨some 2, .mv (.c (.nil)), none⟩])
  (.seq (.ops none [⟨some 3, .mv (.c (.nil)), none⟩])
   (.seq (.seq (.ops none [⟨some 4, .mv (.c (.int .i64 0)), none⟩])
     (.block 0 (.loop [0, 3, 4] [(3, none, 6)]
       (.seq (.seq (.ops none [⟨some 5, .mv (.t 4), none⟩,
          ⟨some 6, .mv (.t 0), none⟩,
          ⟨some 7, .len false (.t 6), none⟩,
          ⟨some 8, .bin .lss (.t 5) (.t 7), none⟩])
         (.cond (.t 8)
          .skip
          (.exit 0)))
        (.seq (.block 1 (.ops none [⟨some 11, .mv (.t 3), none⟩,
           ⟨some 12, .mv (.t 0), none⟩,
           ⟨some 13, .mv (.t 4), none⟩,
           ⟨some 14, .iaddr 6 (.t 12) (.t 13), none⟩,
           ⟨some 15, .load true 6 (.t 14), none⟩,
           ⟨some 16, .call 19 true [] [(.t 15)], none⟩,
           ⟨some 17, .bslice 6 1 [.str ⟨#[]⟩, .bool false, .int .i64 0, .int .i64 0, .int .i64 0, .int .i64 0] [(0, (.t 16))], none⟩,
           ⟨some 18, .append 6 (.t 11) (.t 17), none⟩,
           ⟨some 3, .mv (.t 18), none⟩]))
         (.ops none [⟨some 9, .mv (.t 4), none⟩,
          ⟨some 10, .bin .add (.t 9) (.c (.int .i64 1)), none⟩,
          ⟨some 4, .mv (.t 10), none⟩]))))))
    (.seq (.ops none [⟨some 19, .mv (.t 3), none⟩,
      ⟨some 2, .mv (.t 19), none⟩])
     .ret))))⟩
theorem cop18 : copF Try.prog raws [([0, 3, 4], [(3, none, 6)])] 18 = some ir18 := by kernel_rfl
/-- tenterhook/tenterhooklaw11.entry -/
def ir19 : F := ⟨14, [.cell 2 true 6],
 (.seq (.ops none [⟨some 1, .box (.t 0), none⟩,
   ⟨some 2, .alloc [.str ⟨#[]⟩, .bool false, .int .i64 0, .int .i64 0, .int .i64 0, .int .i64 0], none⟩])
  (.seq (.ops none [⟨some 3, .faddr 0 (.t 1), none⟩,
    ⟨some 4, .load false 1 (.t 3), none⟩,
    ⟨some 5, .faddr 1 (.t 1), none⟩,
    ⟨some 6, .load false 1 (.t 5), none⟩,
    ⟨some 7, .faddr 2 (.t 1), none⟩,
    ⟨some 8, .load false 1 (.t 7), none⟩,
    ⟨some 9, .faddr 3 (.t 1), none⟩,
    ⟨some 10, .load false 1 (.t 9), none⟩,
    ⟨some 11, .faddr 4 (.t 1), none⟩,
    ⟨some 12, .load true 2 (.t 11), none⟩,
    ⟨some 13, .build [.str ⟨#[]⟩, .bool false, .int .i64 0, .int .i64 0, .int .i64 0, .int .i64 0] [(0, 1, (.t 4)), (1, 1, (.t 6)), (2, 1, (.t 8)), (3, 1, (.t 10)), (4, 2, (.t 12))], none⟩,
    ⟨none, .store 6 (.t 2) (.t 13), none⟩])
   .ret))⟩
theorem cop19 : copF Try.prog raws [] 19 = some ir19 := by kernel_rfl
/-- tenterhook/tenterhookref11.Same -/
def ir20 : F := ⟨26, [.t 4],
 (.seq (.ops none [⟨some 4, .mv (.c (.bool false)), none⟩])
  (.seq (.seq (.ops none [⟨some 6, .mv (.t 0), none⟩,
     ⟨some 7, .len false (.t 6), none⟩,
     ⟨some 8, .mv (.t 1), none⟩,
     ⟨some 9, .len false (.t 8), none⟩,
     ⟨some 10, .bin .neq (.t 7) (.t 9), none⟩])
    (.cond (.t 10)
     (.seq (.ops none [⟨some 4, .mv (.c (.bool false)), none⟩])
      .ret)
     .skip))
   (.seq (.seq (.ops none [⟨some 5, .mv (.c (.int .i64 0)), none⟩])
     (.block 0 (.loop [0, 1, 5] []
       (.seq (.seq (.ops none [⟨some 11, .mv (.t 5), none⟩,
          ⟨some 12, .mv (.t 0), none⟩,
          ⟨some 13, .len false (.t 12), none⟩,
          ⟨some 14, .bin .lss (.t 11) (.t 13), none⟩])
         (.cond (.t 14)
          .skip
          (.exit 0)))
        (.seq (.block 1 (.seq (.ops (some []) [⟨some 17, .mv (.t 0), none⟩,
            ⟨some 18, .mv (.t 5), none⟩,
            ⟨some 19, .iaddr 6 (.t 17) (.t 18), none⟩,
            ⟨some 20, .load true 6 (.t 19), none⟩,
            ⟨some 21, .mv (.t 1), none⟩,
            ⟨some 22, .mv (.t 5), none⟩,
            ⟨some 23, .iaddr 6 (.t 21) (.t 22), none⟩,
            ⟨some 24, .load true 6 (.t 23), none⟩,
            ⟨some 25, .eqS true [2, 1, 0, 0, 0, 0] (.t 20) (.t 24), none⟩])
           (.cond (.t 25)
            (.seq (.ops none [⟨some 4, .mv (.c (.bool false)), none⟩])
             .ret)
            .skip)))
         (.ops none [⟨some 15, .mv (.t 5), none⟩,
          ⟨some 16, .bin .add (.t 15) (.c (.int .i64 1)), none⟩,
          ⟨some 5, .mv (.t 16), none⟩]))))))
    (.seq (.ops none [⟨some 4, .mv (.c (.bool true)), none⟩])
     .ret))))⟩
theorem cop20 : copF Try.prog raws [([0, 1, 5], [])] 20 = some ir20 := by kernel_rfl
/-- tenterhook/tenterhooklaw11.words -/
def ir21 : F := ⟨31, [.t 2],
 (.seq (.ops none [⟨some 2, .mv (.c (.nil)), none⟩])
  (.seq (.ops none [⟨some 3, .mv (.c (.nil)), none⟩])
   (.seq (.seq (.ops none [⟨some 4, .mv (.c (.int .i64 0)), none⟩])
     (.block 0 (.loop [0, 3, 4] [(3, none, 6)]
       (.seq (.seq (.ops none [⟨some 6, .mv (.t 4), none⟩,
          ⟨some 7, .mv (.t 0), none⟩,
          ⟨some 8, .len false (.t 7), none⟩,
          ⟨some 9, .bin .lss (.t 6) (.t 8), none⟩])
         (.cond (.t 9)
          .skip
          (.exit 0)))
        (.seq (.block 1 (.seq (.ops none [⟨some 12, .mv (.t 0), none⟩,
            ⟨some 13, .mv (.t 4), none⟩,
            ⟨some 14, .iaddr 6 (.t 12) (.t 13), none⟩,
            ⟨some 15, .load true 6 (.t 14), none⟩,
            ⟨some 5, .alloc [.str ⟨#[]⟩, .bool false, .int .i64 0, .int .i64 0, .int .i64 0, .int .i64 0], none⟩,
            ⟨none, .store 6 (.t 5) (.t 15), none⟩])
           (.ops none [⟨some 16, .mv (.t 3), none⟩,
            ⟨some 17, .faddr 0 (.t 5), none⟩,
            ⟨some 18, .load false 1 (.t 17), none⟩,
            ⟨some 19, .faddr 1 (.t 5), none⟩,
            ⟨some 20, .load false 1 (.t 19), none⟩,
            ⟨some 21, .faddr 2 (.t 5), none⟩,
            ⟨some 22, .load false 1 (.t 21), none⟩,
            ⟨some 23, .faddr 3 (.t 5), none⟩,
            ⟨some 24, .load false 1 (.t 23), none⟩,
            ⟨some 25, .faddr 4 (.t 5), none⟩,
            ⟨some 26, .load true 2 (.t 25), none⟩,
            ⟨some 27, .build [.str ⟨#[]⟩, .bool false, .int .i64 0, .int .i64 0, .int .i64 0, .int .i64 0] [(0, 1, (.t 18)), (1, 1, (.t 20)), (2, 1, (.t 22)), (3, 1, (.t 24)), (4, 2, (.t 26))], none⟩,
            ⟨some 28, .bslice 6 1 [.str ⟨#[]⟩, .bool false, .int .i64 0, .int .i64 0, .int .i64 0, .int .i64 0] [(0, (.t 27))], none⟩,
            ⟨some 29, .append 6 (.t 16) (.t 28), none⟩,
            ⟨some 3, .mv (.t 29), none⟩])))
         (.ops none [⟨some 10, .mv (.t 4), none⟩,
          ⟨some 11, .bin .add (.t 10) (.c (.int .i64 1)), none⟩,
          ⟨some 4, .mv (.t 11), none⟩]))))))
    (.seq (.ops none [⟨some 30, .mv (.t 3), none⟩,
      ⟨some 2, .mv (.t 30), none⟩])
     .ret))))⟩
theorem cop21 : copF Try.prog raws [([0, 3, 4], [(3, none, 6)])] 21 = some ir21 := by kernel_rfl
/-- tenterhook/scan.Upper -/
def ir22 : F := ⟨23, [.t 2],
 (.seq (.ops none [⟨some 2, .mv (.c (.str ⟨#[]⟩)), none⟩])
  (.seq (.ops none [⟨some 6, .mv (.t 0), none⟩,
    ⟨some 7, .s2b (.t 6), none⟩,
    ⟨some 3, .mv (.t 7), none⟩])
   (.seq (.seq (.ops none [⟨some 8, .mv (.t 3), none⟩,
      ⟨some 9, .len false (.t 8), none⟩,
      ⟨some 10, .mv (.c (.int .i64 0)), none⟩])
     (.block 0 (.loop [3, 8, 9, 10] []
       (.seq (.ops none [⟨some 11, .bin .lss (.t 10) (.t 9), none⟩])
        (.seq (.cond (.t 11)
          .skip
          (.exit 0))
         (.seq (.block 1 (.seq (.ops none [⟨some 12, .mv (.t 10), none⟩,
             ⟨some 13, .iaddr 1 (.t 8) (.t 10), none⟩,
             ⟨some 14, .load false 1 (.t 13), none⟩,
             ⟨some 4, .mv (.t 12), none⟩,
             ⟨some 5, .mv (.t 14), none⟩])
            (.ops none [⟨some 15, .mv (.t 3), none⟩,
             ⟨some 16, .mv (.t 4), none⟩,
             ⟨some 17, .mv (.t 5), none⟩,
             ⟨some 18, .call 41 true [] [(.t 17)], none⟩,
             ⟨some 19, .iaddr 1 (.t 15) (.t 16), none⟩,
             ⟨none, .store 1 (.t 19) (.t 18), none⟩])))
          (.ops none [⟨some 20, .bin .add (.t 10) (.c (.int .i64 1)), none⟩,
           ⟨some 10, .mv (.t 20), none⟩])))))))
    (.seq (.ops none [⟨some 21, .mv (.t 3), none⟩,
      ⟨some 22, .b2s (.t 21), none⟩,
      ⟨some 2, .mv (.t 22), none⟩])
     .ret))))⟩
theorem cop22 : copF Try.prog raws [([3, 8, 9, 10], [])] 22 = some ir22 := by kernel_rfl
/-- tenterhook/tenterhookref11.Find -/
def ir23 : F := ⟨29, [.t 4, .t 5],
 (.seq (.ops none [⟨some 4, .mv (.c (.int .i64 0)), none⟩,
   ⟨some 5, .mv (.c (.bool false)), none⟩])
  (.seq (.ops none [⟨some 8, .mv (.t 1), none⟩,
    ⟨some 9, .call 42 true [] [(.t 8)], none⟩,
    ⟨some 6, .mv (.t 9), none⟩])
   (.seq (.seq (.ops none [⟨some 10, .mv (.t 0), none⟩,
      ⟨some 11, .len false (.t 10), none⟩,
      ⟨some 12, .bin .sub (.t 11) (.c (.int .i64 1)), none⟩,
      ⟨some 7, .mv (.t 12), none⟩])
     (.block 0 (.loop [0, 6, 7] []
       (.seq (.seq (.ops none [⟨some 13, .mv (.t 7), none⟩,
          ⟨some 14, .bin .geq (.t 13) (.c (.int .i64 0)), none⟩])
         (.cond (.t 14)
          .skip
          (.exit 0)))
        (.seq (.block 1 (.seq (.ops none [⟨some 17, .mv (.t 0), none⟩,
            ⟨some 18, .mv (.t 7), none⟩,
            ⟨some 19, .iaddr 6 (.t 17) (.t 18), none⟩,
            ⟨some 20, .faddr 0 (.t 19), none⟩,
            ⟨some 21, .load false 1 (.t 20), none⟩,
            ⟨some 22, .mv (.t 6), none⟩,
            ⟨some 23, .bin .eql (.t 21) (.t 22), none⟩,
            ⟨some 24, .mv (.t 23), none⟩,
            ⟨some 25, .mv (.t 6), some (24, true)⟩,
            ⟨some 26, .bin .neq (.t 25) (.c (.str ⟨#[]⟩)), some (24, true)⟩,
            ⟨some 27, .pick (.t 24) (.t 26) (.c (.bool false)), none⟩])
           (.cond (.t 27)
            (.seq (.ops none [⟨some 28, .mv (.t 7), none⟩,
              ⟨some 4, .mv (.t 28), none⟩,
              ⟨some 5, .mv (.c (.bool true)), none⟩])
             .ret)
            .skip)))
         (.ops none [⟨some 15, .mv (.t 7), none⟩,
          ⟨some 16, .bin .sub (.t 15) (.c (.int .i64 1)), none⟩,
          ⟨some 7, .mv (.t 16), none⟩]))))))
    (.seq (.ops none [⟨some 4, .mv (.c (.int .i64 0)), none⟩,
      ⟨some 5, .mv (.c (.bool false)), none⟩])
     .ret))))⟩
theorem cop23 : copF Try.prog raws [([0, 6, 7], [])] 23 = some ir23 := by kernel_rfl
/-- tenterhook/tenterhookref11.Add -/
def ir24 : F := ⟨37, [.t 4, .t 5],
 (.seq (.ops none [⟨some 3, .box (.t 1), none⟩,
   ⟨some 4, .mv (.c (.nil)), none⟩,
   ⟨some 5, .mv (.c (.int .i64 0)), none⟩])
  (.seq (.ops none [⟨some 7, .faddr 0 (.t 3), none⟩,
    ⟨some 8, .load false 1 (.t 7), none⟩,
    ⟨some 9, .call 42 true [] [(.t 8)], none⟩,
    ⟨some 10, .faddr 0 (.t 3), none⟩,
    ⟨none, .store 1 (.t 10) (.t 9), none⟩])
   (.seq (.seq (.ops none [⟨some 11, .faddr 0 (.t 3), none⟩,
      ⟨some 12, .load false 1 (.t 11), none⟩,
      ⟨some 13, .len true (.t 12), none⟩,
      ⟨some 14, .bin .lss (.t 13) (.c (.int .i64 1)), none⟩,
      ⟨some 15, .mv (.t 14), none⟩,
      ⟨some 16, .faddr 0 (.t 3), some (15, false)⟩,
      ⟨some 17, .load false 1 (.t 16), some (15, false)⟩,
      ⟨some 18, .len true (.t 17), some (15, false)⟩,
      ⟨some 19, .bin .gtr (.t 18) (.c (.int .i64 31)), some (15, false)⟩,
      ⟨some 20, .pick (.t 15) (.c (.bool true)) (.t 19), none⟩])
     (.cond (.t 20)
      (.seq (.ops none [⟨some 21, .mv (.t 0), none⟩,
        ⟨some 4, .mv (.t 21), none⟩,
        ⟨some 5, .mv (.c (.int .i64 (-16))), none⟩])
       .ret)
      .skip))
    (.seq (.seq (.ops none [⟨some 22, .load true 6 (.t 3), none⟩,
       ⟨some 23, .call 31 true [] [(.t 22)], none⟩,
       ⟨some 24, .un .not (.t 23), none⟩])
      (.cond (.t 24)
       (.seq (.ops none [⟨some 25, .mv (.t 0), none⟩,
         ⟨some 4, .mv (.t 25), none⟩,
         ⟨some 5, .mv (.c (.int .i64 (-21))), none⟩])
        .ret)
       .skip))
     (.seq (.seq (.ops none [⟨some 26, .mv (.t 0), none⟩,
        ⟨some 27, .len false (.t 26), none⟩,
        ⟨some 28, .bin .geq (.t 27) (.c (.int .i64 512)), none⟩])
       (.cond (.t 28)
        (.seq (.ops none [⟨some 29, .mv (.t 0), none⟩,
          ⟨some 4, .mv (.t 29), none⟩,
          ⟨some 5, .mv (.c (.int .i64 (-8))), none⟩])
         .ret)
        .skip))
      (.seq (.ops none [⟨some 30, .bslice 6 0 [.str ⟨#[]⟩, .bool false, .int .i64 0, .int .i64 0, .int .i64 0, .int .i64 0] [], none⟩,
        ⟨some 31, .mv (.t 0), none⟩,
        ⟨some 32, .append 6 (.t 30) (.t 31), none⟩,
        ⟨some 6, .mv (.t 32), none⟩])
       (.seq (.ops none [⟨some 33, .mv (.t 6), none⟩,
         ⟨some 34, .load true 6 (.t 3), none⟩,
         ⟨some 35, .bslice 6 1 [.str ⟨#[]⟩, .bool false, .int .i64 0, .int .i64 0, .int .i64 0, .int .i64 0] [(0, (.t 34))], none⟩,
         ⟨some 36, .append 6 (.t 33) (.t 35), none⟩,
         ⟨some 4, .mv (.t 36), none⟩,
         ⟨some 5, .mv (.c (.int .i64 0)), none⟩])
        .ret)))))))⟩
theorem cop24 : copF Try.prog raws [] 24 = some ir24 := by kernel_rfl
/-- tenterhook/tenterhookref11.Code -/
def ir25 : F := ⟨55, [.t 4, .t 5],
 (.seq (.ops none [⟨some 4, .mv (.c (.nil)), none⟩,
   ⟨some 5, .mv (.c (.bool false)), none⟩])
  (.seq (.seq (.ops none [⟨some 8, .mv (.t 1), none⟩,
     ⟨some 9, .bin .lss (.t 8) (.c (.int .i64 0)), none⟩,
     ⟨some 10, .mv (.t 9), none⟩,
     ⟨some 11, .mv (.t 1), some (10, false)⟩,
     ⟨some 12, .mv (.t 0), some (10, false)⟩,
     ⟨some 13, .len false (.t 12), some (10, false)⟩,
     ⟨some 14, .bin .geq (.t 11) (.t 13), some (10, false)⟩,
     ⟨some 15, .pick (.t 10) (.c (.bool true)) (.t 14), none⟩,
     ⟨some 16, .mv (.t 15), none⟩,
     ⟨some 17, .mv (.t 0), some (16, false)⟩,
     ⟨some 18, .mv (.t 1), some (16, false)⟩,
     ⟨some 19, .iaddr 6 (.t 17) (.t 18), some (16, false)⟩,
     ⟨some 20, .load true 6 (.t 19), some (16, false)⟩,
     ⟨some 21, .call 31 true [] [(.t 20)], some (16, false)⟩,
     ⟨some 22, .un .not (.t 21), some (16, false)⟩,
     ⟨some 23, .pick (.t 16) (.c (.bool true)) (.t 22), none⟩])
    (.cond (.t 23)
     (.seq (.ops none [⟨some 4, .mv (.c (.nil)), none⟩,
       ⟨some 5, .mv (.c (.bool false)), none⟩])
      .ret)
     .skip))
   (.seq (.ops none [⟨some 24, .mv (.t 0), none⟩,
     ⟨some 25, .mv (.t 1), none⟩,
     ⟨some 26, .iaddr 6 (.t 24) (.t 25), none⟩,
     ⟨some 27, .load true 6 (.t 26), none⟩,
     ⟨some 6, .alloc [.str ⟨#[]⟩, .bool false, .int .i64 0, .int .i64 0, .int .i64 0, .int .i64 0], none⟩,
     ⟨none, .store 6 (.t 6) (.t 27), none⟩])
    (.seq (.ops none [⟨some 28, .faddr 4 (.t 6), none⟩,
      ⟨some 29, .load true 2 (.t 28), none⟩,
      ⟨some 30, .call 30 true [] [(.t 29)], none⟩,
      ⟨some 31, .build [.int .i64 0, .int .i64 0] [(0, 1, (.c (.int .i64 3))), (1, 1, (.t 30))], none⟩,
      ⟨some 7, .alloc [.int .i64 0, .int .i64 0], none⟩,
      ⟨none, .store 2 (.t 7) (.t 31), none⟩])
     (.seq (.seq (.ops none [⟨some 32, .faddr 2 (.t 6), none⟩,
        ⟨some 33, .load false 1 (.t 32), none⟩])
       (.block 0 (.seq (.ops none [⟨some 35, .bin .eql (.t 33) (.c (.int .i64 0)), none⟩,
          ⟨some 34, .mv (.t 35), none⟩])
         (.cond (.t 34)
          (.seq (.ops none [⟨some 36, .faddr 3 (.t 6), none⟩,
            ⟨some 37, .load false 1 (.t 36), none⟩,
            ⟨some 38, .build [.int .i64 0, .int .i64 0] [(0, 1, (.t 37))], none⟩,
            ⟨some 39, .bslice 2 1 [.int .i64 0, .int .i64 0] [(0, (.t 38))], none⟩,
            ⟨some 4, .mv (.t 39), none⟩,
            ⟨some 5, .mv (.c (.bool true)), none⟩])
           .ret)
          (.seq (.ops none [⟨some 41, .bin .eql (.t 33) (.c (.int .i64 1)), none⟩,
            ⟨some 40, .mv (.t 41), none⟩])
           (.cond (.t 40)
            (.seq (.ops none [⟨some 42, .load true 2 (.t 7), none⟩,
              ⟨some 43, .bslice 2 1 [.int .i64 0, .int .i64 0] [(0, (.t 42))], none⟩,
              ⟨some 4, .mv (.t 43), none⟩,
              ⟨some 5, .mv (.c (.bool true)), none⟩])
             .ret)
            (.seq (.ops none [⟨some 45, .bin .eql (.t 33) (.c (.int .i64 4)), none⟩,
              ⟨some 44, .mv (.t 45), none⟩])
             (.cond (.t 44)
              (.seq (.ops none [⟨some 46, .faddr 3 (.t 6), none⟩,
                ⟨some 47, .load false 1 (.t 46), none⟩,
                ⟨some 48, .build [.int .i64 0, .int .i64 0] [(0, 1, (.c (.int .i64 0))), (1, 1, (.t 47))], none⟩,
                ⟨some 49, .load true 2 (.t 7), none⟩,
                ⟨some 50, .bslice 2 2 [.int .i64 0, .int .i64 0] [(0, (.t 48)), (1, (.t 49))], none⟩,
                ⟨some 4, .mv (.t 50), none⟩,
                ⟨some 5, .mv (.c (.bool true)), none⟩])
               .ret)
              .skip))))))))
      (.seq (.ops none [⟨some 51, .faddr 3 (.t 6), none⟩,
        ⟨some 52, .load false 1 (.t 51), none⟩,
        ⟨some 53, .build [.int .i64 0, .int .i64 0] [(0, 1, (.c (.int .i64 0))), (1, 1, (.t 52))], none⟩,
        ⟨some 54, .bslice 2 1 [.int .i64 0, .int .i64 0] [(0, (.t 53))], none⟩,
        ⟨some 4, .mv (.t 54), none⟩,
        ⟨some 5, .mv (.c (.bool true)), none⟩])
       .ret))))))⟩
theorem cop25 : copF Try.prog raws [] 25 = some ir25 := by kernel_rfl
/-- tenterhook/dict.At -/
def ir26 : F := ⟨19, [.cell 2 true 2, .t 3],
 (.seq (.ops none [⟨some 2, .alloc [.int .i64 0, .int .i64 0], none⟩,
   ⟨some 3, .mv (.c (.bool false)), none⟩])
  (.seq (.ops none [⟨some 5, .mv (.t 0), none⟩,
    ⟨some 6, .bin .quo (.t 5) (.c (.int .i64 4096)), none⟩,
    ⟨some 7, .mv (.t 0), none⟩,
    ⟨some 8, .bin .rem (.t 7) (.c (.int .i64 4096)), none⟩,
    ⟨some 9, .build [.int .i64 0, .int .i64 0] [(0, 1, (.t 6)), (1, 1, (.t 8))], none⟩,
    ⟨some 4, .alloc [.int .i64 0, .int .i64 0], none⟩,
    ⟨none, .store 2 (.t 4) (.t 9), none⟩])
   (.seq (.seq (.ops none [⟨some 10, .mv (.t 0), none⟩,
      ⟨some 11, .bin .lss (.t 10) (.c (.int .i64 0)), none⟩,
      ⟨some 12, .mv (.t 11), none⟩,
      ⟨some 13, .faddr 0 (.t 4), some (12, false)⟩,
      ⟨some 14, .load false 1 (.t 13), some (12, false)⟩,
      ⟨some 15, .bin .gtr (.t 14) (.c (.int .i64 1000000)), some (12, false)⟩,
      ⟨some 16, .pick (.t 12) (.c (.bool true)) (.t 15), none⟩])
     (.cond (.t 16)
      (.seq (.ops none [⟨some 17, .build [.int .i64 0, .int .i64 0] [], none⟩,
        ⟨none, .store 2 (.t 2) (.t 17), none⟩,
        ⟨some 3, .mv (.c (.bool false)), none⟩])
       .ret)
      .skip))
    (.seq (.ops none [⟨some 18, .load true 2 (.t 4), none⟩,
      ⟨none, .store 2 (.t 2) (.t 18), none⟩,
      ⟨some 3, .mv (.c (.bool true)), none⟩])
     .ret))))⟩
theorem cop26 : copF Try.prog raws [] 26 = some ir26 := by kernel_rfl
/-- tenterhook/tenterhookref11.At -/
def ir27 : F := ⟨17, [.cell 2 true 2, .t 3],
 (.seq (.ops none [⟨some 2, .alloc [.int .i64 0, .int .i64 0], none⟩,
   ⟨some 3, .mv (.c (.bool false)), none⟩])
  (.seq (.seq (.ops none [⟨some 4, .mv (.t 0), none⟩,
     ⟨some 5, .bin .lss (.t 4) (.c (.int .i64 0)), none⟩,
     ⟨some 6, .mv (.t 5), none⟩,
     ⟨some 7, .mv (.t 0), some (6, false)⟩,
     ⟨some 8, .bin .quo (.t 7) (.c (.int .i64 4096)), some (6, false)⟩,
     ⟨some 9, .bin .gtr (.t 8) (.c (.int .i64 1000000)), some (6, false)⟩,
     ⟨some 10, .pick (.t 6) (.c (.bool true)) (.t 9), none⟩])
    (.cond (.t 10)
     (.seq (.ops none [⟨some 11, .build [.int .i64 0, .int .i64 0] [], none⟩,
       ⟨none, .store 2 (.t 2) (.t 11), none⟩,
       ⟨some 3, .mv (.c (.bool false)), none⟩])
      .ret)
     .skip))
   (.seq (.ops none [⟨some 12, .mv (.t 0), none⟩,
     ⟨some 13, .bin .quo (.t 12) (.c (.int .i64 4096)), none⟩,
     ⟨some 14, .mv (.t 0), none⟩,
     ⟨some 15, .bin .rem (.t 14) (.c (.int .i64 4096)), none⟩,
     ⟨some 16, .build [.int .i64 0, .int .i64 0] [(0, 1, (.t 13)), (1, 1, (.t 15))], none⟩,
     ⟨none, .store 2 (.t 2) (.t 16), none⟩,
     ⟨some 3, .mv (.c (.bool true)), none⟩])
    .ret)))⟩
theorem cop27 : copF Try.prog raws [] 27 = some ir27 := by kernel_rfl
/-- tenterhook/tenterhookref08.Code -/
def ir28 : F := ⟨26, [.t 4],
 (.seq (.ops none [⟨some 4, .mv (.c (.bool false)), none⟩])
  (.seq (.seq (.ops none [⟨some 6, .mv (.t 0), none⟩,
     ⟨some 7, .len false (.t 6), none⟩,
     ⟨some 8, .mv (.t 1), none⟩,
     ⟨some 9, .len false (.t 8), none⟩,
     ⟨some 10, .bin .neq (.t 7) (.t 9), none⟩])
    (.cond (.t 10)
     (.seq (.ops none [⟨some 4, .mv (.c (.bool false)), none⟩])
      .ret)
     .skip))
   (.seq (.seq (.ops none [⟨some 5, .mv (.c (.int .i64 0)), none⟩])
     (.block 0 (.loop [0, 1, 5] []
       (.seq (.seq (.ops none [⟨some 11, .mv (.t 5), none⟩,
          ⟨some 12, .mv (.t 0), none⟩,
          ⟨some 13, .len false (.t 12), none⟩,
          ⟨some 14, .bin .lss (.t 11) (.t 13), none⟩])
         (.cond (.t 14)
          .skip
          (.exit 0)))
        (.seq (.block 1 (.seq (.ops (some []) [⟨some 17, .mv (.t 0), none⟩,
            ⟨some 18, .mv (.t 5), none⟩,
            ⟨some 19, .iaddr 2 (.t 17) (.t 18), none⟩,
            ⟨some 20, .load true 2 (.t 19), none⟩,
            ⟨some 21, .mv (.t 1), none⟩,
            ⟨some 22, .mv (.t 5), none⟩,
            ⟨some 23, .iaddr 2 (.t 21) (.t 22), none⟩,
            ⟨some 24, .load true 2 (.t 23), none⟩,
            ⟨some 25, .eqS true [0, 0] (.t 20) (.t 24), none⟩])
           (.cond (.t 25)
            (.seq (.ops none [⟨some 4, .mv (.c (.bool false)), none⟩])
             .ret)
            .skip)))
         (.ops none [⟨some 15, .mv (.t 5), none⟩,
          ⟨some 16, .bin .add (.t 15) (.c (.int .i64 1)), none⟩,
          ⟨some 5, .mv (.t 16), none⟩]))))))
    (.seq (.ops none [⟨some 4, .mv (.c (.bool true)), none⟩])
     .ret))))⟩
theorem cop28 : copF Try.prog raws [([0, 1, 5], [])] 28 = some ir28 := by kernel_rfl
/-- tenterhook/dict.Addr -/
def ir29 : F := ⟨19, [.t 2],
 (.seq (.ops none [⟨some 1, .box (.t 0), none⟩,
   ⟨some 2, .mv (.c (.int .i64 0)), none⟩])
  (.seq (.seq (.ops none [⟨some 3, .faddr 0 (.t 1), none⟩,
     ⟨some 4, .load false 1 (.t 3), none⟩,
     ⟨some 5, .call 36 true [] [(.t 4), (.c (.int .i64 1000000))], none⟩,
     ⟨some 6, .un .not (.t 5), none⟩,
     ⟨some 7, .mv (.t 6), none⟩,
     ⟨some 8, .faddr 1 (.t 1), some (7, false)⟩,
     ⟨some 9, .load false 1 (.t 8), some (7, false)⟩,
     ⟨some 10, .call 36 true [] [(.t 9), (.c (.int .i64 4095))], some (7, false)⟩,
     ⟨some 11, .un .not (.t 10), some (7, false)⟩,
     ⟨some 12, .pick (.t 7) (.c (.bool true)) (.t 11), none⟩])
    (.cond (.t 12)
     (.seq (.ops none [⟨some 2, .mv (.c (.int .i64 (-1))), none⟩])
      .ret)
     .skip))
   (.seq (.ops none [⟨some 13, .faddr 0 (.t 1), none⟩,
     ⟨some 14, .load false 1 (.t 13), none⟩,
     ⟨some 15, .bin .mul (.t 14) (.c (.int .i64 4096)), none⟩,
     ⟨some 16, .faddr 1 (.t 1), none⟩,
     ⟨some 17, .load false 1 (.t 16), none⟩,
     ⟨some 18, .bin .add (.t 15) (.t 17), none⟩,
     ⟨some 2, .mv (.t 18), none⟩])
    .ret)))⟩
theorem cop29 : copF Try.prog raws [] 29 = some ir29 := by kernel_rfl
/-- tenterhook/tenterhookref11.Addr -/
def ir30 : F := ⟨27, [.t 2],
 (.seq (.ops none [⟨some 1, .box (.t 0), none⟩,
   ⟨some 2, .mv (.c (.int .i64 0)), none⟩])
  (.seq (.seq (.ops none [⟨some 3, .faddr 0 (.t 1), none⟩,
     ⟨some 4, .load false 1 (.t 3), none⟩,
     ⟨some 5, .bin .lss (.t 4) (.c (.int .i64 0)), none⟩,
     ⟨some 6, .mv (.t 5), none⟩,
     ⟨some 7, .faddr 0 (.t 1), some (6, false)⟩,
     ⟨some 8, .load false 1 (.t 7), some (6, false)⟩,
     ⟨some 9, .bin .gtr (.t 8) (.c (.int .i64 1000000)), some (6, false)⟩,
     ⟨some 10, .pick (.t 6) (.c (.bool true)) (.t 9), none⟩,
     ⟨some 11, .mv (.t 10), none⟩,
     ⟨some 12, .faddr 1 (.t 1), some (11, false)⟩,
     ⟨some 13, .load false 1 (.t 12), some (11, false)⟩,
     ⟨some 14, .bin .lss (.t 13) (.c (.int .i64 0)), some (11, false)⟩,
     ⟨some 15, .pick (.t 11) (.c (.bool true)) (.t 14), none⟩,
     ⟨some 16, .mv (.t 15), none⟩,
     ⟨some 17, .faddr 1 (.t 1), some (16, false)⟩,
     ⟨some 18, .load false 1 (.t 17), some (16, false)⟩,
     ⟨some 19, .bin .geq (.t 18) (.c (.int .i64 4096)), some (16, false)⟩,
     ⟨some 20, .pick (.t 16) (.c (.bool true)) (.t 19), none⟩])
    (.cond (.t 20)
     (.seq (.ops none [⟨some 2, .mv (.c (.int .i64 (-1))), none⟩])
      .ret)
     .skip))
   (.seq (.ops none [⟨some 21, .faddr 0 (.t 1), none⟩,
     ⟨some 22, .load false 1 (.t 21), none⟩,
     ⟨some 23, .bin .mul (.t 22) (.c (.int .i64 4096)), none⟩,
     ⟨some 24, .faddr 1 (.t 1), none⟩,
     ⟨some 25, .load false 1 (.t 24), none⟩,
     ⟨some 26, .bin .add (.t 23) (.t 25), none⟩,
     ⟨some 2, .mv (.t 26), none⟩])
    .ret)))⟩
theorem cop30 : copF Try.prog raws [] 30 = some ir30 := by kernel_rfl
/-- tenterhook/tenterhookref11.Sane -/
def ir31 : F := ⟨54, [.t 2],
 (.seq (.ops none [⟨some 1, .box (.t 0), none⟩,
   ⟨some 2, .mv (.c (.bool false)), none⟩])
  (.seq (.seq (.ops none [⟨some 3, .faddr 0 (.t 1), none⟩,
     ⟨some 4, .load false 1 (.t 3), none⟩,
     ⟨some 5, .call 43 true [] [(.t 4)], none⟩,
     ⟨some 6, .un .not (.t 5), none⟩,
     ⟨some 7, .mv (.t 6), none⟩,
     ⟨some 8, .faddr 2 (.t 1), some (7, false)⟩,
     ⟨some 9, .load false 1 (.t 8), some (7, false)⟩,
     ⟨some 10, .bin .lss (.t 9) (.c (.int .i64 0)), some (7, false)⟩,
     ⟨some 11, .pick (.t 7) (.c (.bool true)) (.t 10), none⟩,
     ⟨some 12, .mv (.t 11), none⟩,
     ⟨some 13, .faddr 2 (.t 1), some (12, false)⟩,
     ⟨some 14, .load false 1 (.t 13), some (12, false)⟩,
     ⟨some 15, .bin .gtr (.t 14) (.c (.int .i64 4)), some (12, false)⟩,
     ⟨some 16, .pick (.t 12) (.c (.bool true)) (.t 15), none⟩])
    (.cond (.t 16)
     (.seq (.ops none [⟨some 2, .mv (.c (.bool false)), none⟩])
      .ret)
     .skip))
   (.seq (.seq (.ops none [⟨some 17, .faddr 2 (.t 1), none⟩,
      ⟨some 18, .load false 1 (.t 17), none⟩,
      ⟨some 19, .bin .eql (.t 18) (.c (.int .i64 0)), none⟩])
     (.cond (.t 19)
      (.seq (.ops none [⟨some 20, .faddr 3 (.t 1), none⟩,
        ⟨some 21, .load false 1 (.t 20), none⟩,
        ⟨some 22, .bin .geq (.t 21) (.c (.int .i64 0)), none⟩,
        ⟨some 23, .mv (.t 22), none⟩,
        ⟨some 24, .faddr 3 (.t 1), some (23, true)⟩,
        ⟨some 25, .load false 1 (.t 24), some (23, true)⟩,
        ⟨some 26, .bin .lss (.t 25) (.c (.int .i64 111)), some (23, true)⟩,
        ⟨some 27, .pick (.t 23) (.t 26) (.c (.bool false)), none⟩,
        ⟨some 28, .mv (.t 27), none⟩,
        ⟨some 29, .faddr 3 (.t 1), some (28, true)⟩,
        ⟨some 30, .load false 1 (.t 29), some (28, true)⟩,
        ⟨some 31, .call 44 true [] [(.t 30)], some (28, true)⟩,
        ⟨some 32, .un .not (.t 31), some (28, true)⟩,
        ⟨some 33, .pick (.t 28) (.t 32) (.c (.bool false)), none⟩,
        ⟨some 34, .mv (.t 33), none⟩,
        ⟨some 35, .faddr 4 (.t 1), some (34, true)⟩,
        ⟨some 36, .load true 2 (.t 35), some (34, true)⟩,
        ⟨some 37, .build [.int .i64 0, .int .i64 0] [], some (34, true)⟩,
        ⟨some 38, .eqS false [0, 0] (.t 36) (.t 37), some (34, true)⟩,
        ⟨some 39, .pick (.t 34) (.t 38) (.c (.bool false)), none⟩,
        ⟨some 2, .mv (.t 39), none⟩])
       .ret)
      .skip))
    (.seq (.ops none [⟨some 40, .faddr 2 (.t 1), none⟩,
      ⟨some 41, .load false 1 (.t 40), none⟩,
      ⟨some 42, .bin .neq (.t 41) (.c (.int .i64 1)), none⟩,
      ⟨some 43, .mv (.t 42), none⟩,
      ⟨some 44, .faddr 2 (.t 1), some (43, true)⟩,
      ⟨some 45, .load false 1 (.t 44), some (43, true)⟩,
      ⟨some 46, .bin .neq (.t 45) (.c (.int .i64 4)), some (43, true)⟩,
      ⟨some 47, .pick (.t 43) (.t 46) (.c (.bool false)), none⟩,
      ⟨some 48, .mv (.t 47), none⟩,
      ⟨some 49, .faddr 4 (.t 1), some (48, false)⟩,
      ⟨some 50, .load true 2 (.t 49), some (48, false)⟩,
      ⟨some 51, .call 30 true [] [(.t 50)], some (48, false)⟩,
      ⟨some 52, .bin .geq (.t 51) (.c (.int .i64 0)), some (48, false)⟩,
      ⟨some 53, .pick (.t 48) (.c (.bool true)) (.t 52), none⟩,
      ⟨some 2, .mv (.t 53), none⟩])
     .ret))))⟩
theorem cop31 : copF Try.prog raws [] 31 = some ir31 := by kernel_rfl
/-- slices.Backward[[]tenterhook/dict.Entry,tenterhook/dict.Entry] -/
def ir32 : F := ⟨4, [.t 2],
 (.seq (.ops none [⟨some 1, .box (.t 0), none⟩,
   ⟨some 2, .mv (.c (.nilfn)), none⟩])
  (.seq (.ops none [⟨some 3, .mkfunc 45 [] [(.t 1)], none⟩,
    ⟨some 2, .mv (.t 3), none⟩])
   .ret))⟩
theorem cop32 : copF Try.prog raws [] 32 = some ir32 := by kernel_rfl
/-- tenterhook/op.in -/
def ir33 : F := ⟨9, [.t 2],
 (.seq (.ops none [⟨some 2, .mv (.c (.bool false)), none⟩])
  (.seq (.ops none [⟨some 3, .mv (.t 0), none⟩,
    ⟨some 4, .bin .geq (.t 3) (.c (.int .i64 0)), none⟩,
    ⟨some 5, .mv (.t 4), none⟩,
    ⟨some 6, .mv (.t 0), some (5, true)⟩,
    ⟨some 7, .bin .lss (.t 6) (.c (.int .i64 111)), some (5, true)⟩,
    ⟨some 8, .pick (.t 5) (.t 7) (.c (.bool false)), none⟩,
    ⟨some 2, .mv (.t 8), none⟩])
   .ret))⟩
theorem cop33 : copF Try.prog raws [] 33 = some ir33 := by kernel_rfl
/-- tenterhook/op.names -/
def ir34 : F := ⟨2, [.t 0],
 (.seq (.ops none [⟨some 0, .mv (.c (.nil)), none⟩])
  (.seq (.ops none [⟨some 1, .bslice 1 111 [.str ⟨#[]⟩] [(0, (.c (.str ⟨#[40, 76, 73, 84, 41]⟩))), (1, (.c (.str ⟨#[40, 66, 82, 65, 78, 67, 72, 41]⟩))), (2, (.c (.str ⟨#[40, 48, 66, 82, 65, 78, 67, 72, 41]⟩))), (3, (.c (.str ⟨#[40, 67, 65, 76, 76, 41]⟩))), (4, (.c (.str ⟨#[69, 88, 73, 84]⟩))), (5, (.c (.str ⟨#[40, 68, 79, 41]⟩))), (6, (.c (.str ⟨#[40, 63, 68, 79, 41]⟩))), (7, (.c (.str ⟨#[40, 76, 79, 79, 80, 41]⟩))), (8, (.c (.str ⟨#[40, 43, 76, 79, 79, 80, 41]⟩))), (9, (.c (.str ⟨#[85, 78, 76, 79, 79, 80]⟩))), (10, (.c (.str ⟨#[73]⟩))), (11, (.c (.str ⟨#[74]⟩))), (12, (.c (.str ⟨#[62, 82]⟩))), (13, (.c (.str ⟨#[82, 62]⟩))), (14, (.c (.str ⟨#[82, 64]⟩))), (15, (.c (.str ⟨#[69, 88, 69, 67, 85, 84, 69]⟩))), (16, (.c (.str ⟨#[67, 65, 84, 67, 72]⟩))), (17, (.c (.str ⟨#[84, 72, 82, 79, 87]⟩))), (18, (.c (.str ⟨#[68, 85, 80]⟩))), (19, (.c (.str ⟨#[68, 82, 79, 80]⟩))), (20, (.c (.str ⟨#[83, 87, 65, 80]⟩))), (21, (.c (.str ⟨#[79, 86, 69, 82]⟩))), (22, (.c (.str ⟨#[82, 79, 84]⟩))), (23, (.c (.str ⟨#[78, 73, 80]⟩))), (24, (.c (.str ⟨#[84, 85, 67, 75]⟩))), (25, (.c (.str ⟨#[50, 68, 85, 80]⟩))), (26, (.c (.str ⟨#[50, 68, 82, 79, 80]⟩))), (27, (.c (.str ⟨#[50, 83, 87, 65, 80]⟩))), (28, (.c (.str ⟨#[50, 79, 86, 69, 82]⟩))), (29, (.c (.str ⟨#[63, 68, 85, 80]⟩))), (30, (.c (.str ⟨#[80, 73, 67, 75]⟩))), (31, (.c (.str ⟨#[82, 79, 76, 76]⟩))), (32, (.c (.str ⟨#[68, 69, 80, 84, 72]⟩))), (33, (.c (.str ⟨#[43]⟩))), (34, (.c (.str ⟨#[45]⟩))), (35, (.c (.str ⟨#[42]⟩))), (36, (.c (.str ⟨#[47]⟩))), (37, (.c (.str ⟨#[77, 79, 68]⟩))), (38, (.c (.str ⟨#[47, 77, 79, 68]⟩))), (39, (.c (.str ⟨#[42, 47]⟩))), (40, (.c (.str ⟨#[42, 47, 77, 79, 68]⟩))), (41, (.c (.str ⟨#[49, 43]⟩))), (42, (.c (.str ⟨#[49, 45]⟩))), (43, (.c (.str ⟨#[50, 42]⟩))), (44, (.c (.str ⟨#[50, 47]⟩))), (45, (.c (.str ⟨#[78, 69, 71, 65, 84, 69]⟩))), (46, (.c (.str ⟨#[65, 66, 83]⟩))), (47, (.c (.str ⟨#[77, 73, 78]⟩))), (48, (.c (.str ⟨#[77, 65, 88]⟩))), (49, (.c (.str ⟨#[65, 78, 68]⟩))), (50, (.c (.str ⟨#[79, 82]⟩))), (51, (.c (.str ⟨#[88, 79, 82]⟩))), (52, (.c (.str ⟨#[73, 78, 86, 69, 82, 84]⟩))), (53, (.c (.str ⟨#[76, 83, 72, 73, 70, 84]⟩))), (54, (.c (.str ⟨#[82, 83, 72, 73, 70, 84]⟩))), (55, (.c (.str ⟨#[61]⟩))), (56, (.c (.str ⟨#[60, 62]⟩))), (57, (.c (.str ⟨#[60]⟩))), (58, (.c (.str ⟨#[62]⟩))), (59, (.c (.str ⟨#[85, 60]⟩))), (60, (.c (.str ⟨#[48, 61]⟩))), (61, (.c (.str ⟨#[48, 60]⟩))), (62, (.c (.str ⟨#[87, 73, 84, 72, 73, 78]⟩))), (63, (.c (.str ⟨#[85, 77, 42]⟩))), (64, (.c (.str ⟨#[77, 42]⟩))), (65, (.c (.str ⟨#[85, 77, 47, 77, 79, 68]⟩))), (66, (.c (.str ⟨#[70, 77, 47, 77, 79, 68]⟩))), (67, (.c (.str ⟨#[83, 77, 47, 82, 69, 77]⟩))), (68, (.c (.str ⟨#[83, 62, 68]⟩))), (69, (.c (.str ⟨#[68, 43]⟩))), (70, (.c (.str ⟨#[68, 78, 69, 71, 65, 84, 69]⟩))), (71, (.c (.str ⟨#[67, 69, 76, 76, 83]⟩))), (72, (.c (.str ⟨#[67, 69, 76, 76, 43]⟩))), (73, (.c (.str ⟨#[67, 72, 65, 82, 43]⟩))), (74, (.c (.str ⟨#[65, 76, 73, 71, 78, 69, 68]⟩))), (75, (.c (.str ⟨#[64]⟩))), (76, (.c (.str ⟨#[33]⟩))), (77, (.c (.str ⟨#[67, 64]⟩))), (78, (.c (.str ⟨#[67, 33]⟩))), (79, (.c (.str ⟨#[43, 33]⟩))), (80, (.c (.str ⟨#[70, 73, 76, 76]⟩))), (81, (.c (.str ⟨#[77, 79, 86, 69]⟩))), (82, (.c (.str ⟨#[67, 65, 83]⟩))), (83, (.c (.str ⟨#[69, 77, 73, 84]⟩))), (84, (.c (.str ⟨#[84, 89, 80, 69]⟩))), (85, (.c (.str ⟨#[46]⟩))), (86, (.c (.str ⟨#[85, 46]⟩))), (87, (.c (.str ⟨#[67, 82]⟩))), (88, (.c (.str ⟨#[83, 80, 65, 67, 69]⟩))), (89, (.c (.str ⟨#[60, 35]⟩))), (90, (.c (.str ⟨#[35]⟩))), (91, (.c (.str ⟨#[35, 83]⟩))), (92, (.c (.str ⟨#[72, 79, 76, 68]⟩))), (93, (.c (.str ⟨#[83, 73, 71, 78]⟩))), (94, (.c (.str ⟨#[35, 62]⟩))), (95, (.c (.str ⟨#[66, 65, 83, 69]⟩))), (96, (.c (.str ⟨#[68, 69, 67, 73, 77, 65, 76]⟩))), (97, (.c (.str ⟨#[72, 69, 88]⟩))), (98, (.c (.str ⟨#[77, 69]⟩))), (99, (.c (.str ⟨#[84, 73, 67, 75, 83]⟩))), (100, (.c (.str ⟨#[80, 65, 85, 83, 69]⟩))), (101, (.c (.str ⟨#[83, 76, 69, 69, 80]⟩))), (102, (.c (.str ⟨#[66, 89, 69]⟩))), (103, (.c (.str ⟨#[78, 79, 84, 69]⟩))), (104, (.c (.str ⟨#[67, 82, 69, 65, 84, 69]⟩))), (105, (.c (.str ⟨#[40, 68, 79, 69, 83, 41]⟩))), (106, (.c (.str ⟨#[72, 69, 82, 69]⟩))), (107, (.c (.str ⟨#[65, 76, 76, 79, 84]⟩))), (108, (.c (.str ⟨#[44]⟩))), (109, (.c (.str ⟨#[67, 79, 77, 80, 73, 76, 69, 44]⟩))), (110, (.c (.str ⟨#[73, 77, 77, 69, 68, 73, 65, 84, 69]⟩)))], none⟩,
    ⟨some 0, .mv (.t 1), none⟩])
   .ret))⟩
theorem cop34 : copF Try.prog raws [] 34 = some ir34 := by kernel_rfl
/-- strings.HasPrefix -/
def ir35 : F := ⟨8, [.t 4],
 (.seq (.ops none [⟨some 4, .mv (.c (.bool false)), none⟩])
  (.seq (.ops none [⟨some 5, .mv (.t 0), none⟩,
    ⟨some 6, .mv (.t 1), none⟩,
    ⟨some 7, .call 46 true [] [(.t 5), (.t 6)], none⟩,
    ⟨some 4, .mv (.t 7), none⟩])
   .ret))⟩
theorem cop35 : copF Try.prog raws [] 35 = some ir35 := by kernel_rfl
/-- tenterhook/dict.within -/
def ir36 : F := ⟨12, [.t 4],
 (.seq (.ops none [⟨some 4, .mv (.c (.bool false)), none⟩])
  (.seq (.ops none [⟨some 5, .mv (.t 0), none⟩,
    ⟨some 6, .bin .geq (.t 5) (.c (.int .i64 0)), none⟩,
    ⟨some 7, .mv (.t 6), none⟩,
    ⟨some 8, .mv (.t 0), some (7, true)⟩,
    ⟨some 9, .mv (.t 1), some (7, true)⟩,
    ⟨some 10, .bin .leq (.t 8) (.t 9), some (7, true)⟩,
    ⟨some 11, .pick (.t 7) (.t 10) (.c (.bool false)), none⟩,
    ⟨some 4, .mv (.t 11), none⟩])
   .ret))⟩
theorem cop36 : copF Try.prog raws [] 36 = some ir36 := by kernel_rfl
/-- tenterhook/dict.named -/
def ir37 : F := ⟨17, [.t 2],
 (.seq (.ops none [⟨some 2, .mv (.c (.bool false)), none⟩])
  (.seq (.ops none [⟨some 3, .mv (.t 0), none⟩,
    ⟨some 4, .call 39 true [] [(.t 3)], none⟩,
    ⟨some 5, .mv (.t 4), none⟩,
    ⟨some 6, .mv (.t 0), some (5, true)⟩,
    ⟨some 7, .call 22 true [] [(.t 6)], some (5, true)⟩,
    ⟨some 8, .mv (.t 0), some (5, true)⟩,
    ⟨some 9, .bin .eql (.t 7) (.t 8), some (5, true)⟩,
    ⟨some 10, .pick (.t 5) (.t 9) (.c (.bool false)), none⟩,
    ⟨some 11, .mv (.t 10), none⟩,
    ⟨some 12, .mv (.t 0), some (11, true)⟩,
    ⟨some 13, .s2b (.t 12), some (11, true)⟩,
    ⟨some 14, .call 47 true [] [(.t 13), (.c (.fn 48 [] []))], some (11, true)⟩,
    ⟨some 15, .un .not (.t 14), some (11, true)⟩,
    ⟨some 16, .pick (.t 11) (.t 15) (.c (.bool false)), none⟩,
    ⟨some 2, .mv (.t 16), none⟩])
   .ret))⟩
theorem cop37 : copF Try.prog raws [] 37 = some ir37 := by kernel_rfl
/-- tenterhook/dict.visible -/
def ir38 : F := ⟨10, [.t 2],
 (.seq (.ops none [⟨some 2, .mv (.c (.bool false)), none⟩])
  (.seq (.ops none [⟨some 3, .mv (.t 0), none⟩,
    ⟨some 4, .call 36 true [] [(.t 3), (.c (.int .i64 110))], none⟩,
    ⟨some 5, .mv (.t 4), none⟩,
    ⟨some 6, .mv (.t 0), some (5, true)⟩,
    ⟨some 7, .call 13 true [] [(.t 6)], some (5, true)⟩,
    ⟨some 8, .un .not (.t 7), some (5, true)⟩,
    ⟨some 9, .pick (.t 5) (.t 8) (.c (.bool false)), none⟩,
    ⟨some 2, .mv (.t 9), none⟩])
   .ret))⟩
theorem cop38 : copF Try.prog raws [] 38 = some ir38 := by kernel_rfl
/-- tenterhook/dict.sized -/
def ir39 : F := ⟨10, [.t 2],
 (.seq (.ops none [⟨some 2, .mv (.c (.bool false)), none⟩])
  (.seq (.ops none [⟨some 3, .mv (.t 0), none⟩,
    ⟨some 4, .bin .neq (.t 3) (.c (.str ⟨#[]⟩)), none⟩,
    ⟨some 5, .mv (.t 4), none⟩,
    ⟨some 6, .mv (.t 0), some (5, true)⟩,
    ⟨some 7, .len true (.t 6), some (5, true)⟩,
    ⟨some 8, .bin .leq (.t 7) (.c (.int .i64 31)), some (5, true)⟩,
    ⟨some 9, .pick (.t 5) (.t 8) (.c (.bool false)), none⟩,
    ⟨some 2, .mv (.t 9), none⟩])
   .ret))⟩
theorem cop39 : copF Try.prog raws [] 39 = some ir39 := by kernel_rfl
/-- slices.Clone[[]tenterhook/dict.Entry,tenterhook/dict.Entry] -/
def ir40 : F := ⟨8, [.t 2],
 (.seq (.ops none [⟨some 2, .mv (.c (.nil)), none⟩])
  (.seq (.seq (.ops none [⟨some 3, .mv (.t 0), none⟩,
     ⟨some 4, .eqNil false false (.t 3), none⟩])
    (.cond (.t 4)
     (.seq (.ops none [⟨some 2, .mv (.c (.nil)), none⟩])
      .ret)
     .skip))
   (.seq (.ops none [⟨some 5, .bslice 6 0 [.str ⟨#[]⟩, .bool false, .int .i64 0, .int .i64 0, .int .i64 0, .int .i64 0] [], none⟩,
     ⟨some 6, .mv (.t 0), none⟩,
     ⟨some 7, .append 6 (.t 5) (.t 6), none⟩,
     ⟨some 2, .mv (.t 7), none⟩])
    .ret)))⟩
theorem cop40 : copF Try.prog raws [] 40 = some ir40 := by kernel_rfl
/-- tenterhook/scan.capital -/
def ir41 : F := ⟨13, [.t 2],
 (.seq (.ops none [⟨some 2, .mv (.c (.int .u8 0)), none⟩])
  (.seq (.seq (.ops none [⟨some 3, .mv (.t 0), none⟩,
     ⟨some 4, .bin .geq (.t 3) (.c (.int .u8 97)), none⟩,
     ⟨some 5, .mv (.t 4), none⟩,
     ⟨some 6, .mv (.t 0), some (5, true)⟩,
     ⟨some 7, .bin .leq (.t 6) (.c (.int .u8 122)), some (5, true)⟩,
     ⟨some 8, .pick (.t 5) (.t 7) (.c (.bool false)), none⟩])
    (.cond (.t 8)
     (.seq (.ops none [⟨some 9, .mv (.t 0), none⟩,
       ⟨some 10, .bin .sub (.t 9) (.c (.int .u8 97)), none⟩,
       ⟨some 11, .bin .add (.t 10) (.c (.int .u8 65)), none⟩,
       ⟨some 2, .mv (.t 11), none⟩])
      .ret)
     .skip))
   (.seq (.ops none [⟨some 12, .mv (.t 0), none⟩,
     ⟨some 2, .mv (.t 12), none⟩])
    .ret)))⟩
theorem cop41 : copF Try.prog raws [] 41 = some ir41 := by kernel_rfl
/-- tenterhook/tenterhookref06.Upper -/
def ir42 : F := ⟨35, [.t 2],
 (.seq (.ops none [⟨some 2, .mv (.c (.str ⟨#[]⟩)), none⟩])
  (.seq (.ops none [⟨some 5, .mv (.t 0), none⟩,
    ⟨some 6, .s2b (.t 5), none⟩,
    ⟨some 3, .mv (.t 6), none⟩])
   (.seq (.seq (.ops none [⟨some 4, .mv (.c (.int .i64 0)), none⟩])
     (.block 0 (.loop [3, 4] []
       (.seq (.seq (.ops none [⟨some 7, .mv (.t 4), none⟩,
          ⟨some 8, .mv (.t 3), none⟩,
          ⟨some 9, .len false (.t 8), none⟩,
          ⟨some 10, .bin .lss (.t 7) (.t 9), none⟩])
         (.cond (.t 10)
          .skip
          (.exit 0)))
        (.seq (.block 1 (.seq (.ops none [⟨some 13, .mv (.t 3), none⟩,
            ⟨some 14, .mv (.t 4), none⟩,
            ⟨some 15, .iaddr 1 (.t 13) (.t 14), none⟩,
            ⟨some 16, .load false 1 (.t 15), none⟩,
            ⟨some 17, .bin .geq (.t 16) (.c (.int .u8 97)), none⟩,
            ⟨some 18, .mv (.t 17), none⟩,
            ⟨some 19, .mv (.t 3), some (18, true)⟩,
            ⟨some 20, .mv (.t 4), some (18, true)⟩,
            ⟨some 21, .iaddr 1 (.t 19) (.t 20), some (18, true)⟩,
            ⟨some 22, .load false 1 (.t 21), some (18, true)⟩,
            ⟨some 23, .bin .leq (.t 22) (.c (.int .u8 122)), some (18, true)⟩,
            ⟨some 24, .pick (.t 18) (.t 23) (.c (.bool false)), none⟩])
           (.cond (.t 24)
            (.ops none [⟨some 25, .mv (.t 3), none⟩,
             ⟨some 26, .mv (.t 4), none⟩,
             ⟨some 27, .mv (.t 3), none⟩,
             ⟨some 28, .mv (.t 4), none⟩,
             ⟨some 29, .iaddr 1 (.t 27) (.t 28), none⟩,
             ⟨some 30, .load false 1 (.t 29), none⟩,
             ⟨some 31, .bin .sub (.t 30) (.c (.int .u8 32)), none⟩,
             ⟨some 32, .iaddr 1 (.t 25) (.t 26), none⟩,
             ⟨none, .store 1 (.t 32) (.t 31), none⟩])
            .skip)))
         (.ops none [⟨some 11, .mv (.t 4), none⟩,
          ⟨some 12, .bin .add (.t 11) (.c (.int .i64 1)), none⟩,
          ⟨some 4, .mv (.t 12), none⟩]))))))
    (.seq (.ops none [⟨some 33, .mv (.t 3), none⟩,
      ⟨some 34, .b2s (.t 33), none⟩,
      ⟨some 2, .mv (.t 34), none⟩])
     .ret))))⟩
theorem cop42 : copF Try.prog raws [([3, 4], [])] 42 = some ir42 := by kernel_rfl
/-- tenterhook/tenterhookref11.named -/
def ir43 : F := ⟨28, [.t 2],
 (.seq (.ops none [⟨some 2, .mv (.c (.bool false)), none⟩])
  (.seq (.seq (.ops none [⟨some 3, .mv (.c (.int .i64 0)), none⟩])
    (.block 0 (.loop [0, 3] []
      (.seq (.seq (.ops none [⟨some 4, .mv (.t 3), none⟩,
         ⟨some 5, .mv (.t 0), none⟩,
         ⟨some 6, .len true (.t 5), none⟩,
         ⟨some 7, .bin .lss (.t 4) (.t 6), none⟩])
        (.cond (.t 7)
         .skip
         (.exit 0)))
       (.seq (.block 1 (.seq (.ops none [⟨some 10, .mv (.t 0), none⟩,
           ⟨some 11, .mv (.t 3), none⟩,
           ⟨some 12, .index (.t 10) (.t 11), none⟩,
           ⟨some 13, .bin .leq (.t 12) (.c (.int .u8 32)), none⟩])
          (.cond (.t 13)
           (.seq (.ops none [⟨some 2, .mv (.c (.bool false)), none⟩])
            .ret)
           .skip)))
        (.ops none [⟨some 8, .mv (.t 3), none⟩,
         ⟨some 9, .bin .add (.t 8) (.c (.int .i64 1)), none⟩,
         ⟨some 3, .mv (.t 9), none⟩]))))))
   (.seq (.ops none [⟨some 14, .mv (.t 0), none⟩,
     ⟨some 15, .len true (.t 14), none⟩,
     ⟨some 16, .bin .geq (.t 15) (.c (.int .i64 1)), none⟩,
     ⟨some 17, .mv (.t 16), none⟩,
     ⟨some 18, .mv (.t 0), some (17, true)⟩,
     ⟨some 19, .len true (.t 18), some (17, true)⟩,
     ⟨some 20, .bin .leq (.t 19) (.c (.int .i64 31)), some (17, true)⟩,
     ⟨some 21, .pick (.t 17) (.t 20) (.c (.bool false)), none⟩,
     ⟨some 22, .mv (.t 21), none⟩,
     ⟨some 23, .mv (.t 0), some (22, true)⟩,
     ⟨some 24, .call 42 true [] [(.t 23)], some (22, true)⟩,
     ⟨some 25, .mv (.t 0), some (22, true)⟩,
     ⟨some 26, .bin .eql (.t 24) (.t 25), some (22, true)⟩,
     ⟨some 27, .pick (.t 22) (.t 26) (.c (.bool false)), none⟩,
     ⟨some 2, .mv (.t 27), none⟩])
    .ret)))⟩
theorem cop43 : copF Try.prog raws [([0, 3], [])] 43 = some ir43 := by kernel_rfl
/-- tenterhook/tenterhookref07.Hidden -/
def ir44 : F := ⟨14, [.t 2],
 (.seq (.ops none [⟨some 2, .mv (.c (.bool false)), none⟩])
  (.seq (.ops none [⟨some 4, .mv (.t 0), none⟩,
    ⟨some 5, .call 49 true [] [(.t 4)], none⟩,
    ⟨some 3, .mv (.t 5), none⟩])
   (.seq (.ops none [⟨some 6, .mv (.t 3), none⟩,
     ⟨some 7, .len true (.t 6), none⟩,
     ⟨some 8, .bin .gtr (.t 7) (.c (.int .i64 0)), none⟩,
     ⟨some 9, .mv (.t 8), none⟩,
     ⟨some 10, .mv (.t 3), some (9, true)⟩,
     ⟨some 11, .index (.t 10) (.c (.int .i64 0)), some (9, true)⟩,
     ⟨some 12, .bin .eql (.t 11) (.c (.int .u8 40)), some (9, true)⟩,
     ⟨some 13, .pick (.t 9) (.t 12) (.c (.bool false)), none⟩,
     ⟨some 2, .mv (.t 13), none⟩])
    .ret)))⟩
theorem cop44 : copF Try.prog raws [] 44 = some ir44 := by kernel_rfl
/-- slices.Backward[[]tenterhook/dict.Entry,tenterhook/dict.Entry]$1 -/
def ir45 : F := ⟨19, [],
 (.seq (.ops none [⟨some 4, .load false 1 (.t 1), none⟩,
   ⟨some 5, .len false (.t 4), none⟩,
   ⟨some 6, .bin .sub (.t 5) (.c (.int .i64 1)), none⟩,
   ⟨some 3, .mv (.t 6), none⟩])
  (.block 0 (.loop [0, 1, 3] []
    (.seq (.seq (.ops none [⟨some 7, .mv (.t 3), none⟩,
       ⟨some 8, .bin .geq (.t 7) (.c (.int .i64 0)), none⟩])
      (.cond (.t 8)
       .skip
       (.exit 0)))
     (.seq (.block 1 (.seq (.ops none [⟨some 11, .mv (.t 0), none⟩,
         ⟨some 12, .mv (.t 3), none⟩,
         ⟨some 13, .load false 1 (.t 1), none⟩,
         ⟨some 14, .mv (.t 3), none⟩,
         ⟨some 15, .iaddr 6 (.t 13) (.t 14), none⟩,
         ⟨some 16, .load true 6 (.t 15), none⟩,
         ⟨some 17, .callv false [] (.t 11) [(.t 12), (.t 16)], none⟩,
         ⟨some 18, .un .not (.t 17), none⟩])
        (.cond (.t 18)
         .ret
         .skip)))
      (.ops none [⟨some 9, .mv (.t 3), none⟩,
       ⟨some 10, .bin .sub (.t 9) (.c (.int .i64 1)), none⟩,
       ⟨some 3, .mv (.t 10), none⟩]))))))⟩
theorem cop45 : copF Try.prog raws [([0, 1, 3], [])] 45 = some ir45 := by kernel_rfl
/-- internal/stringslite.HasPrefix -/
def ir46 : F := ⟨18, [.t 4],
 (.seq (.ops none [⟨some 4, .mv (.c (.bool false)), none⟩])
  (.seq (.ops none [⟨some 5, .mv (.t 0), none⟩,
    ⟨some 6, .len true (.t 5), none⟩,
    ⟨some 7, .mv (.t 1), none⟩,
    ⟨some 8, .len true (.t 7), none⟩,
    ⟨some 9, .bin .geq (.t 6) (.t 8), none⟩,
    ⟨some 10, .mv (.t 9), none⟩,
    ⟨some 11, .mv (.t 0), some (10, true)⟩,
    ⟨some 12, .mv (.t 1), some (10, true)⟩,
    ⟨some 13, .len true (.t 12), some (10, true)⟩,
    ⟨some 14, .slice true 1 (.t 11) none (some (.t 13)) none, some (10, true)⟩,
    ⟨some 15, .mv (.t 1), some (10, true)⟩,
    ⟨some 16, .bin .eql (.t 14) (.t 15), some (10, true)⟩,
    ⟨some 17, .pick (.t 10) (.t 16) (.c (.bool false)), none⟩,
    ⟨some 4, .mv (.t 17), none⟩])
   .ret))⟩
theorem cop46 : copF Try.prog raws [] 46 = some ir46 := by kernel_rfl
/-- slices.ContainsFunc[[]byte,byte] -/
def ir47 : F := ⟨9, [.t 4],
 (.seq (.ops none [⟨some 4, .mv (.c (.bool false)), none⟩])
  (.seq (.ops none [⟨some 5, .mv (.t 0), none⟩,
    ⟨some 6, .mv (.t 1), none⟩,
    ⟨some 7, .call 50 true [] [(.t 5), (.t 6)], none⟩,
    ⟨some 8, .bin .geq (.t 7) (.c (.int .i64 0)), none⟩,
    ⟨some 4, .mv (.t 8), none⟩])
   .ret))⟩
theorem cop47 : copF Try.prog raws [] 47 = some ir47 := by kernel_rfl
/-- tenterhook/dict.named$1 -/
def ir48 : F := ⟨5, [.t 2],
 (.seq (.ops none [⟨some 2, .mv (.c (.bool false)), none⟩])
  (.seq (.ops none [⟨some 3, .mv (.t 0), none⟩,
    ⟨some 4, .bin .leq (.t 3) (.c (.int .u8 32)), none⟩,
    ⟨some 2, .mv (.t 4), none⟩])
   .ret))⟩
theorem cop48 : copF Try.prog raws [] 48 = some ir48 := by kernel_rfl
/-- tenterhook/tenterhookref07.Name -/
def ir49 : F := ⟨31, [.t 2],
 (.seq (.ops none [⟨some 2, .mv (.c (.str ⟨#[]⟩)), none⟩])
  (.seq (.seq (.ops none [⟨some 9, .mv (.t 0), none⟩,
     ⟨some 10, .call 51 true [] [(.t 9)], none⟩,
     ⟨some 11, .un .not (.t 10), none⟩])
    (.cond (.t 11)
     (.seq (.ops none [⟨some 2, .mv (.c (.str ⟨#[]⟩)), none⟩])
      .ret)
     .skip))
   (.seq (.ops none [⟨some 12, .call 52 true [] [], none⟩,
     ⟨some 13, .build [.str ⟨#[]⟩, .int .i64 0] [(0, 1, (.t 12))], none⟩,
     ⟨some 3, .alloc [.str ⟨#[]⟩, .int .i64 0], none⟩,
     ⟨none, .store 2 (.t 3) (.t 13), none⟩])
    (.seq (.seq (.ops none [⟨some 4, .mv (.c (.int .i64 0)), none⟩])
      (.block 0 (.loop [0, 3, 4] []
        (.seq (.seq (.ops none [⟨some 14, .mv (.t 4), none⟩,
           ⟨some 15, .mv (.t 0), none⟩,
           ⟨some 16, .bin .lss (.t 14) (.t 15), none⟩])
          (.cond (.t 16)
           .skip
           (.exit 0)))
         (.seq (.block 1 (.seq (.ops none [⟨some 20, .load true 2 (.t 3), none⟩,
             ⟨some 21, .call 53 true [] [(.t 20)], none⟩,
             ⟨some 19, .mv (.t 21), none⟩,
             ⟨some 22, .ext (.t 19) 0, none⟩,
             ⟨some 23, .ext (.t 19) 1, none⟩,
             ⟨some 6, .alloc [.str ⟨#[]⟩, .int .i64 0], none⟩,
             ⟨some 5, .mv (.t 22), none⟩,
             ⟨none, .store 2 (.t 6) (.t 23), none⟩])
            (.ops none [⟨some 24, .load true 2 (.t 6), none⟩,
             ⟨none, .store 2 (.t 3) (.t 24), none⟩])))
          (.ops none [⟨some 17, .mv (.t 4), none⟩,
           ⟨some 18, .bin .add (.t 17) (.c (.int .i64 1)), none⟩,
           ⟨some 4, .mv (.t 18), none⟩]))))))
     (.seq (.ops none [⟨some 26, .load true 2 (.t 3), none⟩,
       ⟨some 27, .call 53 true [] [(.t 26)], none⟩,
       ⟨some 25, .mv (.t 27), none⟩,
       ⟨some 28, .ext (.t 25) 0, none⟩,
       ⟨some 29, .ext (.t 25) 1, none⟩,
       ⟨some 8, .alloc [.str ⟨#[]⟩, .int .i64 0], none⟩,
       ⟨some 7, .mv (.t 28), none⟩,
       ⟨none, .store 2 (.t 8) (.t 29), none⟩])
      (.seq (.ops none [⟨some 30, .mv (.t 7), none⟩,
        ⟨some 2, .mv (.t 30), none⟩])
       .ret))))))⟩
theorem cop49 : copF Try.prog raws [([0, 3, 4], [])] 49 = some ir49 := by kernel_rfl
/-- slices.IndexFunc[[]byte,byte] -/
def ir50 : F := ⟨19, [.t 4],
 (.seq (.ops none [⟨some 4, .mv (.c (.int .i64 0)), none⟩])
  (.seq (.seq (.ops none [⟨some 6, .mv (.t 0), none⟩,
     ⟨some 7, .len false (.t 6), none⟩,
     ⟨some 8, .mv (.c (.int .i64 0)), none⟩])
    (.block 0 (.loop [0, 1, 7, 8] []
      (.seq (.ops none [⟨some 9, .bin .lss (.t 8) (.t 7), none⟩])
       (.seq (.cond (.t 9)
         .skip
         (.exit 0))
        (.seq (.block 1 (.seq (.ops none [⟨some 10, .mv (.t 8), none⟩,
            ⟨some 5, .mv (.t 10), none⟩])
           (.seq (.ops none [⟨some 11, .mv (.t 1), none⟩,
             ⟨some 12, .mv (.t 0), none⟩,
             ⟨some 13, .mv (.t 5), none⟩,
             ⟨some 14, .iaddr 1 (.t 12) (.t 13), none⟩,
             ⟨some 15, .load false 1 (.t 14), none⟩,
             ⟨some 16, .callv false [] (.t 11) [(.t 15)], none⟩])
            (.cond (.t 16)
             (.seq (.ops none [⟨some 17, .mv (.t 5), none⟩,
               ⟨some 4, .mv (.t 17), none⟩])
              .ret)
             .skip))))
         (.ops none [⟨some 18, .bin .add (.t 8) (.c (.int .i64 1)), none⟩,
          ⟨some 8, .mv (.t 18), none⟩])))))))
   (.seq (.ops none [⟨some 4, .mv (.c (.int .i64 (-1))), none⟩])
    .ret)))⟩
theorem cop50 : copF Try.prog raws [([0, 1, 7, 8], [])] 50 = some ir50 := by kernel_rfl
/-- tenterhook/tenterhookref07.in -/
def ir51 : F := ⟨9, [.t 2],
 (.seq (.ops none [⟨some 2, .mv (.c (.bool false)), none⟩])
  (.seq (.ops none [⟨some 3, .mv (.t 0), none⟩,
    ⟨some 4, .bin .geq (.t 3) (.c (.int .i64 0)), none⟩,
    ⟨some 5, .mv (.t 4), none⟩,
    ⟨some 6, .mv (.t 0), some (5, true)⟩,
    ⟨some 7, .bin .lss (.t 6) (.c (.int .i64 111)), some (5, true)⟩,
    ⟨some 8, .pick (.t 5) (.t 7) (.c (.bool false)), none⟩,
    ⟨some 2, .mv (.t 8), none⟩])
   .ret))⟩
theorem cop51 : copF Try.prog raws [] 51 = some ir51 := by kernel_rfl
/-- tenterhook/tenterhookref07.names -/
def ir52 : F := ⟨1, [.t 0],
 (.seq (.ops none [⟨some 0, .mv (.c (.str ⟨#[]⟩)), none⟩])
  (.seq (.ops none [⟨some 0, .mv (.c (.str ⟨#[40, 76, 73, 84, 41, 32, 40, 66, 82, 65, 78, 67, 72, 41, 32, 40, 48, 66, 82, 65, 78, 67, 72, 41, 32, 40, 67, 65, 76, 76, 41, 32, 69, 88, 73, 84, 32, 40, 68, 79, 41, 32, 40, 63, 68, 79, 41, 32, 40, 76, 79, 79, 80, 41, 32, 40, 43, 76, 79, 79, 80, 41, 32, 85, 78, 76, 79, 79, 80, 32, 73, 32, 74, 32, 62, 82, 32, 82, 62, 32, 82, 64, 32, 69, 88, 69, 67, 85, 84, 69, 32, 67, 65, 84, 67, 72, 32, 84, 72, 82, 79, 87, 32, 68, 85, 80, 32, 68, 82, 79, 80, 32, 83, 87, 65, 80, 32, 79, 86, 69, 82, 32, 82, 79, 84, 32, 78, 73, 80, 32, 84, 85, 67, 75, 32, 50, 68, 85, 80, 32, 50, 68, 82, 79, 80, 32, 50, 83, 87, 65, 80, 32, 50, 79, 86, 69, 82, 32, 63, 68, 85, 80, 32, 80, 73, 67, 75, 32, 82, 79, 76, 76, 32, 68, 69, 80, 84, 72, 32, 43, 32, 45, 32, 42, 32, 47, 32, 77, 79, 68, 32, 47, 77, 79, 68, 32, 42, 47, 32, 42, 47, 77, 79, 68, 32, 49, 43, 32, 49, 45, 32, 50, 42, 32, 50, 47, 32, 78, 69, 71, 65, 84, 69, 32, 65, 66, 83, 32, 77, 73, 78, 32, 77, 65, 88, 32, 65, 78, 68, 32, 79, 82, 32, 88, 79, 82, 32, 73, 78, 86, 69, 82, 84, 32, 76, 83, 72, 73, 70, 84, 32, 82, 83, 72, 73, 70, 84, 32, 61, 32, 60, 62, 32, 60, 32, 62, 32, 85, 60, 32, 48, 61, 32, 48, 60, 32, 87, 73, 84, 72, 73, 78, 32, 85, 77, 42, 32, 77, 42, 32, 85, 77, 47, 77, 79, 68, 32, 70, 77, 47, 77, 79, 68, 32, 83, 77, 47, 82, 69, 77, 32, 83, 62, 68, 32, 68, 43, 32, 68, 78, 69, 71, 65, 84, 69, 32, 67, 69, 76, 76, 83, 32, 67, 69, 76, 76, 43, 32, 67, 72, 65, 82, 43, 32, 65, 76, 73, 71, 78, 69, 68, 32, 64, 32, 33, 32, 67, 64, 32, 67, 33, 32, 43, 33, 32, 70, 73, 76, 76, 32, 77, 79, 86, 69, 32, 67, 65, 83, 32, 69, 77, 73, 84, 32, 84, 89, 80, 69, 32, 46, 32, 85, 46, 32, 67, 82, 32, 83, 80, 65, 67, 69, 32, 60, 35, 32, 35, 32, 35, 83, 32, 72, 79, 76, 68, 32, 83, 73, 71, 78, 32, 35, 62, 32, 66, 65, 83, 69, 32, 68, 69, 67, 73, 77, 65, 76, 32, 72, 69, 88, 32, 77, 69, 32, 84, 73, 67, 75, 83, 32, 80, 65, 85, 83, 69, 32, 83, 76, 69, 69, 80, 32, 66, 89, 69, 32, 78, 79, 84, 69, 32, 67, 82, 69, 65, 84, 69, 32, 40, 68, 79, 69, 83, 41, 32, 72, 69, 82, 69, 32, 65, 76, 76, 79, 84, 32, 44, 32, 67, 79, 77, 80, 73, 76, 69, 44, 32, 73, 77, 77, 69, 68, 73, 65, 84, 69]⟩)), none⟩])
   .ret))⟩
theorem cop52 : copF Try.prog raws [] 52 = some ir52 := by kernel_rfl
/-- tenterhook/tenterhookref06.Word -/
def ir53 : F := ⟨9, [.t 2, .cell 3 true 2],
 (.seq (.ops none [⟨some 1, .box (.t 0), none⟩,
   ⟨some 2, .mv (.c (.str ⟨#[]⟩)), none⟩,
   ⟨some 3, .alloc [.str ⟨#[]⟩, .int .i64 0], none⟩])
  (.seq (.ops none [⟨some 4, .load true 2 (.t 1), none⟩,
    ⟨some 5, .call 55 true [] [(.t 4)], none⟩,
    ⟨some 6, .call 54 true [] [(.t 5), (.c (.int .i64 32))], none⟩,
    ⟨some 7, .ext (.t 6) 0, none⟩,
    ⟨some 8, .ext (.t 6) 1, none⟩,
    ⟨some 2, .mv (.t 7), none⟩,
    ⟨none, .store 2 (.t 3) (.t 8), none⟩])
   .ret))⟩
theorem cop53 : copF Try.prog raws [] 53 = some ir53 := by kernel_rfl
/-- tenterhook/tenterhookref06.Parse -/
def ir54 : F := ⟨44, [.t 4, .cell 5 true 2],
 (.seq (.ops none [⟨some 2, .box (.t 0), none⟩,
   ⟨some 4, .mv (.c (.str ⟨#[]⟩)), none⟩,
   ⟨some 5, .alloc [.str ⟨#[]⟩, .int .i64 0], none⟩])
  (.seq (.ops none [⟨some 8, .load true 2 (.t 2), none⟩,
    ⟨some 9, .call 56 true [] [(.t 8)], none⟩,
    ⟨some 6, .mv (.t 9), none⟩])
   (.seq (.seq (.ops none [⟨some 10, .mv (.t 6), none⟩,
      ⟨some 7, .mv (.t 10), none⟩])
     (.block 0 (.loop [1, 2, 5, 6, 7] []
       (.seq (.seq (.ops none [⟨some 11, .mv (.t 7), none⟩,
          ⟨some 12, .faddr 0 (.t 2), none⟩,
          ⟨some 13, .load false 1 (.t 12), none⟩,
          ⟨some 14, .len true (.t 13), none⟩,
          ⟨some 15, .bin .lss (.t 11) (.t 14), none⟩])
         (.cond (.t 15)
          .skip
          (.exit 0)))
        (.seq (.block 1 (.seq (.ops none [⟨some 18, .faddr 0 (.t 2), none⟩,
            ⟨some 19, .load false 1 (.t 18), none⟩,
            ⟨some 20, .mv (.t 7), none⟩,
            ⟨some 21, .index (.t 19) (.t 20), none⟩,
            ⟨some 22, .mv (.t 1), none⟩,
            ⟨some 23, .call 57 true [] [(.t 21), (.t 22)], none⟩])
           (.cond (.t 23)
            (.seq (.ops (some []) [⟨some 24, .faddr 0 (.t 2), none⟩,
              ⟨some 25, .load false 1 (.t 24), none⟩,
              ⟨some 26, .mv (.t 6), none⟩,
              ⟨some 27, .mv (.t 7), none⟩,
              ⟨some 28, .slice true 1 (.t 25) (some (.t 26)) (some (.t 27)) none, none⟩,
              ⟨some 29, .faddr 0 (.t 2), none⟩,
              ⟨some 30, .load false 1 (.t 29), none⟩,
              ⟨some 31, .mv (.t 7), none⟩,
              ⟨some 32, .bin .add (.t 31) (.c (.int .i64 1)), none⟩,
              ⟨some 33, .build [.str ⟨#[]⟩, .int .i64 0] [(0, 1, (.t 30)), (1, 1, (.t 32))], none⟩,
              ⟨some 4, .mv (.t 28), none⟩,
              ⟨none, .store 2 (.t 5) (.t 33), none⟩])
             .ret)
            .skip)))
         (.ops none [⟨some 16, .mv (.t 7), none⟩,
          ⟨some 17, .bin .add (.t 16) (.c (.int .i64 1)), none⟩,
          ⟨some 7, .mv (.t 17), none⟩]))))))
    (.seq (.ops (some []) [⟨some 34, .faddr 0 (.t 2), none⟩,
      ⟨some 35, .load false 1 (.t 34), none⟩,
      ⟨some 36, .mv (.t 6), none⟩,
      ⟨some 37, .slice true 1 (.t 35) (some (.t 36)) none none, none⟩,
      ⟨some 38, .faddr 0 (.t 2), none⟩,
      ⟨some 39, .load false 1 (.t 38), none⟩,
      ⟨some 40, .faddr 0 (.t 2), none⟩,
      ⟨some 41, .load false 1 (.t 40), none⟩,
      ⟨some 42, .len true (.t 41), none⟩,
      ⟨some 43, .build [.str ⟨#[]⟩, .int .i64 0] [(0, 1, (.t 39)), (1, 1, (.t 42))], none⟩,
      ⟨some 4, .mv (.t 37), none⟩,
      ⟨none, .store 2 (.t 5) (.t 43), none⟩])
     .ret))))⟩
theorem cop54 : copF Try.prog raws [([1, 2, 5, 6, 7], [])] 54 = some ir54 := by kernel_rfl
/-- tenterhook/tenterhookref06.Skip -/
def ir55 : F := ⟨24, [.cell 2 true 2],
 (.seq (.ops none [⟨some 1, .box (.t 0), none⟩,
   ⟨some 2, .alloc [.str ⟨#[]⟩, .int .i64 0], none⟩])
  (.seq (.ops none [⟨some 4, .load true 2 (.t 1), none⟩,
    ⟨some 5, .call 56 true [] [(.t 4)], none⟩,
    ⟨some 3, .mv (.t 5), none⟩])
   (.seq (.block 0 (.loop [1, 2, 3] []
      (.seq (.seq (.ops none [⟨some 6, .mv (.t 3), none⟩,
         ⟨some 7, .faddr 0 (.t 1), none⟩,
         ⟨some 8, .load false 1 (.t 7), none⟩,
         ⟨some 9, .len true (.t 8), none⟩,
         ⟨some 10, .bin .lss (.t 6) (.t 9), none⟩,
         ⟨some 11, .mv (.t 10), none⟩,
         ⟨some 12, .faddr 0 (.t 1), some (11, true)⟩,
         ⟨some 13, .load false 1 (.t 12), some (11, true)⟩,
         ⟨some 14, .mv (.t 3), some (11, true)⟩,
         ⟨some 15, .index (.t 13) (.t 14), some (11, true)⟩,
         ⟨some 16, .bin .leq (.t 15) (.c (.int .u8 32)), some (11, true)⟩,
         ⟨some 17, .pick (.t 11) (.t 16) (.c (.bool false)), none⟩])
        (.cond (.t 17)
         .skip
         (.exit 0)))
       (.block 1 (.ops none [⟨some 18, .mv (.t 3), none⟩,
         ⟨some 19, .bin .add (.t 18) (.c (.int .i64 1)), none⟩,
         ⟨some 3, .mv (.t 19), none⟩])))))
    (.seq (.ops none [⟨some 20, .faddr 0 (.t 1), none⟩,
      ⟨some 21, .load false 1 (.t 20), none⟩,
      ⟨some 22, .mv (.t 3), none⟩,
      ⟨some 23, .build [.str ⟨#[]⟩, .int .i64 0] [(0, 1, (.t 21)), (1, 1, (.t 22))], none⟩,
      ⟨none, .store 2 (.t 2) (.t 23), none⟩])
     .ret))))⟩
theorem cop55 : copF Try.prog raws [([1, 2, 3], [])] 55 = some ir55 := by kernel_rfl
/-- tenterhook/tenterhookref06.at -/
def ir56 : F := ⟨10, [.t 2],
 (.seq (.ops none [⟨some 1, .box (.t 0), none⟩,
   ⟨some 2, .mv (.c (.int .i64 0)), none⟩])
  (.seq (.ops none [⟨some 3, .faddr 1 (.t 1), none⟩,
    ⟨some 4, .load false 1 (.t 3), none⟩,
    ⟨some 5, .faddr 0 (.t 1), none⟩,
    ⟨some 6, .load false 1 (.t 5), none⟩,
    ⟨some 7, .len true (.t 6), none⟩,
    ⟨some 8, .minmax false [(.t 4), (.t 7)], none⟩,
    ⟨some 9, .minmax true [(.c (.int .i64 0)), (.t 8)], none⟩,
    ⟨some 2, .mv (.t 9), none⟩])
   .ret))⟩
theorem cop56 : copF Try.prog raws [] 56 = some ir56 := by kernel_rfl
/-- tenterhook/tenterhookref06.is -/
def ir57 : F := ⟨17, [.t 4],
 (.seq (.ops none [⟨some 4, .mv (.c (.bool false)), none⟩])
  (.seq (.ops none [⟨some 5, .mv (.t 0), none⟩,
    ⟨some 6, .conv .i64 (.t 5), none⟩,
    ⟨some 7, .mv (.t 1), none⟩,
    ⟨some 8, .bin .eql (.t 6) (.t 7), none⟩,
    ⟨some 9, .mv (.t 8), none⟩,
    ⟨some 10, .mv (.t 1), some (9, false)⟩,
    ⟨some 11, .bin .eql (.t 10) (.c (.int .i64 32)), some (9, false)⟩,
    ⟨some 12, .mv (.t 11), some (9, false)⟩,
    ⟨some 13, .mv (.t 0), some (12, true)⟩,
    ⟨some 14, .bin .leq (.t 13) (.c (.int .u8 32)), some (12, true)⟩,
    ⟨some 15, .pick (.t 12) (.t 14) (.c (.bool false)), some (9, false)⟩,
    ⟨some 16, .pick (.t 9) (.c (.bool true)) (.t 15), none⟩,
    ⟨some 4, .mv (.t 16), none⟩])
   .ret))⟩
theorem cop57 : copF Try.prog raws [] 57 = some ir57 := by kernel_rfl
def tab : List (Nat × Def) := [(6, .pub ir6), (8, .pub ir8), (9, .pub ir9), (10, .pub ir10), (12, .pub ir12), (13, .pub ir13), (14, .pub ir14), (15, .pub ir15), (16, .pub ir16), (17, .pub ir17), (18, .pub ir18), (19, .pub ir19), (20, .pub ir20), (21, .pub ir21), (22, .pub ir22), (23, .pub ir23), (24, .pub ir24), (25, .pub ir25), (26, .pub ir26), (27, .pub ir27), (28, .pub ir28), (29, .pub ir29), (30, .pub ir30), (31, .pub ir31), (32, .body ir32), (33, .pub ir33), (34, .pub ir34), (35, .body ir35), (36, .pub ir36), (37, .pub ir37), (38, .pub ir38), (39, .pub ir39), (40, .body ir40), (41, .pub ir41), (42, .pub ir42), (43, .pub ir43), (44, .pub ir44), (45, .body ir45), (46, .body ir46), (47, .body ir47), (48, .body ir48), (49, .pub ir49), (50, .body ir50), (51, .pub ir51), (52, .pub ir52), (53, .pub ir53), (54, .pub ir54), (55, .pub ir55), (56, .pub ir56), (57, .pub ir57)]
def env0 : Env := fun f => tab.lookup f
theorem env0Ok : EnvOk Try.prog raws env0 := envOk_of (tab := tab) (by
  unfold tab
  exact List.forall_mem_cons.2 ⟨⟨_, cop6⟩, List.forall_mem_cons.2 ⟨⟨_, cop8⟩, List.forall_mem_cons.2 ⟨⟨_, cop9⟩, List.forall_mem_cons.2 ⟨⟨_, cop10⟩, List.forall_mem_cons.2 ⟨⟨_, cop12⟩, List.forall_mem_cons.2 ⟨⟨_, cop13⟩, List.forall_mem_cons.2 ⟨⟨_, cop14⟩, List.forall_mem_cons.2 ⟨⟨_, cop15⟩, List.forall_mem_cons.2 ⟨⟨_, cop16⟩, List.forall_mem_cons.2 ⟨⟨_, cop17⟩, List.forall_mem_cons.2 ⟨⟨_, cop18⟩, List.forall_mem_cons.2 ⟨⟨_, cop19⟩, List.forall_mem_cons.2 ⟨⟨_, cop20⟩, List.forall_mem_cons.2 ⟨⟨_, cop21⟩, List.forall_mem_cons.2 ⟨⟨_, cop22⟩, List.forall_mem_cons.2 ⟨⟨_, cop23⟩, List.forall_mem_cons.2 ⟨⟨_, cop24⟩, List.forall_mem_cons.2 ⟨⟨_, cop25⟩, List.forall_mem_cons.2 ⟨⟨_, cop26⟩, List.forall_mem_cons.2 ⟨⟨_, cop27⟩, List.forall_mem_cons.2 ⟨⟨_, cop28⟩, List.forall_mem_cons.2 ⟨⟨_, cop29⟩, List.forall_mem_cons.2 ⟨⟨_, cop30⟩, List.forall_mem_cons.2 ⟨⟨_, cop31⟩, List.forall_mem_cons.2 ⟨⟨_, cop32⟩, List.forall_mem_cons.2 ⟨⟨_, cop33⟩, List.forall_mem_cons.2 ⟨⟨_, cop34⟩, List.forall_mem_cons.2 ⟨⟨_, cop35⟩, List.forall_mem_cons.2 ⟨⟨_, cop36⟩, List.forall_mem_cons.2 ⟨⟨_, cop37⟩, List.forall_mem_cons.2 ⟨⟨_, cop38⟩, List.forall_mem_cons.2 ⟨⟨_, cop39⟩, List.forall_mem_cons.2 ⟨⟨_, cop40⟩, List.forall_mem_cons.2 ⟨⟨_, cop41⟩, List.forall_mem_cons.2 ⟨⟨_, cop42⟩, List.forall_mem_cons.2 ⟨⟨_, cop43⟩, List.forall_mem_cons.2 ⟨⟨_, cop44⟩, List.forall_mem_cons.2 ⟨⟨_, cop45⟩, List.forall_mem_cons.2 ⟨⟨_, cop46⟩, List.forall_mem_cons.2 ⟨⟨_, cop47⟩, List.forall_mem_cons.2 ⟨⟨_, cop48⟩, List.forall_mem_cons.2 ⟨⟨_, cop49⟩, List.forall_mem_cons.2 ⟨⟨_, cop50⟩, List.forall_mem_cons.2 ⟨⟨_, cop51⟩, List.forall_mem_cons.2 ⟨⟨_, cop52⟩, List.forall_mem_cons.2 ⟨⟨_, cop53⟩, List.forall_mem_cons.2 ⟨⟨_, cop54⟩, List.forall_mem_cons.2 ⟨⟨_, cop55⟩, List.forall_mem_cons.2 ⟨⟨_, cop56⟩, List.forall_mem_cons.2 ⟨⟨_, cop57⟩, List.forall_mem_nil _⟩⟩⟩⟩⟩⟩⟩⟩⟩⟩⟩⟩⟩⟩⟩⟩⟩⟩⟩⟩⟩⟩⟩⟩⟩⟩⟩⟩⟩⟩⟩⟩⟩⟩⟩⟩⟩⟩⟩⟩⟩⟩⟩⟩⟩⟩⟩⟩⟩⟩)
section
open Go.RowKit
set_option maxHeartbeats 4000000
set_option maxRecDepth 100000
theorem cl40n (cap : Nat) (w : World) : Calls Try.prog 40 #[.slice none 0 cap] w (fun e w' => e = .returned (.slice none 0 0) ∧ w' = w) := by
  have heq : ∀ (n c : Nat) (W : World), (binOp .eql 23 (.slice none n c) (.slice none 0 0)).run Try.prog W = .ok (.bool true) W := fun n c W => Go.Lib.run_eql_slice_nil W 23 35 none n c 0 0 Try.underlying23
  go_enter Try.func40, Try.ntmps40
  go_wp2
  go_ret
  exact ⟨rfl, rfl⟩
theorem cl40e (a : Addr) (cap : Nat) (w : World) : Calls Try.prog 40 #[.slice (some a) 0 cap] w (fun e w' => e = .returned (.slice (some ⟨w.heap.size, 0, none⟩) 0 0) ∧ w' = w.alloc (.cells #[] 35)) := by
  have heq : ∀ (n c : Nat) (W : World), (binOp .eql 23 (.slice (some a) n c) (.slice none 0 0)).run Try.prog W = .ok (.bool false) W := fun n c W => Go.Lib.run_eql_slice_nil W 23 35 (some a) n c 0 0 Try.underlying23
  go_enter Try.func40, Try.ntmps40
  go_wp2
  go_ret
  exact ⟨rfl, rfl⟩
end
noncomputable def envh : Env := fun n => if n = 40 then some (.prim (cloneG 6 (ev env0) 40)) else env0 n
theorem envhOk : EnvOk Try.prog raws envh := envOk_prim env0Ok ⟨Try.f40, _, Try.func40, rfl, by decide⟩ (clone_ok cl40n cl40e (ev_sound env0Ok))
theorem envhP40 : envh 40 = some (.prim (cloneG 6 (ev env0) 40)) := rfl
theorem envZ40 : env0 40 = some (.body ir40) := by kernel_rfl
end Go.Proofs.YtbgihgkobojfaaaR
