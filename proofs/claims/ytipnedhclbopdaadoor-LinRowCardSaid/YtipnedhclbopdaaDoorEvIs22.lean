/- EvIs22: a part of the proof. -/
import Derived.Test.YtipnedhclbopdaaDoorEv5
import Derived.Test.YtipnedhclbopdaaDoorEv4
import Derived.Test.YtipnedhclbopdaaDoorEvCln2
import Derived.Test.YtipnedhclbopdaaDoorEvOwn
import Derived.WalkKit
import Derived.WalkSpells
import Derived.Test.YtipnedhclbopdaaDoorRows
import Derived.KernelRfl
set_option linter.unusedVariables false
set_option linter.unusedSimpArgs false
set_option maxRecDepth 20000
namespace Go.Proofs.YtipnedhclbopdaaDoorR
open Go Go.Proofs.YtipnedhclbopdaaDoorEv Go.Proofs
def raws : Nat → List Bool := fun f => ([] : List (Nat × List Bool)).lookup f |>.getD []
/-- tenterhook/tenterhooklaw22.LinIs -/
def ir3 : F := ⟨93, [.t 10],
 (.seq (.ops none [⟨some 10, .mv (.c (.bool false)), none⟩])
  (.seq (.ops none [⟨some 17, .call 9 true [] [], none⟩,
    ⟨some 11, .mv (.t 17), none⟩])
   (.seq (.seq (.ops none [⟨some 18, .mv (.t 0), none⟩,
      ⟨some 19, .len false (.t 18), none⟩,
      ⟨some 20, .bin .gtr (.t 19) (.c (.int .i64 30)), none⟩,
      ⟨some 21, .mv (.t 20), none⟩,
      ⟨some 22, .mv (.t 2), some (21, false)⟩,
      ⟨some 23, .len false (.t 22), some (21, false)⟩,
      ⟨some 24, .bin .gtr (.t 23) (.c (.int .i64 60)), some (21, false)⟩,
      ⟨some 25, .pick (.t 21) (.c (.bool true)) (.t 24), none⟩,
      ⟨some 26, .mv (.t 25), none⟩,
      ⟨some 27, .mv (.t 3), some (26, false)⟩,
      ⟨some 28, .len false (.t 27), some (26, false)⟩,
      ⟨some 29, .bin .gtr (.t 28) (.c (.int .i64 60)), some (26, false)⟩,
      ⟨some 30, .pick (.t 26) (.c (.bool true)) (.t 29), none⟩])
     (.cond (.t 30)
      (.seq (.ops none [⟨some 31, .mv (.t 11), none⟩,
        ⟨some 10, .mv (.t 31), none⟩])
       .ret)
      .skip))
    (.seq (.ops none [⟨some 32, .mv (.t 4), none⟩,
      ⟨some 33, .build [.int .i64 0, .int .i64 0, .int .i64 0, .int .i64 0, .bool false, .int .i64 0, .int .i64 0] [(2, 1, (.t 32)), (6, 1, (.c (.int .i64 1))), (4, 1, (.c (.bool true)))], none⟩,
      ⟨some 12, .alloc [.int .i64 0, .int .i64 0, .int .i64 0, .int .i64 0, .bool false, .int .i64 0, .int .i64 0], none⟩,
      ⟨none, .store 7 (.t 12) (.t 33), none⟩])
     (.seq (.seq (.ops none [⟨some 34, .mv (.t 0), none⟩,
        ⟨some 35, .len false (.t 34), none⟩,
        ⟨some 36, .bin .gtr (.t 35) (.c (.int .i64 0)), none⟩])
       (.cond (.t 36)
        (.ops none [⟨some 37, .mv (.t 0), none⟩,
         ⟨some 38, .mv (.t 4), none⟩,
         ⟨some 39, .bin .and (.t 38) (.c (.int .i64 65535)), none⟩,
         ⟨some 40, .mv (.t 0), none⟩,
         ⟨some 41, .len false (.t 40), none⟩,
         ⟨some 42, .bin .rem (.t 39) (.t 41), none⟩,
         ⟨some 43, .iaddr 7 (.t 37) (.t 42), none⟩,
         ⟨some 44, .load true 7 (.t 43), none⟩,
         ⟨none, .store 7 (.t 12) (.t 44), none⟩])
        .skip))
      (.seq (.ops none [⟨some 46, .mv (.t 2), none⟩,
        ⟨some 47, .load true 7 (.t 12), none⟩,
        ⟨some 48, .call 11 true [] [(.t 47)], none⟩,
        ⟨some 49, .mv (.t 1), none⟩,
        ⟨some 50, .call 10 false [] [(.t 46), (.t 48), (.t 49)], none⟩,
        ⟨some 45, .mv (.t 50), none⟩,
        ⟨some 51, .ext (.t 45) 0, none⟩,
        ⟨some 52, .ext (.t 45) 1, none⟩,
        ⟨some 13, .mv (.t 51), none⟩,
        ⟨some 14, .mv (.t 52), none⟩])
       (.seq (.ops none [⟨some 54, .mv (.t 2), none⟩,
         ⟨some 55, .load true 7 (.t 12), none⟩,
         ⟨some 56, .mv (.t 1), none⟩,
         ⟨some 57, .call 12 false [] [(.t 54), (.t 55), (.t 56)], none⟩,
         ⟨some 53, .mv (.t 57), none⟩,
         ⟨some 58, .ext (.t 53) 0, none⟩,
         ⟨some 59, .ext (.t 53) 1, none⟩,
         ⟨some 15, .mv (.t 58), none⟩,
         ⟨some 16, .mv (.t 59), none⟩])
        (.seq (.ops none [⟨some 60, .mv (.t 11), none⟩,
          ⟨some 61, .mv (.t 60), none⟩,
          ⟨some 62, .mv (.t 0), some (61, true)⟩,
          ⟨some 63, .call 14 false [] [(.t 62)], some (61, true)⟩,
          ⟨some 64, .mv (.t 1), some (61, true)⟩,
          ⟨some 65, .call 13 true [] [(.t 63), (.t 64)], some (61, true)⟩,
          ⟨some 66, .mv (.t 0), some (61, true)⟩,
          ⟨some 67, .mv (.t 1), some (61, true)⟩,
          ⟨some 68, .call 15 true [] [(.t 66), (.t 67)], some (61, true)⟩,
          ⟨some 69, .bin .eql (.t 65) (.t 68), some (61, true)⟩,
          ⟨some 70, .pick (.t 61) (.t 69) (.c (.bool false)), none⟩,
          ⟨some 71, .mv (.t 70), none⟩,
          ⟨some 72, .mv (.t 13), some (71, true)⟩,
          ⟨some 73, .mv (.t 15), some (71, true)⟩,
          ⟨some 74, .call 16 true [] [(.t 72), (.t 73)], some (71, true)⟩,
          ⟨some 75, .pick (.t 71) (.t 74) (.c (.bool false)), none⟩,
          ⟨some 76, .mv (.t 75), none⟩,
          ⟨some 77, .mv (.t 14), some (76, true)⟩,
          ⟨some 78, .mv (.t 16), some (76, true)⟩,
          ⟨some 79, .eqB false (.t 77) (.t 78), some (76, true)⟩,
          ⟨some 80, .pick (.t 76) (.t 79) (.c (.bool false)), none⟩,
          ⟨some 81, .mv (.t 80), none⟩,
          ⟨some 82, .mv (.t 0), some (81, true)⟩,
          ⟨some 83, .call 14 false [] [(.t 82)], some (81, true)⟩,
          ⟨some 84, .mv (.t 3), some (81, true)⟩,
          ⟨some 85, .mv (.t 4), some (81, true)⟩,
          ⟨some 86, .call 17 true [] [(.t 83), (.t 84), (.t 85)], some (81, true)⟩,
          ⟨some 87, .mv (.t 0), some (81, true)⟩,
          ⟨some 88, .mv (.t 3), some (81, true)⟩,
          ⟨some 89, .mv (.t 4), some (81, true)⟩,
          ⟨some 90, .call 18 true [] [(.t 87), (.t 88), (.t 89)], some (81, true)⟩,
          ⟨some 91, .eqB false (.t 86) (.t 90), some (81, true)⟩,
          ⟨some 92, .pick (.t 81) (.t 91) (.c (.bool false)), none⟩,
          ⟨some 10, .mv (.t 92), none⟩])
         .ret))))))))⟩
theorem cop3 : copF Tryd.prog raws [] 3 = some ir3 := by kernel_rfl
/-- tenterhook/tenterhooklaw22.LinRow -/
def ir4 : F := ⟨189, [.t 8],
 (.seq (.ops none [⟨some 8, .mv (.c (.bool false)), none⟩])
  (.seq (.ops none [⟨some 22, .call 9 true [] [], none⟩,
    ⟨some 9, .mv (.t 22), none⟩])
   (.seq (.seq (.ops none [⟨some 23, .mv (.t 0), none⟩,
      ⟨some 24, .len false (.t 23), none⟩,
      ⟨some 25, .bin .gtr (.t 24) (.c (.int .i64 8)), none⟩])
     (.cond (.t 25)
      (.seq (.ops none [⟨some 26, .mv (.t 9), none⟩,
        ⟨some 8, .mv (.t 26), none⟩])
       .ret)
      .skip))
    (.seq (.ops none [⟨some 27, .mv (.t 1), none⟩,
      ⟨some 28, .bin .and (.t 27) (.c (.int .i64 3)), none⟩,
      ⟨some 29, .bin .add (.c (.int .i64 1)) (.t 28), none⟩,
      ⟨some 10, .mv (.t 29), none⟩])
     (.seq (.ops none [⟨some 11, .mv (.c (.int .i64 0)), none⟩])
      (.seq (.ops none [⟨some 12, .mv (.c (.int .i64 1)), none⟩])
       (.seq (.seq (.ops none [⟨some 30, .mv (.t 2), none⟩])
         (.cond (.t 30)
          (.seq (.ops none [⟨some 11, .mv (.c (.int .i64 2)), none⟩])
           (.ops none [⟨some 12, .mv (.c (.int .i64 3)), none⟩]))
          .skip))
        (.seq (.ops none [⟨some 13, .mv (.c (.nil)), none⟩])
         (.seq (.ops none [⟨some 14, .mv (.c (.nil)), none⟩])
          (.seq (.seq (.ops none [⟨some 15, .mv (.c (.int .i64 0)), none⟩])
            (.block 0 (.loop [0, 2, 3, 9, 10, 11, 12, 13, 14, 15] [(13, none, 7)]
              (.seq (.seq (.ops none [⟨some 31, .mv (.t 15), none⟩,
                 ⟨some 32, .mv (.t 0), none⟩,
                 ⟨some 33, .len false (.t 32), none⟩,
                 ⟨some 34, .bin .lss (.t 31) (.t 33), none⟩])
                (.cond (.t 34)
                 .skip
                 (.exit 0)))
               (.seq (.block 1 (.seq (.ops none [⟨some 37, .mv (.t 0), none⟩,
                   ⟨some 38, .mv (.t 15), none⟩,
                   ⟨some 39, .iaddr 1 (.t 37) (.t 38), none⟩,
                   ⟨some 40, .load false 1 (.t 39), none⟩,
                   ⟨some 41, .bin .and (.t 40) (.c (.int .i64 65535)), none⟩,
                   ⟨some 16, .mv (.t 41), none⟩])
                  (.seq (.ops none [⟨some 42, .mv (.t 15), none⟩,
                    ⟨some 43, .bin .and (.t 42) (.c (.int .i64 3)), none⟩,
                    ⟨some 44, .mv (.t 11), none⟩,
                    ⟨some 45, .mv (.t 16), none⟩,
                    ⟨some 46, .mv (.t 15), none⟩,
                    ⟨some 47, .bin .mul (.c (.int .i64 2)) (.t 46), none⟩,
                    ⟨some 48, .mv (.t 15), none⟩,
                    ⟨some 49, .bin .mul (.c (.int .i64 2)) (.t 48), none⟩,
                    ⟨some 50, .bin .add (.t 49) (.c (.int .i64 1)), none⟩,
                    ⟨some 51, .build [.int .i64 0, .int .i64 0, .int .i64 0, .int .i64 0, .bool false, .int .i64 0, .int .i64 0] [(0, 1, (.t 43)), (1, 1, (.t 44)), (2, 1, (.t 45)), (5, 1, (.t 47)), (6, 1, (.t 50))], none⟩,
                    ⟨some 17, .alloc [.int .i64 0, .int .i64 0, .int .i64 0, .int .i64 0, .bool false, .int .i64 0, .int .i64 0], none⟩,
                    ⟨none, .store 7 (.t 17) (.t 51), none⟩])
                   (.seq (.seq (.ops none [⟨some 52, .mv (.t 16), none⟩,
                      ⟨some 53, .bin .and (.t 52) (.c (.int .i64 1)), none⟩,
                      ⟨some 54, .bin .eql (.t 53) (.c (.int .i64 0)), none⟩])
                     (.cond (.t 54)
                      (.ops none [⟨some 55, .mv (.t 15), none⟩,
                       ⟨some 56, .bin .and (.t 55) (.c (.int .i64 3)), none⟩,
                       ⟨some 57, .mv (.t 12), none⟩,
                       ⟨some 58, .mv (.t 15), none⟩,
                       ⟨some 59, .bin .mul (.c (.int .i64 2)) (.t 58), none⟩,
                       ⟨some 60, .mv (.t 15), none⟩,
                       ⟨some 61, .bin .mul (.c (.int .i64 2)) (.t 60), none⟩,
                       ⟨some 62, .bin .add (.t 61) (.c (.int .i64 1)), none⟩,
                       ⟨some 63, .build [.int .i64 0, .int .i64 0, .int .i64 0, .int .i64 0, .bool false, .int .i64 0, .int .i64 0] [(0, 1, (.t 56)), (1, 1, (.t 57)), (5, 1, (.t 59)), (6, 1, (.t 62))], none⟩,
                       ⟨none, .store 7 (.t 17) (.t 63), none⟩])
                      .skip))
                    (.seq (.ops none [⟨some 64, .mv (.t 16), none⟩,
                      ⟨some 65, .bin .and (.t 64) (.c (.int .i64 1)), none⟩,
                      ⟨some 66, .bin .eql (.t 65) (.c (.int .i64 1)), none⟩,
                      ⟨some 67, .mv (.t 66), none⟩,
                      ⟨some 68, .mv (.t 14), some (67, true)⟩,
                      ⟨some 69, .len false (.t 68), some (67, true)⟩,
                      ⟨some 70, .mv (.t 10), some (67, true)⟩,
                      ⟨some 71, .bin .lss (.t 69) (.t 70), some (67, true)⟩,
                      ⟨some 72, .pick (.t 67) (.t 71) (.c (.bool false)), none⟩,
                      ⟨some 73, .mv (.t 72), none⟩,
                      ⟨some 74, .mv (.t 16), some (73, false)⟩,
                      ⟨some 75, .bin .and (.t 74) (.c (.int .i64 1)), some (73, false)⟩,
                      ⟨some 76, .bin .eql (.t 75) (.c (.int .i64 0)), some (73, false)⟩,
                      ⟨some 77, .mv (.t 76), some (73, false)⟩,
                      ⟨some 78, .mv (.t 14), some (77, true)⟩,
                      ⟨some 79, .len false (.t 78), some (77, true)⟩,
                      ⟨some 80, .bin .gtr (.t 79) (.c (.int .i64 0)), some (77, true)⟩,
                      ⟨some 81, .pick (.t 77) (.t 80) (.c (.bool false)), some (73, false)⟩,
                      ⟨some 82, .pick (.t 73) (.c (.bool true)) (.t 81), none⟩,
                      ⟨some 83, .faddr 4 (.t 17), none⟩,
                      ⟨none, .store 1 (.t 83) (.t 82), none⟩])
                     (.seq (.seq (.ops none [⟨some 84, .mv (.t 16), none⟩,
                        ⟨some 85, .bin .and (.t 84) (.c (.int .i64 1)), none⟩,
                        ⟨some 86, .bin .eql (.t 85) (.c (.int .i64 0)), none⟩,
                        ⟨some 87, .mv (.t 86), none⟩,
                        ⟨some 88, .mv (.t 14), some (87, true)⟩,
                        ⟨some 89, .len false (.t 88), some (87, true)⟩,
                        ⟨some 90, .bin .gtr (.t 89) (.c (.int .i64 0)), some (87, true)⟩,
                        ⟨some 91, .pick (.t 87) (.t 90) (.c (.bool false)), none⟩])
                       (.cond (.t 91)
                        (.seq (.ops none [⟨some 92, .mv (.t 14), none⟩,
                          ⟨some 93, .iaddr 1 (.t 92) (.c (.int .i64 0)), none⟩,
                          ⟨some 94, .load false 1 (.t 93), none⟩,
                          ⟨some 95, .faddr 3 (.t 17), none⟩,
                          ⟨none, .store 1 (.t 95) (.t 94), none⟩])
                         (.seq (.ops none [⟨some 96, .mv (.t 2), none⟩,
                           ⟨some 97, .un .not (.t 96), none⟩])
                          (.cond (.t 97)
                           (.ops none [⟨some 98, .mv (.t 14), none⟩,
                            ⟨some 99, .mv (.t 14), none⟩,
                            ⟨some 100, .len false (.t 99), none⟩,
                            ⟨some 101, .bin .sub (.t 100) (.c (.int .i64 1)), none⟩,
                            ⟨some 102, .iaddr 1 (.t 98) (.t 101), none⟩,
                            ⟨some 103, .load false 1 (.t 102), none⟩,
                            ⟨some 104, .faddr 3 (.t 17), none⟩,
                            ⟨none, .store 1 (.t 104) (.t 103), none⟩])
                           .skip)))
                        .skip))
                      (.seq (.ops none [⟨some 106, .mv (.t 14), none⟩,
                        ⟨some 107, .load true 7 (.t 17), none⟩,
                        ⟨some 108, .mv (.t 10), none⟩,
                        ⟨some 109, .call 10 false [] [(.t 106), (.t 107), (.t 108)], none⟩,
                        ⟨some 105, .mv (.t 109), none⟩,
                        ⟨some 110, .ext (.t 105) 0, none⟩,
                        ⟨some 111, .ext (.t 105) 1, none⟩,
                        ⟨some 18, .mv (.t 110), none⟩,
                        ⟨some 19, .mv (.t 111), none⟩])
                       (.seq (.seq (.ops none [⟨some 112, .mv (.t 19), none⟩,
                          ⟨some 113, .un .not (.t 112), none⟩])
                         (.cond (.t 113)
                          (.seq (.ops none [⟨some 8, .mv (.c (.bool false)), none⟩])
                           .ret)
                          .skip))
                        (.seq (.ops none [⟨some 114, .mv (.t 18), none⟩,
                          ⟨some 14, .mv (.t 114), none⟩])
                         (.ops none [⟨some 115, .mv (.t 13), none⟩,
                          ⟨some 116, .load true 7 (.t 17), none⟩,
                          ⟨some 117, .bslice 7 1 [.int .i64 0, .int .i64 0, .int .i64 0, .int .i64 0, .bool false, .int .i64 0, .int .i64 0] [(0, (.t 116))], none⟩,
                          ⟨some 118, .append 7 (.t 115) (.t 117), none⟩,
                          ⟨some 13, .mv (.t 118), none⟩]))))))))))
                (.ops none [⟨some 35, .mv (.t 15), none⟩,
                 ⟨some 36, .bin .add (.t 35) (.c (.int .i64 1)), none⟩,
                 ⟨some 15, .mv (.t 36), none⟩]))))))
           (.seq (.seq (.ops none [⟨some 119, .mv (.t 13), none⟩,
              ⟨some 120, .mv (.t 10), none⟩,
              ⟨some 121, .call 13 true [] [(.t 119), (.t 120)], none⟩,
              ⟨some 122, .bin .neq (.t 121) (.c (.int .i64 1)), none⟩,
              ⟨some 123, .mv (.t 122), none⟩,
              ⟨some 124, .mv (.t 13), some (123, false)⟩,
              ⟨some 125, .len false (.t 124), some (123, false)⟩,
              ⟨some 126, .bin .eql (.t 125) (.c (.int .i64 0)), some (123, false)⟩,
              ⟨some 127, .pick (.t 123) (.c (.bool true)) (.t 126), none⟩])
             (.cond (.t 127)
              (.seq (.ops none [⟨some 128, .mv (.t 9), none⟩,
                ⟨some 129, .mv (.t 128), none⟩,
                ⟨some 130, .mv (.t 13), some (129, true)⟩,
                ⟨some 131, .len false (.t 130), some (129, true)⟩,
                ⟨some 132, .bin .eql (.t 131) (.c (.int .i64 0)), some (129, true)⟩,
                ⟨some 133, .pick (.t 129) (.t 132) (.c (.bool false)), none⟩,
                ⟨some 8, .mv (.t 133), none⟩])
               .ret)
              .skip))
            (.seq (.ops none [⟨some 134, .mv (.t 3), none⟩,
              ⟨some 135, .bin .and (.t 134) (.c (.int .i64 65535)), none⟩,
              ⟨some 136, .mv (.t 13), none⟩,
              ⟨some 137, .len false (.t 136), none⟩,
              ⟨some 138, .bin .rem (.t 135) (.t 137), none⟩,
              ⟨some 20, .mv (.t 138), none⟩])
             (.seq (.ops none [⟨some 139, .bslice 7 0 [.int .i64 0, .int .i64 0, .int .i64 0, .int .i64 0, .bool false, .int .i64 0, .int .i64 0] [], none⟩,
               ⟨some 140, .mv (.t 13), none⟩,
               ⟨some 141, .append 7 (.t 139) (.t 140), none⟩,
               ⟨some 21, .mv (.t 141), none⟩])
              (.seq (.ops (some []) [⟨some 142, .mv (.t 21), none⟩,
                ⟨some 143, .mv (.t 20), none⟩,
                ⟨some 144, .mv (.t 13), none⟩,
                ⟨some 145, .mv (.t 20), none⟩,
                ⟨some 146, .iaddr 7 (.t 144) (.t 145), none⟩,
                ⟨some 147, .faddr 0 (.t 146), none⟩,
                ⟨some 148, .load false 1 (.t 147), none⟩,
                ⟨some 149, .mv (.t 13), none⟩,
                ⟨some 150, .mv (.t 20), none⟩,
                ⟨some 151, .iaddr 7 (.t 149) (.t 150), none⟩,
                ⟨some 152, .faddr 1 (.t 151), none⟩,
                ⟨some 153, .load false 1 (.t 152), none⟩,
                ⟨some 154, .mv (.t 13), none⟩,
                ⟨some 155, .mv (.t 20), none⟩,
                ⟨some 156, .iaddr 7 (.t 154) (.t 155), none⟩,
                ⟨some 157, .faddr 2 (.t 156), none⟩,
                ⟨some 158, .load false 1 (.t 157), none⟩,
                ⟨some 159, .mv (.t 13), none⟩,
                ⟨some 160, .mv (.t 20), none⟩,
                ⟨some 161, .iaddr 7 (.t 159) (.t 160), none⟩,
                ⟨some 162, .faddr 3 (.t 161), none⟩,
                ⟨some 163, .load false 1 (.t 162), none⟩,
                ⟨some 164, .mv (.t 13), none⟩,
                ⟨some 165, .mv (.t 20), none⟩,
                ⟨some 166, .iaddr 7 (.t 164) (.t 165), none⟩,
                ⟨some 167, .faddr 4 (.t 166), none⟩,
                ⟨some 168, .load false 1 (.t 167), none⟩,
                ⟨some 169, .un .not (.t 168), none⟩,
                ⟨some 170, .mv (.t 13), none⟩,
                ⟨some 171, .mv (.t 20), none⟩,
                ⟨some 172, .iaddr 7 (.t 170) (.t 171), none⟩,
                ⟨some 173, .faddr 5 (.t 172), none⟩,
                ⟨some 174, .load false 1 (.t 173), none⟩,
                ⟨some 175, .mv (.t 13), none⟩,
                ⟨some 176, .mv (.t 20), none⟩,
                ⟨some 177, .iaddr 7 (.t 175) (.t 176), none⟩,
                ⟨some 178, .faddr 6 (.t 177), none⟩,
                ⟨some 179, .load false 1 (.t 178), none⟩,
                ⟨some 180, .build [.int .i64 0, .int .i64 0, .int .i64 0, .int .i64 0, .bool false, .int .i64 0, .int .i64 0] [(0, 1, (.t 148)), (1, 1, (.t 153)), (2, 1, (.t 158)), (3, 1, (.t 163)), (4, 1, (.t 169)), (5, 1, (.t 174)), (6, 1, (.t 179))], none⟩,
                ⟨some 181, .iaddr 7 (.t 142) (.t 143), none⟩,
                ⟨none, .store 7 (.t 181) (.t 180), none⟩])
               (.seq (.ops none [⟨some 182, .mv (.t 9), none⟩,
                 ⟨some 183, .mv (.t 182), none⟩,
                 ⟨some 184, .mv (.t 21), some (183, true)⟩,
                 ⟨some 185, .mv (.t 10), some (183, true)⟩,
                 ⟨some 186, .call 13 true [] [(.t 184), (.t 185)], some (183, true)⟩,
                 ⟨some 187, .bin .eql (.t 186) (.c (.int .i64 0)), some (183, true)⟩,
                 ⟨some 188, .pick (.t 183) (.t 187) (.c (.bool false)), none⟩,
                 ⟨some 8, .mv (.t 188), none⟩])
                .ret)))))))))))))))⟩
theorem cop4 : copF Tryd.prog raws [([0, 2, 3, 9, 10, 11, 12, 13, 14, 15], [(13, none, 7)])] 4 = some ir4 := by kernel_rfl
/-- tenterhook/tenterhooklaw22.LinDrops -/
def ir5 : F := ⟨99, [.t 6],
 (.seq (.ops none [⟨some 5, .box (.t 2), none⟩,
   ⟨some 6, .mv (.c (.bool false)), none⟩])
  (.seq (.ops none [⟨some 12, .call 9 true [] [], none⟩,
    ⟨some 7, .mv (.t 12), none⟩])
   (.seq (.seq (.ops none [⟨some 13, .mv (.t 0), none⟩,
      ⟨some 14, .len false (.t 13), none⟩,
      ⟨some 15, .bin .gtr (.t 14) (.c (.int .i64 7)), none⟩,
      ⟨some 16, .mv (.t 15), none⟩,
      ⟨some 17, .mv (.t 0), some (16, false)⟩,
      ⟨some 18, .call 14 false [] [(.t 17)], some (16, false)⟩,
      ⟨some 19, .mv (.t 1), some (16, false)⟩,
      ⟨some 20, .call 13 true [] [(.t 18), (.t 19)], some (16, false)⟩,
      ⟨some 21, .bin .neq (.t 20) (.c (.int .i64 1)), some (16, false)⟩,
      ⟨some 22, .pick (.t 16) (.c (.bool true)) (.t 21), none⟩])
     (.cond (.t 22)
      (.seq (.ops none [⟨some 23, .mv (.t 7), none⟩,
        ⟨some 6, .mv (.t 23), none⟩])
       .ret)
      .skip))
    (.seq (.ops none [⟨some 24, .load true 7 (.t 5), none⟩,
      ⟨some 8, .alloc [.int .i64 0, .int .i64 0, .int .i64 0, .int .i64 0, .bool false, .int .i64 0, .int .i64 0], none⟩,
      ⟨none, .store 7 (.t 8) (.t 24), none⟩])
     (.seq (.ops none [⟨some 25, .faddr 6 (.t 8), none⟩,
       ⟨none, .store 1 (.t 25) (.c (.int .i64 (-1))), none⟩])
      (.seq (.ops none [⟨some 26, .bslice 7 0 [.int .i64 0, .int .i64 0, .int .i64 0, .int .i64 0, .bool false, .int .i64 0, .int .i64 0] [], none⟩,
        ⟨some 27, .mv (.t 0), none⟩,
        ⟨some 28, .append 7 (.t 26) (.t 27), none⟩,
        ⟨some 9, .mv (.t 28), none⟩])
       (.seq (.ops none [⟨some 29, .mv (.t 9), none⟩,
         ⟨some 30, .load true 7 (.t 8), none⟩,
         ⟨some 31, .bslice 7 1 [.int .i64 0, .int .i64 0, .int .i64 0, .int .i64 0, .bool false, .int .i64 0, .int .i64 0] [(0, (.t 30))], none⟩,
         ⟨some 32, .append 7 (.t 29) (.t 31), none⟩,
         ⟨some 9, .mv (.t 32), none⟩])
        (.seq (.seq (.ops none [⟨some 33, .mv (.t 9), none⟩,
           ⟨some 34, .call 14 false [] [(.t 33)], none⟩,
           ⟨some 35, .mv (.t 1), none⟩,
           ⟨some 36, .call 13 true [] [(.t 34), (.t 35)], none⟩,
           ⟨some 37, .bin .neq (.t 36) (.c (.int .i64 1)), none⟩])
          (.cond (.t 37)
           (.seq (.ops none [⟨some 6, .mv (.c (.bool false)), none⟩])
            .ret)
           .skip))
         (.seq (.seq (.ops none [⟨some 38, .mv (.t 0), none⟩,
            ⟨some 39, .len false (.t 38), none⟩,
            ⟨some 40, .bin .eql (.t 39) (.c (.int .i64 0)), none⟩])
           (.cond (.t 40)
            (.seq (.ops none [⟨some 41, .mv (.t 7), none⟩,
              ⟨some 6, .mv (.t 41), none⟩])
             .ret)
            .skip))
          (.seq (.ops none [⟨some 42, .mv (.t 0), none⟩,
            ⟨some 43, .mv (.t 0), none⟩,
            ⟨some 44, .len false (.t 43), none⟩,
            ⟨some 45, .bin .sub (.t 44) (.c (.int .i64 1)), none⟩,
            ⟨some 46, .iaddr 7 (.t 42) (.t 45), none⟩,
            ⟨some 47, .load true 7 (.t 46), none⟩,
            ⟨some 10, .alloc [.int .i64 0, .int .i64 0, .int .i64 0, .int .i64 0, .bool false, .int .i64 0, .int .i64 0], none⟩,
            ⟨none, .store 7 (.t 10) (.t 47), none⟩])
           (.seq (.seq (.ops none [⟨some 11, .mv (.c (.int .i64 0)), none⟩])
             (.block 0 (.loop [0, 1, 7, 10, 11] []
               (.seq (.seq (.ops none [⟨some 48, .mv (.t 11), none⟩,
                  ⟨some 49, .mv (.t 0), none⟩,
                  ⟨some 50, .len false (.t 49), none⟩,
                  ⟨some 51, .bin .sub (.t 50) (.c (.int .i64 1)), none⟩,
                  ⟨some 52, .bin .lss (.t 48) (.t 51), none⟩])
                 (.cond (.t 52)
                  .skip
                  (.exit 0)))
                (.seq (.block 1 (.seq (.ops (some []) [⟨some 55, .mv (.t 0), none⟩,
                    ⟨some 56, .mv (.t 11), none⟩,
                    ⟨some 57, .iaddr 7 (.t 55) (.t 56), none⟩,
                    ⟨some 58, .faddr 6 (.t 57), none⟩,
                    ⟨some 59, .load false 1 (.t 58), none⟩,
                    ⟨some 60, .faddr 5 (.t 10), none⟩,
                    ⟨some 61, .load false 1 (.t 60), none⟩,
                    ⟨some 62, .bin .geq (.t 59) (.t 61), none⟩,
                    ⟨some 63, .mv (.t 62), none⟩,
                    ⟨some 64, .mv (.t 0), some (63, false)⟩,
                    ⟨some 65, .mv (.t 11), some (63, false)⟩,
                    ⟨some 66, .iaddr 7 (.t 64) (.t 65), some (63, false)⟩,
                    ⟨some 67, .faddr 6 (.t 66), some (63, false)⟩,
                    ⟨some 68, .load false 1 (.t 67), some (63, false)⟩,
                    ⟨some 69, .bin .lss (.t 68) (.c (.int .i64 0)), some (63, false)⟩,
                    ⟨some 70, .pick (.t 63) (.c (.bool true)) (.t 69), none⟩,
                    ⟨some 71, .mv (.t 70), none⟩,
                    ⟨some 72, .faddr 6 (.t 10), some (71, false)⟩,
                    ⟨some 73, .load false 1 (.t 72), some (71, false)⟩,
                    ⟨some 74, .bin .geq (.t 73) (.c (.int .i64 0)), some (71, false)⟩,
                    ⟨some 75, .mv (.t 74), some (71, false)⟩,
                    ⟨some 76, .faddr 6 (.t 10), some (75, true)⟩,
                    ⟨some 77, .load false 1 (.t 76), some (75, true)⟩,
                    ⟨some 78, .mv (.t 0), some (75, true)⟩,
                    ⟨some 79, .mv (.t 11), some (75, true)⟩,
                    ⟨some 80, .iaddr 7 (.t 78) (.t 79), some (75, true)⟩,
                    ⟨some 81, .faddr 5 (.t 80), some (75, true)⟩,
                    ⟨some 82, .load false 1 (.t 81), some (75, true)⟩,
                    ⟨some 83, .bin .lss (.t 77) (.t 82), some (75, true)⟩,
                    ⟨some 84, .pick (.t 75) (.t 83) (.c (.bool false)), some (71, false)⟩,
                    ⟨some 85, .pick (.t 71) (.c (.bool true)) (.t 84), none⟩])
                   (.cond (.t 85)
                    (.seq (.ops none [⟨some 86, .mv (.t 7), none⟩,
                      ⟨some 6, .mv (.t 86), none⟩])
                     .ret)
                    .skip)))
                 (.ops none [⟨some 53, .mv (.t 11), none⟩,
                  ⟨some 54, .bin .add (.t 53) (.c (.int .i64 1)), none⟩,
                  ⟨some 11, .mv (.t 54), none⟩]))))))
            (.seq (.ops none [⟨some 87, .mv (.t 7), none⟩,
              ⟨some 88, .mv (.t 87), none⟩,
              ⟨some 89, .mv (.t 0), some (88, true)⟩,
              ⟨some 90, .mv (.t 0), some (88, true)⟩,
              ⟨some 91, .len false (.t 90), some (88, true)⟩,
              ⟨some 92, .bin .sub (.t 91) (.c (.int .i64 1)), some (88, true)⟩,
              ⟨some 93, .slice false 7 (.t 89) none (some (.t 92)) none, some (88, true)⟩,
              ⟨some 94, .call 14 false [] [(.t 93)], some (88, true)⟩,
              ⟨some 95, .mv (.t 1), some (88, true)⟩,
              ⟨some 96, .call 13 true [] [(.t 94), (.t 95)], some (88, true)⟩,
              ⟨some 97, .bin .eql (.t 96) (.c (.int .i64 1)), some (88, true)⟩,
              ⟨some 98, .pick (.t 88) (.t 97) (.c (.bool false)), none⟩,
              ⟨some 6, .mv (.t 98), none⟩])
             .ret))))))))))))⟩
theorem cop5 : copF Tryd.prog raws [([0, 1, 7, 10, 11], [])] 5 = some ir5 := by kernel_rfl
/-- tenterhook/tenterhooklaw22.LinWider -/
def ir6 : F := ⟨84, [.t 8],
 (.seq (.ops none [⟨some 8, .mv (.c (.bool false)), none⟩])
  (.seq (.ops none [⟨some 14, .call 9 true [] [], none⟩,
    ⟨some 9, .mv (.t 14), none⟩])
   (.seq (.seq (.ops none [⟨some 15, .mv (.t 0), none⟩,
      ⟨some 16, .len false (.t 15), none⟩,
      ⟨some 17, .bin .gtr (.t 16) (.c (.int .i64 8)), none⟩,
      ⟨some 18, .mv (.t 17), none⟩,
      ⟨some 19, .mv (.t 0), some (18, false)⟩,
      ⟨some 20, .len false (.t 19), some (18, false)⟩,
      ⟨some 21, .bin .eql (.t 20) (.c (.int .i64 0)), some (18, false)⟩,
      ⟨some 22, .pick (.t 18) (.c (.bool true)) (.t 21), none⟩,
      ⟨some 23, .mv (.t 22), none⟩,
      ⟨some 24, .mv (.t 0), some (23, false)⟩,
      ⟨some 25, .call 14 false [] [(.t 24)], some (23, false)⟩,
      ⟨some 26, .mv (.t 1), some (23, false)⟩,
      ⟨some 27, .call 13 true [] [(.t 25), (.t 26)], some (23, false)⟩,
      ⟨some 28, .bin .neq (.t 27) (.c (.int .i64 1)), some (23, false)⟩,
      ⟨some 29, .pick (.t 23) (.c (.bool true)) (.t 28), none⟩])
     (.cond (.t 29)
      (.seq (.ops none [⟨some 30, .mv (.t 9), none⟩,
        ⟨some 8, .mv (.t 30), none⟩])
       .ret)
      .skip))
    (.seq (.ops none [⟨some 31, .mv (.t 2), none⟩,
      ⟨some 32, .bin .and (.t 31) (.c (.int .i64 65535)), none⟩,
      ⟨some 33, .mv (.t 0), none⟩,
      ⟨some 34, .len false (.t 33), none⟩,
      ⟨some 35, .bin .rem (.t 32) (.t 34), none⟩,
      ⟨some 10, .mv (.t 35), none⟩])
     (.seq (.ops none [⟨some 36, .mv (.t 3), none⟩,
       ⟨some 37, .bin .and (.t 36) (.c (.int .i64 65535)), none⟩,
       ⟨some 11, .mv (.t 37), none⟩])
      (.seq (.ops none [⟨some 38, .mv (.t 0), none⟩,
        ⟨some 39, .mv (.t 10), none⟩,
        ⟨some 40, .iaddr 7 (.t 38) (.t 39), none⟩,
        ⟨some 41, .load true 7 (.t 40), none⟩,
        ⟨some 12, .alloc [.int .i64 0, .int .i64 0, .int .i64 0, .int .i64 0, .bool false, .int .i64 0, .int .i64 0], none⟩,
        ⟨none, .store 7 (.t 12) (.t 41), none⟩])
       (.seq (.seq (.ops none [⟨some 42, .faddr 5 (.t 12), none⟩,
          ⟨some 43, .load false 1 (.t 42), none⟩,
          ⟨some 44, .bin .lss (.t 43) (.c (.int .i64 0)), none⟩,
          ⟨some 45, .mv (.t 44), none⟩,
          ⟨some 46, .faddr 5 (.t 12), some (45, false)⟩,
          ⟨some 47, .load false 1 (.t 46), some (45, false)⟩,
          ⟨some 48, .bin .gtr (.t 47) (.c (.int .i64 1099511627776)), some (45, false)⟩,
          ⟨some 49, .pick (.t 45) (.c (.bool true)) (.t 48), none⟩,
          ⟨some 50, .mv (.t 49), none⟩,
          ⟨some 51, .faddr 6 (.t 12), some (50, false)⟩,
          ⟨some 52, .load false 1 (.t 51), some (50, false)⟩,
          ⟨some 53, .bin .gtr (.t 52) (.c (.int .i64 1099511627776)), some (50, false)⟩,
          ⟨some 54, .pick (.t 50) (.c (.bool true)) (.t 53), none⟩])
         (.cond (.t 54)
          (.seq (.ops none [⟨some 55, .mv (.t 9), none⟩,
            ⟨some 8, .mv (.t 55), none⟩])
           .ret)
          .skip))
        (.seq (.ops none [⟨some 56, .faddr 5 (.t 12), none⟩,
          ⟨some 57, .load false 1 (.t 56), none⟩,
          ⟨some 58, .mv (.t 11), none⟩,
          ⟨some 59, .bin .sub (.t 57) (.t 58), none⟩,
          ⟨some 60, .faddr 5 (.t 12), none⟩,
          ⟨none, .store 1 (.t 60) (.t 59), none⟩])
         (.seq (.seq (.ops none [⟨some 61, .faddr 6 (.t 12), none⟩,
            ⟨some 62, .load false 1 (.t 61), none⟩,
            ⟨some 63, .bin .geq (.t 62) (.c (.int .i64 0)), none⟩])
           (.cond (.t 63)
            (.ops none [⟨some 64, .faddr 6 (.t 12), none⟩,
             ⟨some 65, .load false 1 (.t 64), none⟩,
             ⟨some 66, .mv (.t 11), none⟩,
             ⟨some 67, .bin .add (.t 65) (.t 66), none⟩,
             ⟨some 68, .faddr 6 (.t 12), none⟩,
             ⟨none, .store 1 (.t 68) (.t 67), none⟩])
            .skip))
          (.seq (.ops none [⟨some 69, .bslice 7 0 [.int .i64 0, .int .i64 0, .int .i64 0, .int .i64 0, .bool false, .int .i64 0, .int .i64 0] [], none⟩,
            ⟨some 70, .mv (.t 0), none⟩,
            ⟨some 71, .append 7 (.t 69) (.t 70), none⟩,
            ⟨some 13, .mv (.t 71), none⟩])
           (.seq (.ops none [⟨some 72, .mv (.t 13), none⟩,
             ⟨some 73, .mv (.t 10), none⟩,
             ⟨some 74, .load true 7 (.t 12), none⟩,
             ⟨some 75, .iaddr 7 (.t 72) (.t 73), none⟩,
             ⟨none, .store 7 (.t 75) (.t 74), none⟩])
            (.seq (.ops none [⟨some 76, .mv (.t 9), none⟩,
              ⟨some 77, .mv (.t 76), none⟩,
              ⟨some 78, .mv (.t 13), some (77, true)⟩,
              ⟨some 79, .call 14 false [] [(.t 78)], some (77, true)⟩,
              ⟨some 80, .mv (.t 1), some (77, true)⟩,
              ⟨some 81, .call 13 true [] [(.t 79), (.t 80)], some (77, true)⟩,
              ⟨some 82, .bin .eql (.t 81) (.c (.int .i64 1)), some (77, true)⟩,
              ⟨some 83, .pick (.t 77) (.t 82) (.c (.bool false)), none⟩,
              ⟨some 8, .mv (.t 83), none⟩])
             .ret))))))))))))⟩
theorem cop6 : copF Tryd.prog raws [] 6 = some ir6 := by kernel_rfl
/-- tenterhook/tenterhooklaw22.LinSwaps -/
def ir7 : F := ⟨62, [.t 8],
 (.seq (.ops none [⟨some 8, .mv (.c (.bool false)), none⟩])
  (.seq (.ops none [⟨some 13, .call 9 true [] [], none⟩,
    ⟨some 9, .mv (.t 13), none⟩])
   (.seq (.seq (.ops none [⟨some 14, .mv (.t 0), none⟩,
      ⟨some 15, .len false (.t 14), none⟩,
      ⟨some 16, .bin .gtr (.t 15) (.c (.int .i64 8)), none⟩,
      ⟨some 17, .mv (.t 16), none⟩,
      ⟨some 18, .mv (.t 0), some (17, false)⟩,
      ⟨some 19, .len false (.t 18), some (17, false)⟩,
      ⟨some 20, .bin .eql (.t 19) (.c (.int .i64 0)), some (17, false)⟩,
      ⟨some 21, .pick (.t 17) (.c (.bool true)) (.t 20), none⟩])
     (.cond (.t 21)
      (.seq (.ops none [⟨some 22, .mv (.t 9), none⟩,
        ⟨some 8, .mv (.t 22), none⟩])
       .ret)
      .skip))
    (.seq (.ops none [⟨some 23, .mv (.t 2), none⟩,
      ⟨some 24, .bin .and (.t 23) (.c (.int .i64 65535)), none⟩,
      ⟨some 25, .mv (.t 0), none⟩,
      ⟨some 26, .len false (.t 25), none⟩,
      ⟨some 27, .bin .rem (.t 24) (.t 26), none⟩,
      ⟨some 10, .mv (.t 27), none⟩])
     (.seq (.ops none [⟨some 28, .mv (.t 3), none⟩,
       ⟨some 29, .bin .and (.t 28) (.c (.int .i64 65535)), none⟩,
       ⟨some 30, .mv (.t 0), none⟩,
       ⟨some 31, .len false (.t 30), none⟩,
       ⟨some 32, .bin .rem (.t 29) (.t 31), none⟩,
       ⟨some 11, .mv (.t 32), none⟩])
      (.seq (.ops none [⟨some 33, .bslice 7 0 [.int .i64 0, .int .i64 0, .int .i64 0, .int .i64 0, .bool false, .int .i64 0, .int .i64 0] [], none⟩,
        ⟨some 34, .mv (.t 0), none⟩,
        ⟨some 35, .append 7 (.t 33) (.t 34), none⟩,
        ⟨some 12, .mv (.t 35), none⟩])
       (.seq (.ops none [⟨some 36, .mv (.t 12), none⟩,
         ⟨some 37, .mv (.t 10), none⟩,
         ⟨some 38, .mv (.t 0), none⟩,
         ⟨some 39, .mv (.t 11), none⟩,
         ⟨some 40, .iaddr 7 (.t 38) (.t 39), none⟩,
         ⟨some 41, .load true 7 (.t 40), none⟩,
         ⟨some 42, .iaddr 7 (.t 36) (.t 37), none⟩,
         ⟨none, .store 7 (.t 42) (.t 41), none⟩])
        (.seq (.ops none [⟨some 43, .mv (.t 12), none⟩,
          ⟨some 44, .mv (.t 11), none⟩,
          ⟨some 45, .mv (.t 0), none⟩,
          ⟨some 46, .mv (.t 10), none⟩,
          ⟨some 47, .iaddr 7 (.t 45) (.t 46), none⟩,
          ⟨some 48, .load true 7 (.t 47), none⟩,
          ⟨some 49, .iaddr 7 (.t 43) (.t 44), none⟩,
          ⟨none, .store 7 (.t 49) (.t 48), none⟩])
         (.seq (.ops none [⟨some 50, .mv (.t 9), none⟩,
           ⟨some 51, .mv (.t 50), none⟩,
           ⟨some 52, .mv (.t 12), some (51, true)⟩,
           ⟨some 53, .call 14 false [] [(.t 52)], some (51, true)⟩,
           ⟨some 54, .mv (.t 1), some (51, true)⟩,
           ⟨some 55, .call 13 true [] [(.t 53), (.t 54)], some (51, true)⟩,
           ⟨some 56, .mv (.t 0), some (51, true)⟩,
           ⟨some 57, .call 14 false [] [(.t 56)], some (51, true)⟩,
           ⟨some 58, .mv (.t 1), some (51, true)⟩,
           ⟨some 59, .call 13 true [] [(.t 57), (.t 58)], some (51, true)⟩,
           ⟨some 60, .bin .eql (.t 55) (.t 59), some (51, true)⟩,
           ⟨some 61, .pick (.t 51) (.t 60) (.c (.bool false)), none⟩,
           ⟨some 8, .mv (.t 61), none⟩])
          .ret)))))))))⟩
theorem cop7 : copF Tryd.prog raws [] 7 = some ir7 := by kernel_rfl
/-- tenterhook/tenterhooklaw22.LinBounds -/
def ir8 : F := ⟨91, [.t 6],
 (.seq (.ops none [⟨some 4, .box (.t 1), none⟩,
   ⟨some 6, .mv (.c (.bool false)), none⟩])
  (.seq (.ops none [⟨some 13, .call 9 true [] [], none⟩,
    ⟨some 7, .mv (.t 13), none⟩])
   (.seq (.seq (.ops none [⟨some 14, .mv (.t 0), none⟩,
      ⟨some 15, .len false (.t 14), none⟩,
      ⟨some 16, .bin .gtr (.t 15) (.c (.int .i64 60)), none⟩])
     (.cond (.t 16)
      (.seq (.ops none [⟨some 17, .mv (.t 7), none⟩,
        ⟨some 6, .mv (.t 17), none⟩])
       .ret)
      .skip))
    (.seq (.ops none [⟨some 19, .mv (.t 0), none⟩,
      ⟨some 20, .load true 7 (.t 4), none⟩,
      ⟨some 21, .call 11 true [] [(.t 20)], none⟩,
      ⟨some 22, .mv (.t 2), none⟩,
      ⟨some 23, .call 10 false [] [(.t 19), (.t 21), (.t 22)], none⟩,
      ⟨some 18, .mv (.t 23), none⟩,
      ⟨some 24, .ext (.t 18) 0, none⟩,
      ⟨some 25, .ext (.t 18) 1, none⟩,
      ⟨some 8, .mv (.t 24), none⟩,
      ⟨some 9, .mv (.t 25), none⟩])
     (.seq (.ops none [⟨some 26, .mv (.t 8), none⟩,
       ⟨some 27, .len false (.t 26), none⟩,
       ⟨some 28, .mv (.t 0), none⟩,
       ⟨some 29, .len false (.t 28), none⟩,
       ⟨some 30, .bin .sub (.t 27) (.t 29), none⟩,
       ⟨some 10, .mv (.t 30), none⟩])
      (.seq (.ops none [⟨some 31, .faddr 1 (.t 4), none⟩,
        ⟨some 32, .load false 1 (.t 31), none⟩,
        ⟨some 33, .bin .eql (.t 32) (.c (.int .i64 0)), none⟩,
        ⟨some 34, .mv (.t 33), none⟩,
        ⟨some 35, .faddr 1 (.t 4), some (34, false)⟩,
        ⟨some 36, .load false 1 (.t 35), some (34, false)⟩,
        ⟨some 37, .bin .eql (.t 36) (.c (.int .i64 2)), some (34, false)⟩,
        ⟨some 38, .pick (.t 34) (.c (.bool true)) (.t 37), none⟩,
        ⟨some 11, .mv (.t 38), none⟩])
       (.seq (.ops none [⟨some 39, .faddr 1 (.t 4), none⟩,
         ⟨some 40, .load false 1 (.t 39), none⟩,
         ⟨some 41, .bin .eql (.t 40) (.c (.int .i64 1)), none⟩,
         ⟨some 42, .mv (.t 41), none⟩,
         ⟨some 43, .faddr 1 (.t 4), some (42, false)⟩,
         ⟨some 44, .load false 1 (.t 43), some (42, false)⟩,
         ⟨some 45, .bin .eql (.t 44) (.c (.int .i64 3)), some (42, false)⟩,
         ⟨some 46, .pick (.t 42) (.c (.bool true)) (.t 45), none⟩,
         ⟨some 12, .mv (.t 46), none⟩])
        (.seq (.ops none [⟨some 47, .mv (.t 7), none⟩,
          ⟨some 48, .mv (.t 47), none⟩,
          ⟨some 49, .mv (.t 10), some (48, true)⟩,
          ⟨some 50, .bin .geq (.t 49) (.c (.int .i64 (-1))), some (48, true)⟩,
          ⟨some 51, .pick (.t 48) (.t 50) (.c (.bool false)), none⟩,
          ⟨some 52, .mv (.t 51), none⟩,
          ⟨some 53, .mv (.t 10), some (52, true)⟩,
          ⟨some 54, .bin .leq (.t 53) (.c (.int .i64 1)), some (52, true)⟩,
          ⟨some 55, .pick (.t 52) (.t 54) (.c (.bool false)), none⟩,
          ⟨some 56, .mv (.t 55), none⟩,
          ⟨some 57, .mv (.t 10), some (56, true)⟩,
          ⟨some 58, .bin .neq (.t 57) (.c (.int .i64 1)), some (56, true)⟩,
          ⟨some 59, .mv (.t 58), some (56, true)⟩,
          ⟨some 60, .mv (.t 11), some (59, false)⟩,
          ⟨some 61, .mv (.t 60), some (59, false)⟩,
          ⟨some 62, .mv (.t 8), some (61, true)⟩,
          ⟨some 63, .len false (.t 62), some (61, true)⟩,
          ⟨some 64, .mv (.t 2), some (61, true)⟩,
          ⟨some 65, .minmax true [(.c (.int .i64 0)), (.t 64)], some (61, true)⟩,
          ⟨some 66, .bin .leq (.t 63) (.t 65), some (61, true)⟩,
          ⟨some 67, .pick (.t 61) (.t 66) (.c (.bool false)), some (59, false)⟩,
          ⟨some 68, .pick (.t 59) (.c (.bool true)) (.t 67), some (56, true)⟩,
          ⟨some 69, .pick (.t 56) (.t 68) (.c (.bool false)), none⟩,
          ⟨some 70, .mv (.t 69), none⟩,
          ⟨some 71, .mv (.t 10), some (70, true)⟩,
          ⟨some 72, .bin .neq (.t 71) (.c (.int .i64 (-1))), some (70, true)⟩,
          ⟨some 73, .mv (.t 72), some (70, true)⟩,
          ⟨some 74, .mv (.t 12), some (73, false)⟩,
          ⟨some 75, .pick (.t 73) (.c (.bool true)) (.t 74), some (70, true)⟩,
          ⟨some 76, .pick (.t 70) (.t 75) (.c (.bool false)), none⟩,
          ⟨some 77, .mv (.t 76), none⟩,
          ⟨some 78, .mv (.t 11), some (77, true)⟩,
          ⟨some 79, .mv (.t 78), some (77, true)⟩,
          ⟨some 80, .mv (.t 12), some (79, false)⟩,
          ⟨some 81, .pick (.t 79) (.c (.bool true)) (.t 80), some (77, true)⟩,
          ⟨some 82, .mv (.t 81), some (77, true)⟩,
          ⟨some 83, .mv (.t 9), some (82, false)⟩,
          ⟨some 84, .un .not (.t 83), some (82, false)⟩,
          ⟨some 85, .mv (.t 84), some (82, false)⟩,
          ⟨some 86, .mv (.t 10), some (85, true)⟩,
          ⟨some 87, .bin .eql (.t 86) (.c (.int .i64 0)), some (85, true)⟩,
          ⟨some 88, .pick (.t 85) (.t 87) (.c (.bool false)), some (82, false)⟩,
          ⟨some 89, .pick (.t 82) (.c (.bool true)) (.t 88), some (77, true)⟩,
          ⟨some 90, .pick (.t 77) (.t 89) (.c (.bool false)), none⟩,
          ⟨some 6, .mv (.t 90), none⟩])
         .ret))))))))⟩
theorem cop8 : copF Tryd.prog raws [] 8 = some ir8 := by kernel_rfl
/-- tenterhook/tenterhooklaw22.awake -/
def ir9 : F := ⟨19, [.t 0],
 (.seq (.ops none [⟨some 0, .mv (.c (.bool false)), none⟩])
  (.seq (.ops none [⟨some 4, .build [.int .i64 0, .int .i64 0, .int .i64 0, .int .i64 0, .bool false, .int .i64 0, .int .i64 0] [(2, 1, (.c (.int .i64 5))), (4, 1, (.c (.bool true))), (5, 1, (.c (.int .i64 0))), (6, 1, (.c (.int .i64 3)))], none⟩,
    ⟨some 1, .alloc [.int .i64 0, .int .i64 0, .int .i64 0, .int .i64 0, .bool false, .int .i64 0, .int .i64 0], none⟩,
    ⟨none, .store 7 (.t 1) (.t 4), none⟩])
   (.seq (.ops none [⟨some 5, .build [.int .i64 0, .int .i64 0, .int .i64 0, .int .i64 0, .bool false, .int .i64 0, .int .i64 0] [(0, 1, (.c (.int .i64 1))), (1, 1, (.c (.int .i64 1))), (3, 1, (.c (.int .i64 5))), (4, 1, (.c (.bool true))), (5, 1, (.c (.int .i64 1))), (6, 1, (.c (.int .i64 2)))], none⟩,
     ⟨some 2, .alloc [.int .i64 0, .int .i64 0, .int .i64 0, .int .i64 0, .bool false, .int .i64 0, .int .i64 0], none⟩,
     ⟨none, .store 7 (.t 2) (.t 5), none⟩])
    (.seq (.ops none [⟨some 6, .build [.int .i64 0, .int .i64 0, .int .i64 0, .int .i64 0, .bool false, .int .i64 0, .int .i64 0] [(2, 1, (.c (.int .i64 5))), (4, 1, (.c (.bool true))), (5, 1, (.c (.int .i64 3))), (6, 1, (.c (.int .i64 4)))], none⟩,
      ⟨some 3, .alloc [.int .i64 0, .int .i64 0, .int .i64 0, .int .i64 0, .bool false, .int .i64 0, .int .i64 0], none⟩,
      ⟨none, .store 7 (.t 3) (.t 6), none⟩])
     (.seq (.ops none [⟨some 7, .load true 7 (.t 1), none⟩,
       ⟨some 8, .load true 7 (.t 2), none⟩,
       ⟨some 9, .bslice 7 2 [.int .i64 0, .int .i64 0, .int .i64 0, .int .i64 0, .bool false, .int .i64 0, .int .i64 0] [(0, (.t 7)), (1, (.t 8))], none⟩,
       ⟨some 10, .call 13 true [] [(.t 9), (.c (.int .i64 3))], none⟩,
       ⟨some 11, .bin .eql (.t 10) (.c (.int .i64 1)), none⟩,
       ⟨some 12, .mv (.t 11), none⟩,
       ⟨some 13, .load true 7 (.t 2), some (12, true)⟩,
       ⟨some 14, .load true 7 (.t 3), some (12, true)⟩,
       ⟨some 15, .bslice 7 2 [.int .i64 0, .int .i64 0, .int .i64 0, .int .i64 0, .bool false, .int .i64 0, .int .i64 0] [(0, (.t 13)), (1, (.t 14))], some (12, true)⟩,
       ⟨some 16, .call 13 true [] [(.t 15), (.c (.int .i64 3))], some (12, true)⟩,
       ⟨some 17, .bin .eql (.t 16) (.c (.int .i64 0)), some (12, true)⟩,
       ⟨some 18, .pick (.t 12) (.t 17) (.c (.bool false)), none⟩,
       ⟨some 0, .mv (.t 18), none⟩])
      .ret)))))⟩
theorem cop9 : copF Tryd.prog raws [] 9 = some ir9 := by kernel_rfl
/-- tenterhook/lin.Apply -/
def ir10 : F := ⟨49, [.t 6, .t 7],
 (.seq (.ops none [⟨some 4, .box (.t 1), none⟩,
   ⟨some 6, .mv (.c (.nil)), none⟩,
   ⟨some 7, .mv (.c (.bool false)), none⟩])
  (.seq (.ops none [⟨some 8, .mv (.t 2), none⟩,
    ⟨some 9, .minmax false [(.t 8), (.c (.int .i64 1000))], none⟩,
    ⟨some 10, .minmax true [(.c (.int .i64 0)), (.t 9)], none⟩,
    ⟨some 2, .mv (.t 10), none⟩])
   (.seq (.seq (.ops none [⟨some 11, .faddr 1 (.t 4), none⟩,
      ⟨some 12, .load false 1 (.t 11), none⟩])
     (.block 0 (.seq (.ops none [⟨some 14, .bin .eql (.t 12) (.c (.int .i64 0)), none⟩,
        ⟨some 13, .mv (.t 14), none⟩])
       (.cond (.t 13)
        (.seq (.ops none [⟨some 15, .mv (.t 0), none⟩,
          ⟨some 16, .load true 7 (.t 4), none⟩,
          ⟨some 17, .faddr 2 (.t 4), none⟩,
          ⟨some 18, .load false 1 (.t 17), none⟩,
          ⟨some 19, .mv (.t 2), none⟩,
          ⟨some 20, .call 19 false [] [(.t 15), (.t 16), (.t 18), (.t 19)], none⟩,
          ⟨some 21, .ext (.t 20) 0, none⟩,
          ⟨some 22, .ext (.t 20) 1, none⟩,
          ⟨some 6, .mv (.t 21), none⟩,
          ⟨some 7, .mv (.t 22), none⟩])
         .ret)
        (.seq (.ops none [⟨some 24, .bin .eql (.t 12) (.c (.int .i64 2)), none⟩,
          ⟨some 23, .mv (.t 24), none⟩])
         (.cond (.t 23)
          (.seq (.ops none [⟨some 25, .mv (.t 0), none⟩,
            ⟨some 26, .load true 7 (.t 4), none⟩,
            ⟨some 27, .faddr 2 (.t 4), none⟩,
            ⟨some 28, .load false 1 (.t 27), none⟩,
            ⟨some 29, .bin .and (.t 28) (.c (.int .i64 4294967295)), none⟩,
            ⟨some 30, .mv (.t 2), none⟩,
            ⟨some 31, .call 19 false [] [(.t 25), (.t 26), (.t 29), (.t 30)], none⟩,
            ⟨some 32, .ext (.t 31) 0, none⟩,
            ⟨some 33, .ext (.t 31) 1, none⟩,
            ⟨some 6, .mv (.t 32), none⟩,
            ⟨some 7, .mv (.t 33), none⟩])
           .ret)
          (.seq (.ops none [⟨some 35, .bin .eql (.t 12) (.c (.int .i64 1)), none⟩,
            ⟨some 34, .mv (.t 35), none⟩])
           (.cond (.t 34)
            (.seq (.ops none [⟨some 36, .mv (.t 0), none⟩,
              ⟨some 37, .load true 7 (.t 4), none⟩,
              ⟨some 38, .call 20 false [] [(.t 36), (.t 37), (.c (.bool true))], none⟩,
              ⟨some 39, .ext (.t 38) 0, none⟩,
              ⟨some 40, .ext (.t 38) 1, none⟩,
              ⟨some 6, .mv (.t 39), none⟩,
              ⟨some 7, .mv (.t 40), none⟩])
             .ret)
            (.seq (.ops none [⟨some 42, .bin .eql (.t 12) (.c (.int .i64 3)), none⟩,
              ⟨some 41, .mv (.t 42), none⟩])
             (.cond (.t 41)
              (.seq (.ops none [⟨some 43, .mv (.t 0), none⟩,
                ⟨some 44, .load true 7 (.t 4), none⟩,
                ⟨some 45, .call 20 false [] [(.t 43), (.t 44), (.c (.bool false))], none⟩,
                ⟨some 46, .ext (.t 45) 0, none⟩,
                ⟨some 47, .ext (.t 45) 1, none⟩,
                ⟨some 6, .mv (.t 46), none⟩,
                ⟨some 7, .mv (.t 47), none⟩])
               .ret)
              .skip))))))))))
    (.seq (.ops none [⟨some 48, .mv (.t 0), none⟩,
      ⟨some 6, .mv (.t 48), none⟩,
      ⟨some 7, .mv (.c (.bool false)), none⟩])
     .ret))))⟩
theorem cop10 : copF Tryd.prog raws [] 10 = some ir10 := by kernel_rfl
/-- tenterhook/tenterhooklaw22.op1 -/
def ir11 : F := ⟨18, [.cell 2 true 7],
 (.seq (.ops none [⟨some 1, .box (.t 0), none⟩,
   ⟨some 2, .alloc [.int .i64 0, .int .i64 0, .int .i64 0, .int .i64 0, .bool false, .int .i64 0, .int .i64 0], none⟩])
  (.seq (.ops none [⟨some 3, .faddr 0 (.t 1), none⟩,
    ⟨some 4, .load false 1 (.t 3), none⟩,
    ⟨some 5, .faddr 1 (.t 1), none⟩,
    ⟨some 6, .load false 1 (.t 5), none⟩,
    ⟨some 7, .faddr 2 (.t 1), none⟩,
    ⟨some 8, .load false 1 (.t 7), none⟩,
    ⟨some 9, .faddr 3 (.t 1), none⟩,
    ⟨some 10, .load false 1 (.t 9), none⟩,
    ⟨some 11, .faddr 4 (.t 1), none⟩,
    ⟨some 12, .load false 1 (.t 11), none⟩,
    ⟨some 13, .faddr 5 (.t 1), none⟩,
    ⟨some 14, .load false 1 (.t 13), none⟩,
    ⟨some 15, .faddr 6 (.t 1), none⟩,
    ⟨some 16, .load false 1 (.t 15), none⟩,
    ⟨some 17, .build [.int .i64 0, .int .i64 0, .int .i64 0, .int .i64 0, .bool false, .int .i64 0, .int .i64 0] [(0, 1, (.t 4)), (1, 1, (.t 6)), (2, 1, (.t 8)), (3, 1, (.t 10)), (4, 1, (.t 12)), (5, 1, (.t 14)), (6, 1, (.t 16))], none⟩,
    ⟨none, .store 7 (.t 2) (.t 17), none⟩])
   .ret))⟩
theorem cop11 : copF Tryd.prog raws [] 11 = some ir11 := by kernel_rfl
/-- tenterhook/tenterhookref22.Apply -/
def ir12 : F := ⟨107, [.t 6, .t 7],
 (.seq (.ops none [⟨some 4, .box (.t 1), none⟩,
   ⟨some 6, .mv (.c (.nil)), none⟩,
   ⟨some 7, .mv (.c (.bool false)), none⟩])
  (.seq (.ops none [⟨some 12, .mv (.t 2), none⟩,
    ⟨some 13, .minmax false [(.t 12), (.c (.int .i64 1000))], none⟩,
    ⟨some 14, .minmax true [(.c (.int .i64 0)), (.t 13)], none⟩,
    ⟨some 2, .mv (.t 14), none⟩])
   (.seq (.ops none [⟨some 15, .bslice 1 0 [.int .i64 0] [], none⟩,
     ⟨some 16, .mv (.t 0), none⟩,
     ⟨some 17, .append 1 (.t 15) (.t 16), none⟩,
     ⟨some 8, .mv (.t 17), none⟩])
    (.seq (.ops none [⟨some 18, .faddr 6 (.t 4), none⟩,
      ⟨some 19, .load false 1 (.t 18), none⟩,
      ⟨some 20, .bin .geq (.t 19) (.c (.int .i64 0)), none⟩,
      ⟨some 9, .mv (.t 20), none⟩])
     (.seq (.seq (.ops none [⟨some 21, .faddr 1 (.t 4), none⟩,
        ⟨some 22, .load false 1 (.t 21), none⟩])
       (.block 0 (.seq (.seq (.ops none [⟨some 24, .bin .eql (.t 22) (.c (.int .i64 0)), none⟩,
           ⟨some 23, .mv (.t 24), none⟩])
          (.cond (.t 23)
           .skip
           (.ops none [⟨some 25, .bin .eql (.t 22) (.c (.int .i64 2)), none⟩,
            ⟨some 23, .mv (.t 25), none⟩])))
         (.cond (.t 23)
          (.seq (.seq (.ops none [⟨some 26, .mv (.t 0), none⟩,
             ⟨some 27, .len false (.t 26), none⟩,
             ⟨some 28, .mv (.t 2), none⟩,
             ⟨some 29, .bin .geq (.t 27) (.t 28), none⟩])
            (.cond (.t 29)
             (.seq (.ops (some []) [⟨some 30, .mv (.t 8), none⟩,
               ⟨some 31, .mv (.t 9), none⟩,
               ⟨some 32, .un .not (.t 31), none⟩,
               ⟨some 33, .mv (.t 32), none⟩,
               ⟨some 34, .faddr 4 (.t 4), some (33, false)⟩,
               ⟨some 35, .load false 1 (.t 34), some (33, false)⟩,
               ⟨some 36, .un .not (.t 35), some (33, false)⟩,
               ⟨some 37, .pick (.t 33) (.c (.bool true)) (.t 36), none⟩,
               ⟨some 6, .mv (.t 30), none⟩,
               ⟨some 7, .mv (.t 37), none⟩])
              .ret)
             .skip))
           (.seq (.ops none [⟨some 38, .faddr 2 (.t 4), none⟩,
             ⟨some 39, .load false 1 (.t 38), none⟩,
             ⟨some 10, .mv (.t 39), none⟩])
            (.seq (.seq (.ops none [⟨some 40, .faddr 1 (.t 4), none⟩,
               ⟨some 41, .load false 1 (.t 40), none⟩,
               ⟨some 42, .bin .eql (.t 41) (.c (.int .i64 2)), none⟩])
              (.cond (.t 42)
               (.ops none [⟨some 43, .mv (.t 10), none⟩,
                ⟨some 44, .bin .and (.t 43) (.c (.int .i64 4294967295)), none⟩,
                ⟨some 10, .mv (.t 44), none⟩])
               .skip))
             (.seq (.ops none [⟨some 45, .mv (.t 8), none⟩,
               ⟨some 46, .mv (.t 10), none⟩,
               ⟨some 47, .bslice 1 1 [.int .i64 0] [(0, (.t 46))], none⟩,
               ⟨some 48, .append 1 (.t 45) (.t 47), none⟩,
               ⟨some 8, .mv (.t 48), none⟩])
              (.seq (.ops (some []) [⟨some 49, .mv (.t 8), none⟩,
                ⟨some 50, .mv (.t 9), none⟩,
                ⟨some 51, .un .not (.t 50), none⟩,
                ⟨some 52, .mv (.t 51), none⟩,
                ⟨some 53, .faddr 4 (.t 4), some (52, false)⟩,
                ⟨some 54, .load false 1 (.t 53), some (52, false)⟩,
                ⟨some 55, .pick (.t 52) (.c (.bool true)) (.t 54), none⟩,
                ⟨some 6, .mv (.t 49), none⟩,
                ⟨some 7, .mv (.t 55), none⟩])
               .ret)))))
          (.seq (.seq (.ops none [⟨some 57, .bin .eql (.t 22) (.c (.int .i64 1)), none⟩,
             ⟨some 56, .mv (.t 57), none⟩])
            (.cond (.t 56)
             .skip
             (.ops none [⟨some 58, .bin .eql (.t 22) (.c (.int .i64 3)), none⟩,
              ⟨some 56, .mv (.t 58), none⟩])))
           (.cond (.t 56)
            (.seq (.seq (.ops none [⟨some 59, .mv (.t 0), none⟩,
               ⟨some 60, .len false (.t 59), none⟩,
               ⟨some 61, .bin .eql (.t 60) (.c (.int .i64 0)), none⟩])
              (.cond (.t 61)
               (.seq (.ops (some []) [⟨some 62, .mv (.t 8), none⟩,
                 ⟨some 63, .mv (.t 9), none⟩,
                 ⟨some 64, .un .not (.t 63), none⟩,
                 ⟨some 65, .mv (.t 64), none⟩,
                 ⟨some 66, .faddr 4 (.t 4), some (65, false)⟩,
                 ⟨some 67, .load false 1 (.t 66), some (65, false)⟩,
                 ⟨some 68, .un .not (.t 67), some (65, false)⟩,
                 ⟨some 69, .pick (.t 65) (.c (.bool true)) (.t 68), none⟩,
                 ⟨some 6, .mv (.t 62), none⟩,
                 ⟨some 7, .mv (.t 69), none⟩])
                .ret)
               .skip))
             (.seq (.ops none [⟨some 70, .mv (.t 0), none⟩,
               ⟨some 71, .iaddr 1 (.t 70) (.c (.int .i64 0)), none⟩,
               ⟨some 72, .load false 1 (.t 71), none⟩,
               ⟨some 11, .mv (.t 72), none⟩])
              (.seq (.ops none [⟨some 73, .bslice 1 0 [.int .i64 0] [], none⟩,
                ⟨some 74, .mv (.t 0), none⟩,
                ⟨some 75, .slice false 1 (.t 74) (some (.c (.int .i64 1))) none none, none⟩,
                ⟨some 76, .append 1 (.t 73) (.t 75), none⟩,
                ⟨some 8, .mv (.t 76), none⟩])
               (.seq (.seq (.ops none [⟨some 77, .faddr 1 (.t 4), none⟩,
                  ⟨some 78, .load false 1 (.t 77), none⟩,
                  ⟨some 79, .bin .eql (.t 78) (.c (.int .i64 1)), none⟩])
                 (.cond (.t 79)
                  (.seq (.ops none [⟨some 80, .mv (.t 0), none⟩,
                    ⟨some 81, .mv (.t 0), none⟩,
                    ⟨some 82, .len false (.t 81), none⟩,
                    ⟨some 83, .bin .sub (.t 82) (.c (.int .i64 1)), none⟩,
                    ⟨some 84, .iaddr 1 (.t 80) (.t 83), none⟩,
                    ⟨some 85, .load false 1 (.t 84), none⟩,
                    ⟨some 11, .mv (.t 85), none⟩])
                   (.ops none [⟨some 86, .bslice 1 0 [.int .i64 0] [], none⟩,
                    ⟨some 87, .mv (.t 0), none⟩,
                    ⟨some 88, .mv (.t 0), none⟩,
                    ⟨some 89, .len false (.t 88), none⟩,
                    ⟨some 90, .bin .sub (.t 89) (.c (.int .i64 1)), none⟩,
                    ⟨some 91, .slice false 1 (.t 87) none (some (.t 90)) none, none⟩,
                    ⟨some 92, .append 1 (.t 86) (.t 91), none⟩,
                    ⟨some 8, .mv (.t 92), none⟩]))
                  .skip))
                (.seq (.ops (some []) [⟨some 93, .mv (.t 8), none⟩,
                  ⟨some 94, .mv (.t 9), none⟩,
                  ⟨some 95, .un .not (.t 94), none⟩,
                  ⟨some 96, .mv (.t 95), none⟩,
                  ⟨some 97, .faddr 4 (.t 4), some (96, false)⟩,
                  ⟨some 98, .load false 1 (.t 97), some (96, false)⟩,
                  ⟨some 99, .mv (.t 98), some (96, false)⟩,
                  ⟨some 100, .faddr 3 (.t 4), some (99, true)⟩,
                  ⟨some 101, .load false 1 (.t 100), some (99, true)⟩,
                  ⟨some 102, .mv (.t 11), some (99, true)⟩,
                  ⟨some 103, .bin .eql (.t 101) (.t 102), some (99, true)⟩,
                  ⟨some 104, .pick (.t 99) (.t 103) (.c (.bool false)), some (96, false)⟩,
                  ⟨some 105, .pick (.t 96) (.c (.bool true)) (.t 104), none⟩,
                  ⟨some 6, .mv (.t 93), none⟩,
                  ⟨some 7, .mv (.t 105), none⟩])
                 .ret)))))
            .skip))))))
      (.seq (.ops none [⟨some 106, .mv (.t 8), none⟩,
        ⟨some 6, .mv (.t 106), none⟩,
        ⟨some 7, .mv (.c (.bool false)), none⟩])
       .ret))))))⟩
theorem cop12 : copF Tryd.prog raws [] 12 = some ir12 := by kernel_rfl
/-- tenterhook/lin.Lin -/
def ir13 : F := ⟨13, [.t 4],
 (.seq (.ops none [⟨some 4, .mv (.c (.int .i64 0)), none⟩])
  (.seq (.block 0 (.seq (.ops none [⟨some 6, .mv (.t 0), none⟩,
      ⟨some 7, .len false (.t 6), none⟩,
      ⟨some 8, .bin .gtr (.t 7) (.c (.int .i64 8)), none⟩,
      ⟨some 5, .mv (.t 8), none⟩])
     (.cond (.t 5)
      (.seq (.ops none [⟨some 4, .mv (.c (.int .i64 2)), none⟩])
       .ret)
      (.seq (.ops none [⟨some 10, .mv (.t 0), none⟩,
        ⟨some 11, .mv (.t 1), none⟩,
        ⟨some 12, .call 21 true [] [(.t 10), (.t 11)], none⟩,
        ⟨some 9, .mv (.t 12), none⟩])
       (.cond (.t 9)
        (.seq (.ops none [⟨some 4, .mv (.c (.int .i64 1)), none⟩])
         .ret)
        .skip)))))
   (.seq (.ops none [⟨some 4, .mv (.c (.int .i64 0)), none⟩])
    .ret)))⟩
theorem cop13 : copF Tryd.prog raws [] 13 = some ir13 := by kernel_rfl
/-- tenterhook/tenterhooklaw22.ours -/
def ir14 : F := ⟨20, [.t 2],
 (.seq (.ops none [⟨some 2, .mv (.c (.nil)), none⟩])
  (.seq (.ops none [⟨some 3, .mv (.c (.nil)), none⟩])
   (.seq (.seq (.ops none [⟨some 4, .mv (.c (.int .i64 0)), none⟩])
     (.block 0 (.loop [0, 3, 4] [(3, none, 7)]
       (.seq (.seq (.ops none [⟨some 5, .mv (.t 4), none⟩,
          ⟨some 6, .mv (.t 0), none⟩,
          ⟨some 7, .len false (.t 6), none⟩,
          ⟨some 8, .bin .lss (.t 5) (.t 7), none⟩])
         (.cond (.t 8)
          .skip
          (.exit 0)))
        (.seq (.block 1 (.ops none [⟨some 11, .mv (.t 3), none⟩,
           ⟨some 12, .mv (.t 0), none⟩,
           ⟨some 13, .mv (.t 4), none⟩,
           ⟨some 14, .iaddr 7 (.t 12) (.t 13), none⟩,
           ⟨some 15, .load true 7 (.t 14), none⟩,
           ⟨some 16, .call 11 true [] [(.t 15)], none⟩,
           ⟨some 17, .bslice 7 1 [.int .i64 0, .int .i64 0, .int .i64 0, .int .i64 0, .bool false, .int .i64 0, .int .i64 0] [(0, (.t 16))], none⟩,
           ⟨some 18, .append 7 (.t 11) (.t 17), none⟩,
           ⟨some 3, .mv (.t 18), none⟩]))
         (.ops none [⟨some 9, .mv (.t 4), none⟩,
          ⟨some 10, .bin .add (.t 9) (.c (.int .i64 1)), none⟩,
          ⟨some 4, .mv (.t 10), none⟩]))))))
    (.seq (.ops none [⟨some 19, .mv (.t 3), none⟩,
      ⟨some 2, .mv (.t 19), none⟩])
     .ret))))⟩
theorem cop14 : copF Tryd.prog raws [([0, 3, 4], [(3, none, 7)])] 14 = some ir14 := by kernel_rfl
/-- tenterhook/tenterhookref22.Lin -/
def ir15 : F := ⟨14, [.t 4],
 (.seq (.ops none [⟨some 4, .mv (.c (.int .i64 0)), none⟩])
  (.seq (.seq (.ops none [⟨some 5, .mv (.t 0), none⟩,
     ⟨some 6, .len false (.t 5), none⟩,
     ⟨some 7, .bin .gtr (.t 6) (.c (.int .i64 8)), none⟩])
    (.cond (.t 7)
     (.seq (.ops none [⟨some 4, .mv (.c (.int .i64 2)), none⟩])
      .ret)
     .skip))
   (.seq (.seq (.ops none [⟨some 8, .mv (.t 0), none⟩,
      ⟨some 9, .mv (.t 0), none⟩,
      ⟨some 10, .len false (.t 9), none⟩,
      ⟨some 11, .mkslice 1 [.bool false] (.t 10) (.t 10), none⟩,
      ⟨some 12, .mv (.t 1), none⟩,
      ⟨some 13, .call 22 true [] [(.t 8), (.t 11), (.c (.nil)), (.t 12)], none⟩])
     (.cond (.t 13)
      (.seq (.ops none [⟨some 4, .mv (.c (.int .i64 1)), none⟩])
       .ret)
      .skip))
    (.seq (.ops none [⟨some 4, .mv (.c (.int .i64 0)), none⟩])
     .ret))))⟩
theorem cop15 : copF Tryd.prog raws [] 15 = some ir15 := by kernel_rfl
/-- tenterhook/tenterhookref04.Same -/
def ir16 : F := ⟨26, [.t 4],
 (.seq (.ops none [⟨some 4, .mv (.c (.bool false)), none⟩])
  (.seq (.seq (.ops none [⟨some 6, .mv (.t 0), none⟩,
     ⟨some 7, .len false (.t 6), none⟩,
     ⟨some 8, .mv (.t 1), none⟩,
     ⟨some 9, .len false (.t 8), none⟩,
     ⟨some 10, .bin .neq (.t 7) (.t 9), none⟩])
    (.cond (.t 10)
     (.seq (.ops none [⟨some 4, .mv (.c (.bool false)), none⟩])
      .ret)
     .skip))
   (.seq (.seq (.ops none [⟨some 5, .mv (.c (.int .i64 0)), none⟩])
     (.block 0 (.loop [0, 1, 5] []
       (.seq (.seq (.ops none [⟨some 11, .mv (.t 5), none⟩,
          ⟨some 12, .mv (.t 0), none⟩,
          ⟨some 13, .len false (.t 12), none⟩,
          ⟨some 14, .bin .lss (.t 11) (.t 13), none⟩])
         (.cond (.t 14)
          .skip
          (.exit 0)))
        (.seq (.block 1 (.seq (.ops (some []) [⟨some 17, .mv (.t 0), none⟩,
            ⟨some 18, .mv (.t 5), none⟩,
            ⟨some 19, .iaddr 1 (.t 17) (.t 18), none⟩,
            ⟨some 20, .load false 1 (.t 19), none⟩,
            ⟨some 21, .mv (.t 1), none⟩,
            ⟨some 22, .mv (.t 5), none⟩,
            ⟨some 23, .iaddr 1 (.t 21) (.t 22), none⟩,
            ⟨some 24, .load false 1 (.t 23), none⟩,
            ⟨some 25, .bin .neq (.t 20) (.t 24), none⟩])
           (.cond (.t 25)
            (.seq (.ops none [⟨some 4, .mv (.c (.bool false)), none⟩])
             .ret)
            .skip)))
         (.ops none [⟨some 15, .mv (.t 5), none⟩,
          ⟨some 16, .bin .add (.t 15) (.c (.int .i64 1)), none⟩,
          ⟨some 5, .mv (.t 16), none⟩]))))))
    (.seq (.ops none [⟨some 4, .mv (.c (.bool true)), none⟩])
     .ret))))⟩
theorem cop16 : copF Tryd.prog raws [([0, 1, 5], [])] 16 = some ir16 := by kernel_rfl
/-- tenterhook/lin.After -/
def ir17 : F := ⟨48, [.t 6],
 (.seq (.ops none [⟨some 6, .mv (.c (.bool false)), none⟩])
  (.seq (.seq (.ops none [⟨some 9, .mv (.t 2), none⟩,
     ⟨some 10, .bin .lss (.t 9) (.c (.int .i64 0)), none⟩,
     ⟨some 11, .mv (.t 10), none⟩,
     ⟨some 12, .mv (.t 2), some (11, false)⟩,
     ⟨some 13, .mv (.t 0), some (11, false)⟩,
     ⟨some 14, .len false (.t 13), some (11, false)⟩,
     ⟨some 15, .bin .geq (.t 12) (.t 14), some (11, false)⟩,
     ⟨some 16, .pick (.t 11) (.c (.bool true)) (.t 15), none⟩,
     ⟨some 17, .mv (.t 16), none⟩,
     ⟨some 18, .mv (.t 1), some (17, false)⟩,
     ⟨some 19, .mv (.t 2), some (17, false)⟩,
     ⟨some 20, .call 23 true [] [(.t 18), (.t 19)], some (17, false)⟩,
     ⟨some 21, .pick (.t 17) (.c (.bool true)) (.t 20), none⟩])
    (.cond (.t 21)
     (.seq (.ops none [⟨some 6, .mv (.c (.bool false)), none⟩])
      .ret)
     .skip))
   (.seq (.seq (.ops none [⟨some 22, .mv (.t 0), none⟩,
      ⟨some 23, .len false (.t 22), none⟩,
      ⟨some 24, .mv (.c (.int .i64 0)), none⟩])
     (.block 0 (.loop [0, 1, 2, 22, 23, 24] []
       (.seq (.ops none [⟨some 25, .bin .lss (.t 24) (.t 23), none⟩])
        (.seq (.cond (.t 25)
          .skip
          (.exit 0))
         (.seq (.block 1 (.seq (.ops none [⟨some 26, .mv (.t 24), none⟩,
             ⟨some 27, .iaddr 7 (.t 22) (.t 24), none⟩,
             ⟨some 28, .load true 7 (.t 27), none⟩,
             ⟨some 8, .alloc [.int .i64 0, .int .i64 0, .int .i64 0, .int .i64 0, .bool false, .int .i64 0, .int .i64 0], none⟩,
             ⟨some 7, .mv (.t 26), none⟩,
             ⟨none, .store 7 (.t 8) (.t 28), none⟩])
            (.seq (.ops (some []) [⟨some 29, .mv (.t 1), none⟩,
              ⟨some 30, .mv (.t 7), none⟩,
              ⟨some 31, .call 23 true [] [(.t 29), (.t 30)], none⟩,
              ⟨some 32, .un .not (.t 31), none⟩,
              ⟨some 33, .mv (.t 32), none⟩,
              ⟨some 34, .load true 7 (.t 8), some (33, true)⟩,
              ⟨some 35, .call 24 true [] [(.t 34)], some (33, true)⟩,
              ⟨some 36, .pick (.t 33) (.t 35) (.c (.bool false)), none⟩,
              ⟨some 37, .mv (.t 36), none⟩,
              ⟨some 38, .faddr 6 (.t 8), some (37, true)⟩,
              ⟨some 39, .load false 1 (.t 38), some (37, true)⟩,
              ⟨some 40, .mv (.t 0), some (37, true)⟩,
              ⟨some 41, .mv (.t 2), some (37, true)⟩,
              ⟨some 42, .iaddr 7 (.t 40) (.t 41), some (37, true)⟩,
              ⟨some 43, .faddr 5 (.t 42), some (37, true)⟩,
              ⟨some 44, .load false 1 (.t 43), some (37, true)⟩,
              ⟨some 45, .bin .lss (.t 39) (.t 44), some (37, true)⟩,
              ⟨some 46, .pick (.t 37) (.t 45) (.c (.bool false)), none⟩])
             (.cond (.t 46)
              (.seq (.ops none [⟨some 6, .mv (.c (.bool false)), none⟩])
               .ret)
              .skip))))
          (.ops none [⟨some 47, .bin .add (.t 24) (.c (.int .i64 1)), none⟩,
           ⟨some 24, .mv (.t 47), none⟩])))))))
    (.seq (.ops none [⟨some 6, .mv (.c (.bool true)), none⟩])
     .ret))))⟩
theorem cop17 : copF Tryd.prog raws [([0, 1, 2, 22, 23, 24], [])] 17 = some ir17 := by kernel_rfl
/-- tenterhook/tenterhookref22.After -/
def ir18 : F := ⟨52, [.t 6],
 (.seq (.ops none [⟨some 6, .mv (.c (.bool false)), none⟩])
  (.seq (.seq (.ops none [⟨some 8, .mv (.t 2), none⟩,
     ⟨some 9, .bin .lss (.t 8) (.c (.int .i64 0)), none⟩,
     ⟨some 10, .mv (.t 9), none⟩,
     ⟨some 11, .mv (.t 2), some (10, false)⟩,
     ⟨some 12, .mv (.t 0), some (10, false)⟩,
     ⟨some 13, .len false (.t 12), some (10, false)⟩,
     ⟨some 14, .bin .geq (.t 11) (.t 13), some (10, false)⟩,
     ⟨some 15, .pick (.t 10) (.c (.bool true)) (.t 14), none⟩,
     ⟨some 16, .mv (.t 15), none⟩,
     ⟨some 17, .mv (.t 1), some (16, false)⟩,
     ⟨some 18, .mv (.t 2), some (16, false)⟩,
     ⟨some 19, .call 25 true [] [(.t 17), (.t 18)], some (16, false)⟩,
     ⟨some 20, .pick (.t 16) (.c (.bool true)) (.t 19), none⟩])
    (.cond (.t 20)
     (.seq (.ops none [⟨some 6, .mv (.c (.bool false)), none⟩])
      .ret)
     .skip))
   (.seq (.seq (.ops none [⟨some 7, .mv (.c (.int .i64 0)), none⟩])
     (.block 0 (.loop [0, 1, 2, 7] []
       (.seq (.seq (.ops none [⟨some 21, .mv (.t 7), none⟩,
          ⟨some 22, .mv (.t 0), none⟩,
          ⟨some 23, .len false (.t 22), none⟩,
          ⟨some 24, .bin .lss (.t 21) (.t 23), none⟩])
         (.cond (.t 24)
          .skip
          (.exit 0)))
        (.seq (.block 1 (.seq (.ops (some []) [⟨some 27, .mv (.t 1), none⟩,
            ⟨some 28, .mv (.t 7), none⟩,
            ⟨some 29, .call 25 true [] [(.t 27), (.t 28)], none⟩,
            ⟨some 30, .un .not (.t 29), none⟩,
            ⟨some 31, .mv (.t 30), none⟩,
            ⟨some 32, .mv (.t 0), some (31, true)⟩,
            ⟨some 33, .mv (.t 7), some (31, true)⟩,
            ⟨some 34, .iaddr 7 (.t 32) (.t 33), some (31, true)⟩,
            ⟨some 35, .faddr 6 (.t 34), some (31, true)⟩,
            ⟨some 36, .load false 1 (.t 35), some (31, true)⟩,
            ⟨some 37, .bin .geq (.t 36) (.c (.int .i64 0)), some (31, true)⟩,
            ⟨some 38, .pick (.t 31) (.t 37) (.c (.bool false)), none⟩,
            ⟨some 39, .mv (.t 38), none⟩,
            ⟨some 40, .mv (.t 0), some (39, true)⟩,
            ⟨some 41, .mv (.t 7), some (39, true)⟩,
            ⟨some 42, .iaddr 7 (.t 40) (.t 41), some (39, true)⟩,
            ⟨some 43, .faddr 6 (.t 42), some (39, true)⟩,
            ⟨some 44, .load false 1 (.t 43), some (39, true)⟩,
            ⟨some 45, .mv (.t 0), some (39, true)⟩,
            ⟨some 46, .mv (.t 2), some (39, true)⟩,
            ⟨some 47, .iaddr 7 (.t 45) (.t 46), some (39, true)⟩,
            ⟨some 48, .faddr 5 (.t 47), some (39, true)⟩,
            ⟨some 49, .load false 1 (.t 48), some (39, true)⟩,
            ⟨some 50, .bin .lss (.t 44) (.t 49), some (39, true)⟩,
            ⟨some 51, .pick (.t 39) (.t 50) (.c (.bool false)), none⟩])
           (.cond (.t 51)
            (.seq (.ops none [⟨some 6, .mv (.c (.bool false)), none⟩])
             .ret)
            .skip)))
         (.ops none [⟨some 25, .mv (.t 7), none⟩,
          ⟨some 26, .bin .add (.t 25) (.c (.int .i64 1)), none⟩,
          ⟨some 7, .mv (.t 26), none⟩]))))))
    (.seq (.ops none [⟨some 6, .mv (.c (.bool true)), none⟩])
     .ret))))⟩
theorem cop18 : copF Tryd.prog raws [([0, 1, 2, 7], [])] 18 = some ir18 := by kernel_rfl
/-- tenterhook/lin.put -/
def ir19 : F := ⟨32, [.t 8, .t 9],
 (.seq (.ops none [⟨some 5, .box (.t 1), none⟩,
   ⟨some 8, .mv (.c (.nil)), none⟩,
   ⟨some 9, .mv (.c (.bool false)), none⟩])
  (.seq (.ops none [⟨some 11, .mv (.t 0), none⟩,
    ⟨some 12, .len false (.t 11), none⟩,
    ⟨some 13, .mv (.t 3), none⟩,
    ⟨some 14, .bin .geq (.t 12) (.t 13), none⟩,
    ⟨some 10, .mv (.t 14), none⟩])
   (.seq (.seq (.ops none [⟨some 15, .mv (.t 10), none⟩,
      ⟨some 16, .un .not (.t 15), none⟩])
     (.cond (.t 16)
      (.ops none [⟨some 17, .mv (.t 0), none⟩,
       ⟨some 18, .call 26 false [] [(.t 17)], none⟩,
       ⟨some 19, .mv (.t 2), none⟩,
       ⟨some 20, .bslice 1 1 [.int .i64 0] [(0, (.t 19))], none⟩,
       ⟨some 21, .append 1 (.t 18) (.t 20), none⟩,
       ⟨some 0, .mv (.t 21), none⟩])
      .skip))
    (.seq (.ops (some []) [⟨some 22, .mv (.t 0), none⟩,
      ⟨some 23, .load true 7 (.t 5), none⟩,
      ⟨some 24, .call 24 true [] [(.t 23)], none⟩,
      ⟨some 25, .un .not (.t 24), none⟩,
      ⟨some 26, .mv (.t 25), none⟩,
      ⟨some 27, .faddr 4 (.t 5), some (26, false)⟩,
      ⟨some 28, .load false 1 (.t 27), some (26, false)⟩,
      ⟨some 29, .mv (.t 10), some (26, false)⟩,
      ⟨some 30, .eqB true (.t 28) (.t 29), some (26, false)⟩,
      ⟨some 31, .pick (.t 26) (.c (.bool true)) (.t 30), none⟩,
      ⟨some 8, .mv (.t 22), none⟩,
      ⟨some 9, .mv (.t 31), none⟩])
     .ret))))⟩
theorem cop19 : copF Tryd.prog raws [] 19 = some ir19 := by kernel_rfl
/-- tenterhook/lin.take -/
def ir20 : F := ⟨54, [.t 6, .t 7],
 (.seq (.ops none [⟨some 4, .box (.t 1), none⟩,
   ⟨some 6, .mv (.c (.nil)), none⟩,
   ⟨some 7, .mv (.c (.bool false)), none⟩])
  (.seq (.seq (.ops none [⟨some 10, .mv (.t 0), none⟩,
     ⟨some 11, .len false (.t 10), none⟩,
     ⟨some 12, .bin .eql (.t 11) (.c (.int .i64 0)), none⟩])
    (.cond (.t 12)
     (.seq (.ops (some []) [⟨some 13, .mv (.t 0), none⟩,
       ⟨some 14, .load true 7 (.t 4), none⟩,
       ⟨some 15, .call 24 true [] [(.t 14)], none⟩,
       ⟨some 16, .un .not (.t 15), none⟩,
       ⟨some 17, .mv (.t 16), none⟩,
       ⟨some 18, .faddr 4 (.t 4), some (17, false)⟩,
       ⟨some 19, .load false 1 (.t 18), some (17, false)⟩,
       ⟨some 20, .un .not (.t 19), some (17, false)⟩,
       ⟨some 21, .pick (.t 17) (.c (.bool true)) (.t 20), none⟩,
       ⟨some 6, .mv (.t 13), none⟩,
       ⟨some 7, .mv (.t 21), none⟩])
      .ret)
     .skip))
   (.seq (.ops (some []) [⟨some 22, .mv (.t 0), none⟩,
     ⟨some 23, .iaddr 1 (.t 22) (.c (.int .i64 0)), none⟩,
     ⟨some 24, .load false 1 (.t 23), none⟩,
     ⟨some 25, .mv (.t 0), none⟩,
     ⟨some 26, .slice false 1 (.t 25) (some (.c (.int .i64 1))) none none, none⟩,
     ⟨some 8, .mv (.t 24), none⟩,
     ⟨some 9, .mv (.t 26), none⟩])
    (.seq (.seq (.ops none [⟨some 27, .mv (.t 2), none⟩])
      (.cond (.t 27)
       (.ops (some []) [⟨some 28, .mv (.t 0), none⟩,
        ⟨some 29, .mv (.t 0), none⟩,
        ⟨some 30, .len false (.t 29), none⟩,
        ⟨some 31, .bin .sub (.t 30) (.c (.int .i64 1)), none⟩,
        ⟨some 32, .iaddr 1 (.t 28) (.t 31), none⟩,
        ⟨some 33, .load false 1 (.t 32), none⟩,
        ⟨some 34, .mv (.t 0), none⟩,
        ⟨some 35, .mv (.t 0), none⟩,
        ⟨some 36, .len false (.t 35), none⟩,
        ⟨some 37, .bin .sub (.t 36) (.c (.int .i64 1)), none⟩,
        ⟨some 38, .slice false 1 (.t 34) none (some (.t 37)) none, none⟩,
        ⟨some 8, .mv (.t 33), none⟩,
        ⟨some 9, .mv (.t 38), none⟩])
       .skip))
     (.seq (.ops (some [(1, 2)]) [⟨some 39, .mv (.t 9), none⟩,
       ⟨some 40, .call 26 false [] [(.t 39)], none⟩,
       ⟨some 41, .load true 7 (.t 4), none⟩,
       ⟨some 42, .call 24 true [] [(.t 41)], none⟩,
       ⟨some 43, .un .not (.t 42), none⟩,
       ⟨some 44, .mv (.t 43), none⟩,
       ⟨some 45, .faddr 4 (.t 4), some (44, false)⟩,
       ⟨some 46, .load false 1 (.t 45), some (44, false)⟩,
       ⟨some 47, .mv (.t 46), some (44, false)⟩,
       ⟨some 48, .faddr 3 (.t 4), some (47, true)⟩,
       ⟨some 49, .load false 1 (.t 48), some (47, true)⟩,
       ⟨some 50, .mv (.t 8), some (47, true)⟩,
       ⟨some 51, .bin .eql (.t 49) (.t 50), some (47, true)⟩,
       ⟨some 52, .pick (.t 47) (.t 51) (.c (.bool false)), some (44, false)⟩,
       ⟨some 53, .pick (.t 44) (.c (.bool true)) (.t 52), none⟩,
       ⟨some 6, .mv (.t 40), none⟩,
       ⟨some 7, .mv (.t 53), none⟩])
      .ret)))))⟩
theorem cop20 : copF Tryd.prog raws [] 20 = some ir20 := by kernel_rfl
/-- tenterhook/lin.search -/
def ir21 : F := ⟨14, [.t 4],
 (.seq (.ops none [⟨some 2, .box (.t 0), none⟩,
   ⟨some 3, .box (.t 1), none⟩,
   ⟨some 4, .mv (.c (.bool false)), none⟩])
  (.seq (.ops none [⟨some 7, .mkmap, none⟩,
    ⟨some 5, .alloc [.undef], none⟩,
    ⟨none, .store 1 (.t 5) (.t 7), none⟩])
   (.seq (.ops none [⟨some 6, .alloc [.nilfn], none⟩])
    (.seq (.ops none [⟨some 8, .mkfunc 27 [] [(.t 5), (.t 2), (.t 3), (.t 6)], none⟩,
      ⟨none, .store 1 (.t 6) (.t 8), none⟩])
     (.seq (.ops (some [(0, 3)]) [⟨some 9, .load false 1 (.t 6), none⟩,
       ⟨some 10, .load false 1 (.t 2), none⟩,
       ⟨some 11, .len false (.t 10), none⟩,
       ⟨some 12, .mkslice 1 [.bool false] (.t 11) (.t 11), none⟩,
       ⟨some 13, .callv false [] (.t 9) [(.t 12), (.c (.nil))], none⟩,
       ⟨some 4, .mv (.t 13), none⟩])
      .ret)))))⟩
theorem cop21 : copF Tryd.prog raws [] 21 = some ir21 := by kernel_rfl
/-- tenterhook/tenterhookref22.some -/
def ir22 : F := ⟨67, [.t 8],
 (.seq (.ops none [⟨some 8, .mv (.c (.bool false)), none⟩])
  (.seq (.ops none [⟨some 9, .mv (.c (.bool true)), none⟩])
   (.seq (.seq (.ops none [⟨some 10, .mv (.c (.int .i64 0)), none⟩])
     (.block 0 (.loop [0, 1, 2, 3, 9, 10] []
       (.seq (.seq (.ops none [⟨some 14, .mv (.t 10), none⟩,
          ⟨some 15, .mv (.t 0), none⟩,
          ⟨some 16, .len false (.t 15), none⟩,
          ⟨some 17, .bin .lss (.t 14) (.t 16), none⟩])
         (.cond (.t 17)
          .skip
          (.exit 0)))
        (.seq (.block 1 (.ops none [⟨some 20, .mv (.t 9), none⟩,
           ⟨some 21, .mv (.t 20), none⟩,
           ⟨some 22, .mv (.t 1), some (21, true)⟩,
           ⟨some 23, .mv (.t 10), some (21, true)⟩,
           ⟨some 24, .iaddr 1 (.t 22) (.t 23), some (21, true)⟩,
           ⟨some 25, .load false 1 (.t 24), some (21, true)⟩,
           ⟨some 26, .mv (.t 25), some (21, true)⟩,
           ⟨some 27, .mv (.t 0), some (26, false)⟩,
           ⟨some 28, .mv (.t 10), some (26, false)⟩,
           ⟨some 29, .iaddr 7 (.t 27) (.t 28), some (26, false)⟩,
           ⟨some 30, .faddr 6 (.t 29), some (26, false)⟩,
           ⟨some 31, .load false 1 (.t 30), some (26, false)⟩,
           ⟨some 32, .bin .lss (.t 31) (.c (.int .i64 0)), some (26, false)⟩,
           ⟨some 33, .pick (.t 26) (.c (.bool true)) (.t 32), some (21, true)⟩,
           ⟨some 34, .pick (.t 21) (.t 33) (.c (.bool false)), none⟩,
           ⟨some 9, .mv (.t 34), none⟩]))
         (.ops none [⟨some 18, .mv (.t 10), none⟩,
          ⟨some 19, .bin .add (.t 18) (.c (.int .i64 1)), none⟩,
          ⟨some 10, .mv (.t 19), none⟩]))))))
    (.seq (.seq (.ops none [⟨some 35, .mv (.t 9), none⟩])
      (.cond (.t 35)
       (.seq (.ops none [⟨some 8, .mv (.c (.bool true)), none⟩])
        .ret)
       .skip))
     (.seq (.seq (.ops none [⟨some 11, .mv (.c (.int .i64 0)), none⟩])
       (.block 2 (.loop [0, 1, 2, 3, 11] []
         (.seq (.seq (.ops none [⟨some 36, .mv (.t 11), none⟩,
            ⟨some 37, .mv (.t 0), none⟩,
            ⟨some 38, .len false (.t 37), none⟩,
            ⟨some 39, .bin .lss (.t 36) (.t 38), none⟩])
           (.cond (.t 39)
            .skip
            (.exit 2)))
          (.seq (.block 3 (.seq (.seq (.ops none [⟨some 42, .mv (.t 0), none⟩,
               ⟨some 43, .mv (.t 1), none⟩,
               ⟨some 44, .mv (.t 11), none⟩,
               ⟨some 45, .call 18 true [] [(.t 42), (.t 43), (.t 44)], none⟩,
               ⟨some 46, .un .not (.t 45), none⟩])
              (.cond (.t 46)
               (.exit 3)
               .skip))
             (.seq (.ops none [⟨some 48, .mv (.t 2), none⟩,
               ⟨some 49, .mv (.t 0), none⟩,
               ⟨some 50, .mv (.t 11), none⟩,
               ⟨some 51, .iaddr 7 (.t 49) (.t 50), none⟩,
               ⟨some 52, .load true 7 (.t 51), none⟩,
               ⟨some 53, .mv (.t 3), none⟩,
               ⟨some 54, .call 12 false [] [(.t 48), (.t 52), (.t 53)], none⟩,
               ⟨some 47, .mv (.t 54), none⟩,
               ⟨some 55, .ext (.t 47) 0, none⟩,
               ⟨some 56, .ext (.t 47) 1, none⟩,
               ⟨some 12, .mv (.t 55), none⟩,
               ⟨some 13, .mv (.t 56), none⟩])
              (.seq (.ops none [⟨some 57, .mv (.t 13), none⟩,
                ⟨some 58, .mv (.t 57), none⟩,
                ⟨some 59, .mv (.t 0), some (58, true)⟩,
                ⟨some 60, .mv (.t 1), some (58, true)⟩,
                ⟨some 61, .mv (.t 11), some (58, true)⟩,
                ⟨some 62, .call 30 false [] [(.t 60), (.t 61)], some (58, true)⟩,
                ⟨some 63, .mv (.t 12), some (58, true)⟩,
                ⟨some 64, .mv (.t 3), some (58, true)⟩,
                ⟨some 65, .call 22 true [] [(.t 59), (.t 62), (.t 63), (.t 64)], some (58, true)⟩,
                ⟨some 66, .pick (.t 58) (.t 65) (.c (.bool false)), none⟩])
               (.cond (.t 66)
                (.seq (.ops none [⟨some 8, .mv (.c (.bool true)), none⟩])
                 .ret)
                .skip)))))
           (.ops none [⟨some 40, .mv (.t 11), none⟩,
            ⟨some 41, .bin .add (.t 40) (.c (.int .i64 1)), none⟩,
            ⟨some 11, .mv (.t 41), none⟩]))))))
      (.seq (.ops none [⟨some 8, .mv (.c (.bool false)), none⟩])
       .ret))))))⟩
theorem cop22 : copF Tryd.prog raws [([0, 1, 2, 3, 9, 10], []), ([0, 1, 2, 3, 11], [])] 22 = some ir22 := by kernel_rfl
/-- tenterhook/lin.is -/
def ir23 : F := ⟨15, [.t 4],
 (.seq (.ops none [⟨some 4, .mv (.c (.bool false)), none⟩])
  (.seq (.ops none [⟨some 5, .mv (.t 1), none⟩,
    ⟨some 6, .mv (.t 0), none⟩,
    ⟨some 7, .len false (.t 6), none⟩,
    ⟨some 8, .bin .lss (.t 5) (.t 7), none⟩,
    ⟨some 9, .mv (.t 8), none⟩,
    ⟨some 10, .mv (.t 0), some (9, true)⟩,
    ⟨some 11, .mv (.t 1), some (9, true)⟩,
    ⟨some 12, .iaddr 1 (.t 10) (.t 11), some (9, true)⟩,
    ⟨some 13, .load false 1 (.t 12), some (9, true)⟩,
    ⟨some 14, .pick (.t 9) (.t 13) (.c (.bool false)), none⟩,
    ⟨some 4, .mv (.t 14), none⟩])
   .ret))⟩
theorem cop23 : copF Tryd.prog raws [] 23 = some ir23 := by kernel_rfl
/-- tenterhook/lin.ended -/
def ir24 : F := ⟨6, [.t 2],
 (.seq (.ops none [⟨some 1, .box (.t 0), none⟩,
   ⟨some 2, .mv (.c (.bool false)), none⟩])
  (.seq (.ops none [⟨some 3, .faddr 6 (.t 1), none⟩,
    ⟨some 4, .load false 1 (.t 3), none⟩,
    ⟨some 5, .bin .geq (.t 4) (.c (.int .i64 0)), none⟩,
    ⟨some 2, .mv (.t 5), none⟩])
   .ret))⟩
theorem cop24 : copF Tryd.prog raws [] 24 = some ir24 := by kernel_rfl
/-- tenterhook/tenterhookref22.isDone -/
def ir25 : F := ⟨15, [.t 4],
 (.seq (.ops none [⟨some 4, .mv (.c (.bool false)), none⟩])
  (.seq (.ops none [⟨some 5, .mv (.t 1), none⟩,
    ⟨some 6, .mv (.t 0), none⟩,
    ⟨some 7, .len false (.t 6), none⟩,
    ⟨some 8, .bin .lss (.t 5) (.t 7), none⟩,
    ⟨some 9, .mv (.t 8), none⟩,
    ⟨some 10, .mv (.t 0), some (9, true)⟩,
    ⟨some 11, .mv (.t 1), some (9, true)⟩,
    ⟨some 12, .iaddr 1 (.t 10) (.t 11), some (9, true)⟩,
    ⟨some 13, .load false 1 (.t 12), some (9, true)⟩,
    ⟨some 14, .pick (.t 9) (.t 13) (.c (.bool false)), none⟩,
    ⟨some 4, .mv (.t 14), none⟩])
   .ret))⟩
theorem cop25 : copF Tryd.prog raws [] 25 = some ir25 := by kernel_rfl
/-- slices.Clone[[]int,int] -/
def ir26 : F := ⟨8, [.t 2],
 (.seq (.ops none [⟨some 2, .mv (.c (.nil)), none⟩])
  (.seq (.seq (.ops none [⟨some 3, .mv (.t 0), none⟩,
     ⟨some 4, .eqNil false false (.t 3), none⟩])
    (.cond (.t 4)
     (.seq (.ops none [⟨some 2, .mv (.c (.nil)), none⟩])
      .ret)
     .skip))
   (.seq (.ops none [⟨some 5, .bslice 1 0 [.int .i64 0] [], none⟩,
     ⟨some 6, .mv (.t 0), none⟩,
     ⟨some 7, .append 1 (.t 5) (.t 6), none⟩,
     ⟨some 2, .mv (.t 7), none⟩])
    .ret)))⟩
theorem cop26 : copF Tryd.prog raws [] 26 = some ir26 := by kernel_rfl
/-- tenterhook/lin.search$1 -/
def ir27 : F := ⟨80, [.t 8],
 (.seq (.ops none [⟨some 8, .mv (.c (.bool false)), none⟩])
  (.seq (.ops none [⟨some 18, .mv (.t 0), none⟩,
    ⟨some 19, .mv (.t 1), none⟩,
    ⟨some 20, .call 28 true [] [(.t 18), (.t 19)], none⟩,
    ⟨some 9, .mv (.t 20), none⟩])
   (.seq (.seq (.ops none [⟨some 21, .load false 1 (.t 2), none⟩,
      ⟨some 22, .mv (.t 9), none⟩,
      ⟨some 23, .lookup 2 [.bool false] false (.t 21) (.t 22), none⟩])
     (.cond (.t 23)
      (.seq (.ops none [⟨some 8, .mv (.c (.bool false)), none⟩])
       .ret)
      .skip))
    (.seq (.ops none [⟨some 24, .load false 1 (.t 2), none⟩,
      ⟨some 25, .mv (.t 9), none⟩,
      ⟨none, .mapup 2 (.t 24) (.t 25) (.c (.bool true)), none⟩])
     (.seq (.ops none [⟨some 10, .mv (.c (.bool false)), none⟩])
      (.seq (.seq (.ops none [⟨some 26, .load false 1 (.t 3), none⟩,
         ⟨some 27, .len false (.t 26), none⟩,
         ⟨some 28, .mv (.c (.int .i64 0)), none⟩])
        (.block 0 (.loop [0, 1, 3, 4, 5, 10, 26, 27, 28] []
          (.seq (.ops none [⟨some 29, .bin .lss (.t 28) (.t 27), none⟩])
           (.seq (.cond (.t 29)
             .skip
             (.exit 0))
            (.seq (.block 1 (.seq (.ops none [⟨some 30, .mv (.t 28), none⟩,
                ⟨some 31, .iaddr 7 (.t 26) (.t 28), none⟩,
                ⟨some 32, .load true 7 (.t 31), none⟩,
                ⟨some 12, .alloc [.int .i64 0, .int .i64 0, .int .i64 0, .int .i64 0, .bool false, .int .i64 0, .int .i64 0], none⟩,
                ⟨some 11, .mv (.t 30), none⟩,
                ⟨none, .store 7 (.t 12) (.t 32), none⟩])
               (.ops none [⟨some 33, .mv (.t 10), none⟩,
                ⟨some 34, .mv (.t 33), none⟩,
                ⟨some 35, .mv (.t 0), some (34, false)⟩,
                ⟨some 36, .mv (.t 11), some (34, false)⟩,
                ⟨some 37, .iaddr 1 (.t 35) (.t 36), some (34, false)⟩,
                ⟨some 38, .load false 1 (.t 37), some (34, false)⟩,
                ⟨some 39, .un .not (.t 38), some (34, false)⟩,
                ⟨some 40, .mv (.t 39), some (34, false)⟩,
                ⟨some 41, .load true 7 (.t 12), some (40, true)⟩,
                ⟨some 42, .call 24 true [] [(.t 41)], some (40, true)⟩,
                ⟨some 43, .pick (.t 40) (.t 42) (.c (.bool false)), some (34, false)⟩,
                ⟨some 44, .pick (.t 34) (.c (.bool true)) (.t 43), none⟩,
                ⟨some 10, .mv (.t 44), none⟩])))
             (.ops none [⟨some 45, .bin .add (.t 28) (.c (.int .i64 1)), none⟩,
              ⟨some 28, .mv (.t 45), none⟩])))))))
       (.seq (.seq (.ops none [⟨some 46, .mv (.t 10), none⟩,
          ⟨some 47, .un .not (.t 46), none⟩])
         (.cond (.t 47)
          (.seq (.ops none [⟨some 8, .mv (.c (.bool true)), none⟩])
           .ret)
          .skip))
        (.seq (.seq (.ops none [⟨some 48, .load false 1 (.t 3), none⟩,
           ⟨some 49, .len false (.t 48), none⟩,
           ⟨some 50, .mv (.c (.int .i64 0)), none⟩])
          (.block 2 (.loop [0, 1, 3, 4, 5, 48, 49, 50] []
            (.seq (.ops none [⟨some 51, .bin .lss (.t 50) (.t 49), none⟩])
             (.seq (.cond (.t 51)
               .skip
               (.exit 2))
              (.seq (.block 3 (.seq (.ops none [⟨some 52, .mv (.t 50), none⟩,
                  ⟨some 53, .iaddr 7 (.t 48) (.t 50), none⟩,
                  ⟨some 54, .load true 7 (.t 53), none⟩,
                  ⟨some 14, .alloc [.int .i64 0, .int .i64 0, .int .i64 0, .int .i64 0, .bool false, .int .i64 0, .int .i64 0], none⟩,
                  ⟨some 13, .mv (.t 52), none⟩,
                  ⟨none, .store 7 (.t 14) (.t 54), none⟩])
                 (.seq (.seq (.ops none [⟨some 55, .load false 1 (.t 3), none⟩,
                    ⟨some 56, .mv (.t 0), none⟩,
                    ⟨some 57, .mv (.t 13), none⟩,
                    ⟨some 58, .call 17 true [] [(.t 55), (.t 56), (.t 57)], none⟩,
                    ⟨some 59, .un .not (.t 58), none⟩])
                   (.cond (.t 59)
                    (.exit 3)
                    .skip))
                  (.seq (.ops none [⟨some 61, .mv (.t 1), none⟩,
                    ⟨some 62, .load true 7 (.t 14), none⟩,
                    ⟨some 63, .load false 1 (.t 4), none⟩,
                    ⟨some 64, .call 10 false [] [(.t 61), (.t 62), (.t 63)], none⟩,
                    ⟨some 60, .mv (.t 64), none⟩,
                    ⟨some 65, .ext (.t 60) 0, none⟩,
                    ⟨some 66, .ext (.t 60) 1, none⟩,
                    ⟨some 15, .mv (.t 65), none⟩,
                    ⟨some 16, .mv (.t 66), none⟩])
                   (.seq (.ops none [⟨some 67, .mv (.t 0), none⟩,
                     ⟨some 68, .call 29 false [] [(.t 67)], none⟩,
                     ⟨some 17, .mv (.t 68), none⟩])
                    (.seq (.ops none [⟨some 69, .mv (.t 17), none⟩,
                      ⟨some 70, .mv (.t 13), none⟩,
                      ⟨some 71, .iaddr 1 (.t 69) (.t 70), none⟩,
                      ⟨none, .store 1 (.t 71) (.c (.bool true)), none⟩])
                     (.seq (.ops none [⟨some 72, .mv (.t 16), none⟩,
                       ⟨some 73, .mv (.t 72), none⟩,
                       ⟨some 74, .load false 1 (.t 5), some (73, true)⟩,
                       ⟨some 75, .mv (.t 17), some (73, true)⟩,
                       ⟨some 76, .mv (.t 15), some (73, true)⟩,
                       ⟨some 77, .callv false [] (.t 74) [(.t 75), (.t 76)], some (73, true)⟩,
                       ⟨some 78, .pick (.t 73) (.t 77) (.c (.bool false)), none⟩])
                      (.cond (.t 78)
                       (.seq (.ops none [⟨some 8, .mv (.c (.bool true)), none⟩])
                        .ret)
                       .skip))))))))
               (.ops none [⟨some 79, .bin .add (.t 50) (.c (.int .i64 1)), none⟩,
                ⟨some 50, .mv (.t 79), none⟩])))))))
         (.seq (.ops none [⟨some 8, .mv (.c (.bool false)), none⟩])
          .ret)))))))))⟩
theorem cop27 : copF Tryd.prog raws [([0, 1, 3, 4, 5, 10, 26, 27, 28], []), ([0, 1, 3, 4, 5, 48, 49, 50], [])] 27 = some ir27 := by kernel_rfl
/-- slices.Clone[[]bool,bool] -/
def ir29 : F := ⟨8, [.t 2],
 (.seq (.ops none [⟨some 2, .mv (.c (.nil)), none⟩])
  (.seq (.seq (.ops none [⟨some 3, .mv (.t 0), none⟩,
     ⟨some 4, .eqNil false false (.t 3), none⟩])
    (.cond (.t 4)
     (.seq (.ops none [⟨some 2, .mv (.c (.nil)), none⟩])
      .ret)
     .skip))
   (.seq (.ops none [⟨some 5, .bslice 1 0 [.bool false] [], none⟩,
     ⟨some 6, .mv (.t 0), none⟩,
     ⟨some 7, .append 1 (.t 5) (.t 6), none⟩,
     ⟨some 2, .mv (.t 7), none⟩])
    .ret)))⟩
theorem cop29 : copF Tryd.prog raws [] 29 = some ir29 := by kernel_rfl
/-- tenterhook/tenterhookref22.with -/
def ir30 : F := ⟨13, [.t 4],
 (.seq (.ops none [⟨some 4, .mv (.c (.nil)), none⟩])
  (.seq (.ops none [⟨some 6, .bslice 1 0 [.bool false] [], none⟩,
    ⟨some 7, .mv (.t 0), none⟩,
    ⟨some 8, .append 1 (.t 6) (.t 7), none⟩,
    ⟨some 5, .mv (.t 8), none⟩])
   (.seq (.ops none [⟨some 9, .mv (.t 5), none⟩,
     ⟨some 10, .mv (.t 1), none⟩,
     ⟨some 11, .iaddr 1 (.t 9) (.t 10), none⟩,
     ⟨none, .store 1 (.t 11) (.c (.bool true)), none⟩])
    (.seq (.ops none [⟨some 12, .mv (.t 5), none⟩,
      ⟨some 4, .mv (.t 12), none⟩])
     .ret))))⟩
theorem cop30 : copF Tryd.prog raws [] 30 = some ir30 := by kernel_rfl
def tab : List (Nat × Def) := [(3, .pub ir3), (4, .pub ir4), (5, .pub ir5), (6, .pub ir6), (7, .pub ir7), (8, .pub ir8), (9, .pub ir9), (10, .pub ir10), (11, .pub ir11), (12, .pub ir12), (13, .pub ir13), (14, .pub ir14), (15, .pub ir15), (16, .pub ir16), (17, .pub ir17), (18, .pub ir18), (19, .pub ir19), (20, .pub ir20), (21, .pub ir21), (22, .pub ir22), (23, .pub ir23), (24, .pub ir24), (25, .pub ir25), (26, .body ir26), (27, .body ir27), (29, .body ir29), (30, .pub ir30)]
def env0 : Env := fun f => tab.lookup f
theorem env0Ok : EnvOk Tryd.prog raws env0 := envOk_of (tab := tab) (by
  unfold tab
  exact List.forall_mem_cons.2 ⟨⟨_, cop3⟩, List.forall_mem_cons.2 ⟨⟨_, cop4⟩, List.forall_mem_cons.2 ⟨⟨_, cop5⟩, List.forall_mem_cons.2 ⟨⟨_, cop6⟩, List.forall_mem_cons.2 ⟨⟨_, cop7⟩, List.forall_mem_cons.2 ⟨⟨_, cop8⟩, List.forall_mem_cons.2 ⟨⟨_, cop9⟩, List.forall_mem_cons.2 ⟨⟨_, cop10⟩, List.forall_mem_cons.2 ⟨⟨_, cop11⟩, List.forall_mem_cons.2 ⟨⟨_, cop12⟩, List.forall_mem_cons.2 ⟨⟨_, cop13⟩, List.forall_mem_cons.2 ⟨⟨_, cop14⟩, List.forall_mem_cons.2 ⟨⟨_, cop15⟩, List.forall_mem_cons.2 ⟨⟨_, cop16⟩, List.forall_mem_cons.2 ⟨⟨_, cop17⟩, List.forall_mem_cons.2 ⟨⟨_, cop18⟩, List.forall_mem_cons.2 ⟨⟨_, cop19⟩, List.forall_mem_cons.2 ⟨⟨_, cop20⟩, List.forall_mem_cons.2 ⟨⟨_, cop21⟩, List.forall_mem_cons.2 ⟨⟨_, cop22⟩, List.forall_mem_cons.2 ⟨⟨_, cop23⟩, List.forall_mem_cons.2 ⟨⟨_, cop24⟩, List.forall_mem_cons.2 ⟨⟨_, cop25⟩, List.forall_mem_cons.2 ⟨⟨_, cop26⟩, List.forall_mem_cons.2 ⟨⟨_, cop27⟩, List.forall_mem_cons.2 ⟨⟨_, cop29⟩, List.forall_mem_cons.2 ⟨⟨_, cop30⟩, List.forall_mem_nil _⟩⟩⟩⟩⟩⟩⟩⟩⟩⟩⟩⟩⟩⟩⟩⟩⟩⟩⟩⟩⟩⟩⟩⟩⟩⟩⟩)
section
open Go.RowKit
set_option maxHeartbeats 4000000
set_option maxRecDepth 100000
theorem cl26n (cap : Nat) (w : World) : Calls Tryd.prog 26 #[.slice none 0 cap] w (fun e w' => e = .returned (.slice none 0 0) ∧ w' = w) := by
  have heq : ∀ (n c : Nat) (W : World), (binOp .eql 23 (.slice none n c) (.slice none 0 0)).run Tryd.prog W = .ok (.bool true) W := fun n c W => Go.Lib.run_eql_slice_nil W 23 3 none n c 0 0 Tryd.underlying23
  go_enter Tryd.func26, Tryd.ntmps26
  go_wp2
  go_ret
  exact ⟨rfl, rfl⟩
theorem cl26e (a : Addr) (cap : Nat) (w : World) : Calls Tryd.prog 26 #[.slice (some a) 0 cap] w (fun e w' => e = .returned (.slice (some ⟨w.heap.size, 0, none⟩) 0 0) ∧ w' = w.alloc (.cells #[] 3)) := by
  have heq : ∀ (n c : Nat) (W : World), (binOp .eql 23 (.slice (some a) n c) (.slice none 0 0)).run Tryd.prog W = .ok (.bool false) W := fun n c W => Go.Lib.run_eql_slice_nil W 23 3 (some a) n c 0 0 Tryd.underlying23
  go_enter Tryd.func26, Tryd.ntmps26
  go_wp2
  go_ret
  exact ⟨rfl, rfl⟩
theorem cl29n (cap : Nat) (w : World) : Calls Tryd.prog 29 #[.slice none 0 cap] w (fun e w' => e = .returned (.slice none 0 0) ∧ w' = w) := by
  have heq : ∀ (n c : Nat) (W : World), (binOp .eql 24 (.slice none n c) (.slice none 0 0)).run Tryd.prog W = .ok (.bool true) W := fun n c W => Go.Lib.run_eql_slice_nil W 24 4 none n c 0 0 Tryd.underlying24
  go_enter Tryd.func29, Tryd.ntmps29
  go_wp2
  go_ret
  exact ⟨rfl, rfl⟩
theorem cl29e (a : Addr) (cap : Nat) (w : World) : Calls Tryd.prog 29 #[.slice (some a) 0 cap] w (fun e w' => e = .returned (.slice (some ⟨w.heap.size, 0, none⟩) 0 0) ∧ w' = w.alloc (.cells #[] 4)) := by
  have heq : ∀ (n c : Nat) (W : World), (binOp .eql 24 (.slice (some a) n c) (.slice none 0 0)).run Tryd.prog W = .ok (.bool false) W := fun n c W => Go.Lib.run_eql_slice_nil W 24 4 (some a) n c 0 0 Tryd.underlying24
  go_enter Tryd.func29, Tryd.ntmps29
  go_wp2
  go_ret
  exact ⟨rfl, rfl⟩
end
noncomputable def env1_ : Env := fun n => if n = 26 then some (.prim (cloneG 1 (ev env0) 26)) else env0 n
theorem envOk1_ : EnvOk Tryd.prog raws env1_ := envOk_prim env0Ok ⟨Tryd.f26, _, Tryd.func26, rfl, by decide⟩ (clone_ok cl26n cl26e (ev_sound env0Ok))
noncomputable def envh : Env := fun n => if n = 29 then some (.prim (cloneG 1 (ev env0) 29)) else env1_ n
theorem envhOk : EnvOk Tryd.prog raws envh := envOk_prim envOk1_ ⟨Tryd.f29, _, Tryd.func29, rfl, by decide⟩ (clone_ok cl29n cl29e (ev_sound env0Ok))
theorem envhP26 : envh 26 = some (.prim (cloneG 1 (ev env0) 26)) := rfl
theorem envZ26 : env0 26 = some (.body ir26) := by kernel_rfl
theorem envhP29 : envh 29 = some (.prim (cloneG 1 (ev env0) 29)) := rfl
theorem envZ29 : env0 29 = some (.body ir29) := by kernel_rfl
end Go.Proofs.YtipnedhclbopdaaDoorR
