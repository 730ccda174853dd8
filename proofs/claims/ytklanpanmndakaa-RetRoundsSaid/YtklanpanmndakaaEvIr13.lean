/- EvIr13: a part of the proof. -/
import Derived.Test.YtklanpanmndakaaEv5
import Derived.Test.YtklanpanmndakaaEv6
import Derived.Test.YtklanpanmndakaaEvCln2
import Derived.WalkKit
import Derived.WalkSpells
import Derived.Test.YtklanpanmndakaaRows
import Derived.KernelRfl
set_option linter.unusedVariables false
set_option linter.unusedSimpArgs false
set_option maxRecDepth 20000
namespace Go.Proofs.YtklanpanmndakaaR
open Go Go.Proofs.YtklanpanmndakaaEv Go.Proofs
def raws : Nat → List Bool := fun f => ([] : List (Nat × List Bool)).lookup f |>.getD []
/-- tenterhook/tenterhooklaw13.RetDeep -/
def ir3 : F := ⟨130, [.t 4],
 (.seq (.ops none [⟨some 2, .box (.t 0), none⟩,
   ⟨some 4, .mv (.c (.bool false)), none⟩])
  (.seq (.ops none [⟨some 17, .call 10 true [] [], none⟩,
    ⟨some 5, .mv (.t 17), none⟩])
   (.seq (.seq (.ops none [⟨some 18, .load true 5 (.t 2), none⟩,
      ⟨some 19, .call 11 true [] [(.t 18)], none⟩,
      ⟨some 20, .un .not (.t 19), none⟩,
      ⟨some 21, .mv (.t 20), none⟩,
      ⟨some 22, .load true 5 (.t 2), some (21, false)⟩,
      ⟨some 23, .call 13 false [] [(.t 22)], some (21, false)⟩,
      ⟨some 24, .call 12 true [] [(.t 23)], some (21, false)⟩,
      ⟨some 25, .un .not (.t 24), some (21, false)⟩,
      ⟨some 26, .pick (.t 21) (.c (.bool true)) (.t 25), none⟩,
      ⟨some 27, .mv (.t 26), none⟩,
      ⟨some 28, .mv (.t 1), some (27, false)⟩,
      ⟨some 29, .len false (.t 28), some (27, false)⟩,
      ⟨some 30, .faddr 1 (.t 2), some (27, false)⟩,
      ⟨some 31, .load false 1 (.t 30), some (27, false)⟩,
      ⟨some 32, .len false (.t 31), some (27, false)⟩,
      ⟨some 33, .bin .add (.t 29) (.t 32), some (27, false)⟩,
      ⟨some 34, .bin .gtr (.t 33) (.c (.int .i64 64)), some (27, false)⟩,
      ⟨some 35, .pick (.t 27) (.c (.bool true)) (.t 34), none⟩,
      ⟨some 36, .mv (.t 35), none⟩,
      ⟨some 37, .mv (.t 1), some (36, false)⟩,
      ⟨some 38, .len false (.t 37), some (36, false)⟩,
      ⟨some 39, .bin .gtr (.t 38) (.c (.int .i64 64)), some (36, false)⟩,
      ⟨some 40, .pick (.t 36) (.c (.bool true)) (.t 39), none⟩])
     (.cond (.t 40)
      (.seq (.ops none [⟨some 41, .mv (.t 5), none⟩,
        ⟨some 4, .mv (.t 41), none⟩])
       .ret)
      .skip))
    (.seq (.ops none [⟨some 42, .load true 5 (.t 2), none⟩,
      ⟨some 43, .call 13 false [] [(.t 42)], none⟩,
      ⟨some 6, .alloc [.nil, .nil, .int .i64 0, .int .i64 0, .int .i64 0], none⟩,
      ⟨none, .store 5 (.t 6) (.t 43), none⟩])
     (.seq (.ops none [⟨some 7, .mv (.c (.nil)), none⟩])
      (.seq (.seq (.ops none [⟨some 8, .mv (.c (.int .i64 0)), none⟩])
        (.block 0 (.loop [1, 2, 5, 6, 7, 8] [(7, none, 2)]
          (.seq (.seq (.ops none [⟨some 44, .mv (.t 8), none⟩,
             ⟨some 45, .mv (.t 1), none⟩,
             ⟨some 46, .len false (.t 45), none⟩,
             ⟨some 47, .bin .lss (.t 44) (.t 46), none⟩])
            (.cond (.t 47)
             .skip
             (.exit 0)))
           (.seq (.block 1 (.seq (.ops none [⟨some 50, .mv (.t 7), none⟩,
               ⟨some 51, .faddr 2 (.t 6), none⟩,
               ⟨some 52, .load true 2 (.t 51), none⟩,
               ⟨some 53, .bslice 2 1 [.int .i64 0, .int .i64 0] [(0, (.t 52))], none⟩,
               ⟨some 54, .append 2 (.t 50) (.t 53), none⟩,
               ⟨some 7, .mv (.t 54), none⟩])
              (.seq (.ops (some [(0, 10), (4, 10), (6, 10)]) [⟨some 56, .load true 5 (.t 6), none⟩,
                ⟨some 57, .mv (.t 1), none⟩,
                ⟨some 58, .mv (.t 8), none⟩,
                ⟨some 59, .iaddr 1 (.t 57) (.t 58), none⟩,
                ⟨some 60, .load false 1 (.t 59), none⟩,
                ⟨some 61, .bin .and (.t 60) (.c (.int .i64 16777215)), none⟩,
                ⟨some 62, .call 14 false [] [(.t 56), (.t 61)], none⟩,
                ⟨some 55, .mv (.t 62), none⟩,
                ⟨some 63, .ext (.t 55) 0, none⟩,
                ⟨some 64, .ext (.t 55) 1, none⟩,
                ⟨some 9, .alloc [.nil, .nil, .int .i64 0, .int .i64 0, .int .i64 0], none⟩,
                ⟨none, .store 5 (.t 9) (.t 63), none⟩,
                ⟨some 10, .mv (.t 64), none⟩])
               (.seq (.ops none [⟨some 66, .mv (.t 1), none⟩,
                 ⟨some 67, .mv (.t 8), none⟩,
                 ⟨some 68, .iaddr 1 (.t 66) (.t 67), none⟩,
                 ⟨some 69, .load false 1 (.t 68), none⟩,
                 ⟨some 70, .bin .and (.t 69) (.c (.int .i64 16777215)), none⟩,
                 ⟨some 71, .call 15 true [] [(.t 70)], none⟩,
                 ⟨some 65, .mv (.t 71), none⟩,
                 ⟨some 72, .ext (.t 65) 0, none⟩,
                 ⟨some 73, .ext (.t 65) 1, none⟩,
                 ⟨some 11, .alloc [.int .i64 0, .int .i64 0], none⟩,
                 ⟨none, .store 2 (.t 11) (.t 72), none⟩,
                 ⟨some 12, .mv (.t 73), none⟩])
                (.seq (.seq (.ops none [⟨some 74, .mv (.t 10), none⟩,
                   ⟨some 75, .bin .neq (.t 74) (.c (.int .i64 0)), none⟩,
                   ⟨some 76, .mv (.t 75), none⟩,
                   ⟨some 77, .mv (.t 12), some (76, false)⟩,
                   ⟨some 78, .un .not (.t 77), some (76, false)⟩,
                   ⟨some 79, .pick (.t 76) (.c (.bool true)) (.t 78), none⟩,
                   ⟨some 80, .mv (.t 79), none⟩,
                   ⟨some 81, .faddr 2 (.t 9), some (80, false)⟩,
                   ⟨some 82, .load true 2 (.t 81), some (80, false)⟩,
                   ⟨some 83, .load true 2 (.t 11), some (80, false)⟩,
                   ⟨some 84, .eqS true [0, 0] (.t 82) (.t 83), some (80, false)⟩,
                   ⟨some 85, .pick (.t 80) (.c (.bool true)) (.t 84), none⟩,
                   ⟨some 86, .mv (.t 85), none⟩,
                   ⟨some 87, .faddr 0 (.t 9), some (86, false)⟩,
                   ⟨some 88, .load false 1 (.t 87), some (86, false)⟩,
                   ⟨some 89, .faddr 0 (.t 2), some (86, false)⟩,
                   ⟨some 90, .load false 1 (.t 89), some (86, false)⟩,
                   ⟨some 91, .call 16 true [] [(.t 88), (.t 90)], some (86, false)⟩,
                   ⟨some 92, .un .not (.t 91), some (86, false)⟩,
                   ⟨some 93, .pick (.t 86) (.c (.bool true)) (.t 92), none⟩])
                  (.cond (.t 93)
                   (.seq (.ops none [⟨some 4, .mv (.c (.bool false)), none⟩])
                    .ret)
                   .skip))
                 (.ops none [⟨some 94, .load true 5 (.t 9), none⟩,
                  ⟨none, .store 5 (.t 6) (.t 94), none⟩]))))))
            (.ops none [⟨some 48, .mv (.t 8), none⟩,
             ⟨some 49, .bin .add (.t 48) (.c (.int .i64 1)), none⟩,
             ⟨some 8, .mv (.t 49), none⟩]))))))
       (.seq (.seq (.ops none [⟨some 95, .mv (.t 1), none⟩,
          ⟨some 96, .len false (.t 95), none⟩,
          ⟨some 97, .bin .sub (.t 96) (.c (.int .i64 1)), none⟩,
          ⟨some 13, .mv (.t 97), none⟩])
         (.block 2 (.loop [2, 5, 6, 7, 13] []
           (.seq (.seq (.ops none [⟨some 98, .mv (.t 13), none⟩,
              ⟨some 99, .bin .geq (.t 98) (.c (.int .i64 0)), none⟩])
             (.cond (.t 99)
              .skip
              (.exit 2)))
            (.seq (.block 3 (.seq (.ops none [⟨some 103, .load true 5 (.t 6), none⟩,
                ⟨some 104, .call 17 false [] [(.t 103)], none⟩,
                ⟨some 102, .mv (.t 104), none⟩,
                ⟨some 105, .ext (.t 102) 0, none⟩,
                ⟨some 106, .ext (.t 102) 1, none⟩,
                ⟨some 107, .ext (.t 102) 2, none⟩,
                ⟨some 14, .alloc [.nil, .nil, .int .i64 0, .int .i64 0, .int .i64 0], none⟩,
                ⟨none, .store 5 (.t 14) (.t 105), none⟩,
                ⟨some 15, .mv (.t 106), none⟩,
                ⟨some 16, .mv (.t 107), none⟩])
               (.seq (.seq (.ops (some []) [⟨some 108, .mv (.t 15), none⟩,
                  ⟨some 109, .mv (.t 108), none⟩,
                  ⟨some 110, .mv (.t 16), some (109, false)⟩,
                  ⟨some 111, .bin .neq (.t 110) (.c (.int .i64 0)), some (109, false)⟩,
                  ⟨some 112, .pick (.t 109) (.c (.bool true)) (.t 111), none⟩,
                  ⟨some 113, .mv (.t 112), none⟩,
                  ⟨some 114, .faddr 2 (.t 14), some (113, false)⟩,
                  ⟨some 115, .load true 2 (.t 114), some (113, false)⟩,
                  ⟨some 116, .mv (.t 7), some (113, false)⟩,
                  ⟨some 117, .mv (.t 13), some (113, false)⟩,
                  ⟨some 118, .iaddr 2 (.t 116) (.t 117), some (113, false)⟩,
                  ⟨some 119, .load true 2 (.t 118), some (113, false)⟩,
                  ⟨some 120, .eqS true [0, 0] (.t 115) (.t 119), some (113, false)⟩,
                  ⟨some 121, .pick (.t 113) (.c (.bool true)) (.t 120), none⟩])
                 (.cond (.t 121)
                  (.seq (.ops none [⟨some 4, .mv (.c (.bool false)), none⟩])
                   .ret)
                  .skip))
                (.ops none [⟨some 122, .load true 5 (.t 14), none⟩,
                 ⟨none, .store 5 (.t 6) (.t 122), none⟩]))))
             (.ops none [⟨some 100, .mv (.t 13), none⟩,
              ⟨some 101, .bin .sub (.t 100) (.c (.int .i64 1)), none⟩,
              ⟨some 13, .mv (.t 101), none⟩]))))))
        (.seq (.ops (some [(3, 4)]) [⟨some 123, .mv (.t 5), none⟩,
          ⟨some 124, .mv (.t 123), none⟩,
          ⟨some 125, .load true 5 (.t 6), some (124, true)⟩,
          ⟨some 126, .call 19 false [] [(.t 125)], some (124, true)⟩,
          ⟨some 127, .load true 5 (.t 2), some (124, true)⟩,
          ⟨some 128, .call 18 true [] [(.t 126), (.t 127)], some (124, true)⟩,
          ⟨some 129, .pick (.t 124) (.t 128) (.c (.bool false)), none⟩,
          ⟨some 4, .mv (.t 129), none⟩])
         .ret))))))))⟩
theorem cop3 : copF Try.prog raws [([1, 2, 5, 6, 7, 8], [(7, none, 2)]), ([2, 5, 6, 7, 13], [])] 3 = some ir3 := by kernel_rfl
/-- tenterhook/tenterhooklaw13.RetBack -/
def ir4 : F := ⟨159, [.t 8],
 (.seq (.ops none [⟨some 4, .box (.t 0), none⟩,
   ⟨some 8, .mv (.c (.bool false)), none⟩])
  (.seq (.ops none [⟨some 27, .call 10 true [] [], none⟩,
    ⟨some 9, .mv (.t 27), none⟩])
   (.seq (.seq (.ops none [⟨some 28, .load true 5 (.t 4), none⟩,
      ⟨some 29, .call 11 true [] [(.t 28)], none⟩,
      ⟨some 30, .un .not (.t 29), none⟩,
      ⟨some 31, .mv (.t 30), none⟩,
      ⟨some 32, .load true 5 (.t 4), some (31, false)⟩,
      ⟨some 33, .call 13 false [] [(.t 32)], some (31, false)⟩,
      ⟨some 34, .call 12 true [] [(.t 33)], some (31, false)⟩,
      ⟨some 35, .un .not (.t 34), some (31, false)⟩,
      ⟨some 36, .pick (.t 31) (.c (.bool true)) (.t 35), none⟩])
     (.cond (.t 36)
      (.seq (.ops none [⟨some 37, .mv (.t 9), none⟩,
        ⟨some 8, .mv (.t 37), none⟩])
       .ret)
      .skip))
    (.seq (.ops none [⟨some 39, .load true 5 (.t 4), none⟩,
      ⟨some 40, .call 13 false [] [(.t 39)], none⟩,
      ⟨some 41, .mv (.t 1), none⟩,
      ⟨some 42, .call 14 false [] [(.t 40), (.t 41)], none⟩,
      ⟨some 38, .mv (.t 42), none⟩,
      ⟨some 43, .ext (.t 38) 0, none⟩,
      ⟨some 44, .ext (.t 38) 1, none⟩,
      ⟨some 10, .alloc [.nil, .nil, .int .i64 0, .int .i64 0, .int .i64 0], none⟩,
      ⟨none, .store 5 (.t 10) (.t 43), none⟩,
      ⟨some 11, .mv (.t 44), none⟩])
     (.seq (.seq (.ops none [⟨some 45, .mv (.t 11), none⟩,
        ⟨some 46, .bin .eql (.t 45) (.c (.int .i64 0)), none⟩])
       (.cond (.t 46)
        (.seq (.ops none [⟨some 48, .load true 5 (.t 10), none⟩,
          ⟨some 49, .call 17 false [] [(.t 48)], none⟩,
          ⟨some 47, .mv (.t 49), none⟩,
          ⟨some 50, .ext (.t 47) 0, none⟩,
          ⟨some 51, .ext (.t 47) 1, none⟩,
          ⟨some 52, .ext (.t 47) 2, none⟩,
          ⟨some 12, .alloc [.nil, .nil, .int .i64 0, .int .i64 0, .int .i64 0], none⟩,
          ⟨none, .store 5 (.t 12) (.t 50), none⟩,
          ⟨some 13, .mv (.t 51), none⟩,
          ⟨some 14, .mv (.t 52), none⟩])
         (.seq (.ops (some [(7, 8)]) [⟨some 53, .mv (.t 13), none⟩,
           ⟨some 54, .mv (.t 53), none⟩,
           ⟨some 55, .mv (.t 14), some (54, false)⟩,
           ⟨some 56, .bin .neq (.t 55) (.c (.int .i64 0)), some (54, false)⟩,
           ⟨some 57, .pick (.t 54) (.c (.bool true)) (.t 56), none⟩,
           ⟨some 58, .mv (.t 57), none⟩,
           ⟨some 59, .load true 5 (.t 12), some (58, false)⟩,
           ⟨some 60, .call 19 false [] [(.t 59)], some (58, false)⟩,
           ⟨some 61, .load true 5 (.t 4), some (58, false)⟩,
           ⟨some 62, .call 18 true [] [(.t 60), (.t 61)], some (58, false)⟩,
           ⟨some 63, .un .not (.t 62), some (58, false)⟩,
           ⟨some 64, .pick (.t 58) (.c (.bool true)) (.t 63), none⟩,
           ⟨some 65, .mv (.t 64), none⟩,
           ⟨some 66, .faddr 2 (.t 10), some (65, false)⟩,
           ⟨some 67, .load true 2 (.t 66), some (65, false)⟩,
           ⟨some 68, .call 20 true [] [(.t 67)], some (65, false)⟩,
           ⟨some 69, .mv (.t 1), some (65, false)⟩,
           ⟨some 70, .bin .neq (.t 68) (.t 69), some (65, false)⟩,
           ⟨some 71, .pick (.t 65) (.c (.bool true)) (.t 70), none⟩])
          (.cond (.t 71)
           (.seq (.ops none [⟨some 8, .mv (.c (.bool false)), none⟩])
            .ret)
           .skip)))
        .skip))
      (.seq (.ops none [⟨some 73, .load true 5 (.t 4), none⟩,
        ⟨some 74, .call 13 false [] [(.t 73)], none⟩,
        ⟨some 75, .mv (.t 2), none⟩,
        ⟨some 76, .call 21 false [] [(.t 74), (.t 75)], none⟩,
        ⟨some 72, .mv (.t 76), none⟩,
        ⟨some 77, .ext (.t 72) 0, none⟩,
        ⟨some 78, .ext (.t 72) 1, none⟩,
        ⟨some 15, .alloc [.nil, .nil, .int .i64 0, .int .i64 0, .int .i64 0], none⟩,
        ⟨none, .store 5 (.t 15) (.t 77), none⟩,
        ⟨some 16, .mv (.t 78), none⟩])
       (.seq (.seq (.ops none [⟨some 79, .mv (.t 16), none⟩,
          ⟨some 80, .bin .eql (.t 79) (.c (.int .i64 0)), none⟩])
         (.cond (.t 80)
          (.seq (.ops none [⟨some 82, .load true 5 (.t 15), none⟩,
            ⟨some 83, .call 22 false [] [(.t 82)], none⟩,
            ⟨some 81, .mv (.t 83), none⟩,
            ⟨some 84, .ext (.t 81) 0, none⟩,
            ⟨some 85, .ext (.t 81) 1, none⟩,
            ⟨some 86, .ext (.t 81) 2, none⟩,
            ⟨some 17, .alloc [.nil, .nil, .int .i64 0, .int .i64 0, .int .i64 0], none⟩,
            ⟨none, .store 5 (.t 17) (.t 84), none⟩,
            ⟨some 18, .mv (.t 85), none⟩,
            ⟨some 19, .mv (.t 86), none⟩])
           (.seq (.ops (some [(9, 10)]) [⟨some 87, .mv (.t 19), none⟩,
             ⟨some 88, .bin .neq (.t 87) (.c (.int .i64 0)), none⟩,
             ⟨some 89, .mv (.t 88), none⟩,
             ⟨some 90, .mv (.t 18), some (89, false)⟩,
             ⟨some 91, .mv (.t 2), some (89, false)⟩,
             ⟨some 92, .bin .neq (.t 90) (.t 91), some (89, false)⟩,
             ⟨some 93, .pick (.t 89) (.c (.bool true)) (.t 92), none⟩,
             ⟨some 94, .mv (.t 93), none⟩,
             ⟨some 95, .load true 5 (.t 17), some (94, false)⟩,
             ⟨some 96, .call 19 false [] [(.t 95)], some (94, false)⟩,
             ⟨some 97, .load true 5 (.t 4), some (94, false)⟩,
             ⟨some 98, .call 18 true [] [(.t 96), (.t 97)], some (94, false)⟩,
             ⟨some 99, .un .not (.t 98), some (94, false)⟩,
             ⟨some 100, .pick (.t 94) (.c (.bool true)) (.t 99), none⟩])
            (.cond (.t 100)
             (.seq (.ops none [⟨some 8, .mv (.c (.bool false)), none⟩])
              .ret)
             .skip)))
          .skip))
        (.seq (.ops none [⟨some 102, .load true 5 (.t 4), none⟩,
          ⟨some 103, .call 13 false [] [(.t 102)], none⟩,
          ⟨some 104, .mv (.t 2), none⟩,
          ⟨some 105, .mv (.t 3), none⟩,
          ⟨some 106, .call 23 false [] [(.t 103), (.t 104), (.t 105)], none⟩,
          ⟨some 101, .mv (.t 106), none⟩,
          ⟨some 107, .ext (.t 101) 0, none⟩,
          ⟨some 108, .ext (.t 101) 1, none⟩,
          ⟨some 20, .alloc [.nil, .nil, .int .i64 0, .int .i64 0, .int .i64 0], none⟩,
          ⟨none, .store 5 (.t 20) (.t 107), none⟩,
          ⟨some 21, .mv (.t 108), none⟩])
         (.seq (.seq (.ops none [⟨some 109, .mv (.t 21), none⟩,
            ⟨some 110, .bin .eql (.t 109) (.c (.int .i64 0)), none⟩])
           (.cond (.t 110)
            (.seq (.ops none [⟨some 112, .load true 5 (.t 20), none⟩,
              ⟨some 113, .call 24 false [] [(.t 112)], none⟩,
              ⟨some 111, .mv (.t 113), none⟩,
              ⟨some 114, .ext (.t 111) 0, none⟩,
              ⟨some 115, .ext (.t 111) 1, none⟩,
              ⟨some 22, .alloc [.nil, .nil, .int .i64 0, .int .i64 0, .int .i64 0], none⟩,
              ⟨none, .store 5 (.t 22) (.t 114), none⟩,
              ⟨some 23, .mv (.t 115), none⟩])
             (.seq (.ops none [⟨some 117, .load true 5 (.t 20), none⟩,
               ⟨some 118, .call 25 true [] [(.t 117), (.c (.int .i64 0))], none⟩,
               ⟨some 116, .mv (.t 118), none⟩,
               ⟨some 119, .ext (.t 116) 0, none⟩,
               ⟨some 120, .ext (.t 116) 1, none⟩,
               ⟨some 24, .mv (.t 119), none⟩,
               ⟨some 25, .mv (.t 120), none⟩])
              (.seq (.ops (some [(13, 14)]) [⟨some 121, .mv (.t 23), none⟩,
                ⟨some 122, .bin .neq (.t 121) (.c (.int .i64 0)), none⟩,
                ⟨some 123, .mv (.t 122), none⟩,
                ⟨some 124, .mv (.t 25), some (123, false)⟩,
                ⟨some 125, .bin .neq (.t 124) (.c (.int .i64 0)), some (123, false)⟩,
                ⟨some 126, .pick (.t 123) (.c (.bool true)) (.t 125), none⟩,
                ⟨some 127, .mv (.t 126), none⟩,
                ⟨some 128, .mv (.t 24), some (127, false)⟩,
                ⟨some 129, .mv (.t 3), some (127, false)⟩,
                ⟨some 130, .bin .neq (.t 128) (.t 129), some (127, false)⟩,
                ⟨some 131, .pick (.t 127) (.c (.bool true)) (.t 130), none⟩,
                ⟨some 132, .mv (.t 131), none⟩,
                ⟨some 133, .load true 5 (.t 22), some (132, false)⟩,
                ⟨some 134, .call 19 false [] [(.t 133)], some (132, false)⟩,
                ⟨some 135, .load true 5 (.t 4), some (132, false)⟩,
                ⟨some 136, .call 18 true [] [(.t 134), (.t 135)], some (132, false)⟩,
                ⟨some 137, .un .not (.t 136), some (132, false)⟩,
                ⟨some 138, .pick (.t 132) (.c (.bool true)) (.t 137), none⟩])
               (.cond (.t 138)
                (.seq (.ops none [⟨some 8, .mv (.c (.bool false)), none⟩])
                 .ret)
                .skip))))
            .skip))
          (.seq (.ops none [⟨some 139, .faddr 1 (.t 4), none⟩,
            ⟨some 140, .load false 1 (.t 139), none⟩,
            ⟨some 141, .len false (.t 140), none⟩,
            ⟨some 142, .bin .eql (.t 141) (.c (.int .i64 64)), none⟩,
            ⟨some 26, .mv (.t 142), none⟩])
           (.seq (.ops none [⟨some 143, .mv (.t 9), none⟩,
             ⟨some 144, .mv (.t 143), none⟩,
             ⟨some 145, .mv (.t 16), some (144, true)⟩,
             ⟨some 146, .bin .eql (.t 145) (.c (.int .i64 (-5))), some (144, true)⟩,
             ⟨some 147, .mv (.t 26), some (144, true)⟩,
             ⟨some 148, .eqB false (.t 146) (.t 147), some (144, true)⟩,
             ⟨some 149, .pick (.t 144) (.t 148) (.c (.bool false)), none⟩,
             ⟨some 150, .mv (.t 149), none⟩,
             ⟨some 151, .mv (.t 21), some (150, true)⟩,
             ⟨some 152, .bin .eql (.t 151) (.c (.int .i64 (-5))), some (150, true)⟩,
             ⟨some 153, .faddr 1 (.t 4), some (150, true)⟩,
             ⟨some 154, .load false 1 (.t 153), some (150, true)⟩,
             ⟨some 155, .len false (.t 154), some (150, true)⟩,
             ⟨some 156, .bin .gtr (.t 155) (.c (.int .i64 62)), some (150, true)⟩,
             ⟨some 157, .eqB false (.t 152) (.t 156), some (150, true)⟩,
             ⟨some 158, .pick (.t 150) (.t 157) (.c (.bool false)), none⟩,
             ⟨some 8, .mv (.t 158), none⟩])
            .ret)))))))))))⟩
theorem cop4 : copF Try.prog raws [] 4 = some ir4 := by kernel_rfl
/-- tenterhook/tenterhooklaw13.RetThrown -/
def ir5 : F := ⟨97, [.t 4],
 (.seq (.ops none [⟨some 2, .box (.t 0), none⟩,
   ⟨some 4, .mv (.c (.bool false)), none⟩])
  (.seq (.ops none [⟨some 8, .call 10 true [] [], none⟩,
    ⟨some 5, .mv (.t 8), none⟩])
   (.seq (.seq (.ops none [⟨some 9, .load true 5 (.t 2), none⟩,
      ⟨some 10, .call 11 true [] [(.t 9)], none⟩,
      ⟨some 11, .un .not (.t 10), none⟩,
      ⟨some 12, .mv (.t 11), none⟩,
      ⟨some 13, .load true 5 (.t 2), some (12, false)⟩,
      ⟨some 14, .call 13 false [] [(.t 13)], some (12, false)⟩,
      ⟨some 15, .call 12 true [] [(.t 14)], some (12, false)⟩,
      ⟨some 16, .un .not (.t 15), some (12, false)⟩,
      ⟨some 17, .pick (.t 12) (.c (.bool true)) (.t 16), none⟩])
     (.cond (.t 17)
      (.seq (.ops none [⟨some 18, .mv (.t 5), none⟩,
        ⟨some 4, .mv (.t 18), none⟩])
       .ret)
      .skip))
    (.seq (.ops none [⟨some 20, .load true 5 (.t 2), none⟩,
      ⟨some 21, .call 13 false [] [(.t 20)], none⟩,
      ⟨some 22, .mv (.t 1), none⟩,
      ⟨some 23, .call 26 false [] [(.t 21), (.t 22)], none⟩,
      ⟨some 19, .mv (.t 23), none⟩,
      ⟨some 24, .ext (.t 19) 0, none⟩,
      ⟨some 25, .ext (.t 19) 1, none⟩,
      ⟨some 6, .alloc [.nil, .nil, .int .i64 0, .int .i64 0, .int .i64 0], none⟩,
      ⟨none, .store 5 (.t 6) (.t 24), none⟩,
      ⟨some 7, .mv (.t 25), none⟩])
     (.seq (.seq (.ops none [⟨some 26, .faddr 4 (.t 2), none⟩,
        ⟨some 27, .load false 1 (.t 26), none⟩,
        ⟨some 28, .bin .eql (.t 27) (.c (.int .i64 0)), none⟩])
       (.cond (.t 28)
        (.seq (.ops (some [(7, 8)]) [⟨some 29, .mv (.t 5), none⟩,
          ⟨some 30, .mv (.t 29), none⟩,
          ⟨some 31, .mv (.t 7), some (30, true)⟩,
          ⟨some 32, .un .not (.t 31), some (30, true)⟩,
          ⟨some 33, .pick (.t 30) (.t 32) (.c (.bool false)), none⟩,
          ⟨some 34, .mv (.t 33), none⟩,
          ⟨some 35, .load true 5 (.t 6), some (34, true)⟩,
          ⟨some 36, .call 19 false [] [(.t 35)], some (34, true)⟩,
          ⟨some 37, .load true 5 (.t 2), some (34, true)⟩,
          ⟨some 38, .call 18 true [] [(.t 36), (.t 37)], some (34, true)⟩,
          ⟨some 39, .pick (.t 34) (.t 38) (.c (.bool false)), none⟩,
          ⟨some 4, .mv (.t 39), none⟩])
         .ret)
        .skip))
      (.seq (.ops none [⟨some 40, .mv (.t 5), none⟩,
        ⟨some 41, .mv (.t 40), none⟩,
        ⟨some 42, .load true 5 (.t 6), some (41, true)⟩,
        ⟨some 43, .call 12 true [] [(.t 42)], some (41, true)⟩,
        ⟨some 44, .pick (.t 41) (.t 43) (.c (.bool false)), none⟩,
        ⟨some 45, .mv (.t 44), none⟩,
        ⟨some 46, .mv (.t 7), some (45, true)⟩,
        ⟨some 47, .mv (.t 46), some (45, true)⟩,
        ⟨some 48, .faddr 4 (.t 6), some (47, false)⟩,
        ⟨some 49, .load false 1 (.t 48), some (47, false)⟩,
        ⟨some 50, .bin .eql (.t 49) (.c (.int .i64 0)), some (47, false)⟩,
        ⟨some 51, .mv (.t 50), some (47, false)⟩,
        ⟨some 52, .faddr 1 (.t 6), some (51, true)⟩,
        ⟨some 53, .load false 1 (.t 52), some (51, true)⟩,
        ⟨some 54, .len false (.t 53), some (51, true)⟩,
        ⟨some 55, .bin .eql (.t 54) (.c (.int .i64 0)), some (51, true)⟩,
        ⟨some 56, .pick (.t 51) (.t 55) (.c (.bool false)), some (47, false)⟩,
        ⟨some 57, .mv (.t 56), some (47, false)⟩,
        ⟨some 58, .faddr 2 (.t 6), some (57, true)⟩,
        ⟨some 59, .load true 2 (.t 58), some (57, true)⟩,
        ⟨some 60, .faddr 2 (.t 2), some (57, true)⟩,
        ⟨some 61, .load true 2 (.t 60), some (57, true)⟩,
        ⟨some 62, .eqS false [0, 0] (.t 59) (.t 61), some (57, true)⟩,
        ⟨some 63, .pick (.t 57) (.t 62) (.c (.bool false)), some (47, false)⟩,
        ⟨some 64, .pick (.t 47) (.c (.bool true)) (.t 63), some (45, true)⟩,
        ⟨some 65, .pick (.t 45) (.t 64) (.c (.bool false)), none⟩,
        ⟨some 66, .mv (.t 65), none⟩,
        ⟨some 67, .mv (.t 7), some (66, true)⟩,
        ⟨some 68, .un .not (.t 67), some (66, true)⟩,
        ⟨some 69, .mv (.t 68), some (66, true)⟩,
        ⟨some 70, .faddr 0 (.t 6), some (69, false)⟩,
        ⟨some 71, .load false 1 (.t 70), some (69, false)⟩,
        ⟨some 72, .len false (.t 71), some (69, false)⟩,
        ⟨some 73, .bin .gtr (.t 72) (.c (.int .i64 0)), some (69, false)⟩,
        ⟨some 74, .mv (.t 73), some (69, false)⟩,
        ⟨some 75, .faddr 0 (.t 6), some (74, true)⟩,
        ⟨some 76, .load false 1 (.t 75), some (74, true)⟩,
        ⟨some 77, .faddr 0 (.t 6), some (74, true)⟩,
        ⟨some 78, .load false 1 (.t 77), some (74, true)⟩,
        ⟨some 79, .len false (.t 78), some (74, true)⟩,
        ⟨some 80, .bin .sub (.t 79) (.c (.int .i64 1)), some (74, true)⟩,
        ⟨some 81, .iaddr 1 (.t 76) (.t 80), some (74, true)⟩,
        ⟨some 82, .load false 1 (.t 81), some (74, true)⟩,
        ⟨some 83, .mv (.t 1), some (74, true)⟩,
        ⟨some 84, .bin .eql (.t 82) (.t 83), some (74, true)⟩,
        ⟨some 85, .pick (.t 74) (.t 84) (.c (.bool false)), some (69, false)⟩,
        ⟨some 86, .mv (.t 85), some (69, false)⟩,
        ⟨some 87, .faddr 1 (.t 6), some (86, true)⟩,
        ⟨some 88, .load false 1 (.t 87), some (86, true)⟩,
        ⟨some 89, .len false (.t 88), some (86, true)⟩,
        ⟨some 90, .faddr 4 (.t 2), some (86, true)⟩,
        ⟨some 91, .load false 1 (.t 90), some (86, true)⟩,
        ⟨some 92, .bin .sub (.t 91) (.c (.int .i64 3)), some (86, true)⟩,
        ⟨some 93, .bin .eql (.t 89) (.t 92), some (86, true)⟩,
        ⟨some 94, .pick (.t 86) (.t 93) (.c (.bool false)), some (69, false)⟩,
        ⟨some 95, .pick (.t 69) (.c (.bool true)) (.t 94), some (66, true)⟩,
        ⟨some 96, .pick (.t 66) (.t 95) (.c (.bool false)), none⟩,
        ⟨some 4, .mv (.t 96), none⟩])
       .ret))))))⟩
theorem cop5 : copF Try.prog raws [] 5 = some ir5 := by kernel_rfl
/-- tenterhook/tenterhooklaw13.RetRounds -/
def ir6 : F := ⟨154, [.t 6],
 (.seq (.ops none [⟨some 6, .mv (.c (.bool false)), none⟩])
  (.seq (.ops none [⟨some 26, .call 10 true [] [], none⟩,
    ⟨some 7, .mv (.t 26), none⟩])
   (.seq (.ops none [⟨some 27, .mv (.t 1), none⟩,
     ⟨some 28, .bin .and (.t 27) (.c (.int .i64 31)), none⟩,
     ⟨some 29, .bin .add (.c (.int .i64 1)) (.t 28), none⟩,
     ⟨some 8, .mv (.t 29), none⟩])
    (.seq (.ops none [⟨some 30, .mv (.t 2), none⟩,
      ⟨some 31, .bin .and (.t 30) (.c (.int .i64 7)), none⟩,
      ⟨some 32, .bin .add (.c (.int .i64 1)) (.t 31), none⟩,
      ⟨some 9, .mv (.t 32), none⟩])
     (.seq (.ops none [⟨some 34, .build [.int .i64 0, .int .i64 0] [], none⟩,
       ⟨some 35, .call 27 false [] [(.t 34)], none⟩,
       ⟨some 36, .mv (.t 0), none⟩,
       ⟨some 37, .mv (.t 0), none⟩,
       ⟨some 38, .mv (.t 8), none⟩,
       ⟨some 39, .mv (.t 9), none⟩,
       ⟨some 40, .bin .mul (.t 38) (.t 39), none⟩,
       ⟨some 41, .bin .sub (.t 37) (.t 40), none⟩,
       ⟨some 42, .call 23 false [] [(.t 35), (.t 36), (.t 41)], none⟩,
       ⟨some 33, .mv (.t 42), none⟩,
       ⟨some 43, .ext (.t 33) 0, none⟩,
       ⟨some 44, .ext (.t 33) 1, none⟩,
       ⟨some 10, .alloc [.nil, .nil, .int .i64 0, .int .i64 0, .int .i64 0], none⟩,
       ⟨none, .store 5 (.t 10) (.t 43), none⟩,
       ⟨some 11, .mv (.t 44), none⟩])
      (.seq (.seq (.ops none [⟨some 45, .mv (.t 11), none⟩,
         ⟨some 46, .bin .neq (.t 45) (.c (.int .i64 0)), none⟩])
        (.cond (.t 46)
         (.seq (.ops none [⟨some 6, .mv (.c (.bool false)), none⟩])
          .ret)
         .skip))
       (.seq (.seq (.ops none [⟨some 12, .mv (.c (.int .i64 0)), none⟩])
         (.block 0 (.loop [0, 7, 8, 9, 10, 12] []
           (.seq (.seq (.ops none [⟨some 47, .mv (.t 12), none⟩,
              ⟨some 48, .mv (.t 8), none⟩,
              ⟨some 49, .bin .lss (.t 47) (.t 48), none⟩])
             (.cond (.t 49)
              .skip
              (.exit 0)))
            (.seq (.block 1 (.seq (.ops none [⟨some 53, .load true 5 (.t 10), none⟩,
                ⟨some 54, .call 25 true [] [(.t 53), (.c (.int .i64 0))], none⟩,
                ⟨some 52, .mv (.t 54), none⟩,
                ⟨some 55, .ext (.t 52) 0, none⟩,
                ⟨some 56, .ext (.t 52) 1, none⟩,
                ⟨some 13, .mv (.t 55), none⟩,
                ⟨some 14, .mv (.t 56), none⟩])
               (.seq (.ops none [⟨some 58, .load true 5 (.t 10), none⟩,
                 ⟨some 59, .mv (.t 9), none⟩,
                 ⟨some 60, .call 28 false [] [(.t 58), (.t 59)], none⟩,
                 ⟨some 57, .mv (.t 60), none⟩,
                 ⟨some 61, .ext (.t 57) 0, none⟩,
                 ⟨some 62, .ext (.t 57) 1, none⟩,
                 ⟨some 63, .ext (.t 57) 2, none⟩,
                 ⟨some 15, .alloc [.nil, .nil, .int .i64 0, .int .i64 0, .int .i64 0], none⟩,
                 ⟨none, .store 5 (.t 15) (.t 61), none⟩,
                 ⟨some 16, .mv (.t 62), none⟩,
                 ⟨some 17, .mv (.t 63), none⟩])
                (.seq (.seq (.ops none [⟨some 64, .mv (.t 14), none⟩,
                   ⟨some 65, .bin .neq (.t 64) (.c (.int .i64 0)), none⟩,
                   ⟨some 66, .mv (.t 65), none⟩,
                   ⟨some 67, .mv (.t 17), some (66, false)⟩,
                   ⟨some 68, .bin .neq (.t 67) (.c (.int .i64 0)), some (66, false)⟩,
                   ⟨some 69, .pick (.t 66) (.c (.bool true)) (.t 68), none⟩,
                   ⟨some 70, .mv (.t 69), none⟩,
                   ⟨some 71, .mv (.t 13), some (70, false)⟩,
                   ⟨some 72, .mv (.t 0), some (70, false)⟩,
                   ⟨some 73, .mv (.t 8), some (70, false)⟩,
                   ⟨some 74, .mv (.t 9), some (70, false)⟩,
                   ⟨some 75, .bin .mul (.t 73) (.t 74), some (70, false)⟩,
                   ⟨some 76, .bin .sub (.t 72) (.t 75), some (70, false)⟩,
                   ⟨some 77, .mv (.t 12), some (70, false)⟩,
                   ⟨some 78, .mv (.t 9), some (70, false)⟩,
                   ⟨some 79, .bin .mul (.t 77) (.t 78), some (70, false)⟩,
                   ⟨some 80, .bin .add (.t 76) (.t 79), some (70, false)⟩,
                   ⟨some 81, .bin .neq (.t 71) (.t 80), some (70, false)⟩,
                   ⟨some 82, .pick (.t 70) (.c (.bool true)) (.t 81), none⟩,
                   ⟨some 83, .mv (.t 82), none⟩,
                   ⟨some 84, .mv (.t 16), some (83, false)⟩,
                   ⟨some 85, .mv (.t 12), some (83, false)⟩,
                   ⟨some 86, .mv (.t 8), some (83, false)⟩,
                   ⟨some 87, .bin .sub (.t 86) (.c (.int .i64 1)), some (83, false)⟩,
                   ⟨some 88, .bin .eql (.t 85) (.t 87), some (83, false)⟩,
                   ⟨some 89, .eqB true (.t 84) (.t 88), some (83, false)⟩,
                   ⟨some 90, .pick (.t 83) (.c (.bool true)) (.t 89), none⟩])
                  (.cond (.t 90)
                   (.seq (.ops none [⟨some 6, .mv (.c (.bool false)), none⟩])
                    .ret)
                   .skip))
                 (.ops none [⟨some 91, .load true 5 (.t 15), none⟩,
                  ⟨none, .store 5 (.t 10) (.t 91), none⟩])))))
             (.ops none [⟨some 50, .mv (.t 12), none⟩,
              ⟨some 51, .bin .add (.t 50) (.c (.int .i64 1)), none⟩,
              ⟨some 12, .mv (.t 51), none⟩]))))))
        (.seq (.ops none [⟨some 93, .build [.int .i64 0, .int .i64 0] [], none⟩,
          ⟨some 94, .call 27 false [] [(.t 93)], none⟩,
          ⟨some 95, .mv (.t 0), none⟩,
          ⟨some 96, .mv (.t 0), none⟩,
          ⟨some 97, .mv (.t 8), none⟩,
          ⟨some 98, .bin .add (.t 96) (.t 97), none⟩,
          ⟨some 99, .call 23 false [] [(.t 94), (.t 95), (.t 98)], none⟩,
          ⟨some 92, .mv (.t 99), none⟩,
          ⟨some 100, .ext (.t 92) 0, none⟩,
          ⟨some 101, .ext (.t 92) 1, none⟩,
          ⟨some 18, .alloc [.nil, .nil, .int .i64 0, .int .i64 0, .int .i64 0], none⟩,
          ⟨none, .store 5 (.t 18) (.t 100), none⟩,
          ⟨some 19, .mv (.t 101), none⟩])
         (.seq (.seq (.ops none [⟨some 20, .mv (.c (.int .i64 0)), none⟩])
           (.block 2 (.loop [0, 7, 8, 10, 18, 20] []
             (.seq (.seq (.ops none [⟨some 102, .mv (.t 20), none⟩,
                ⟨some 103, .mv (.t 8), none⟩,
                ⟨some 104, .bin .leq (.t 102) (.t 103), none⟩])
               (.cond (.t 104)
                .skip
                (.exit 2)))
              (.seq (.block 3 (.seq (.ops none [⟨some 108, .load true 5 (.t 18), none⟩,
                  ⟨some 109, .call 25 true [] [(.t 108), (.c (.int .i64 0))], none⟩,
                  ⟨some 107, .mv (.t 109), none⟩,
                  ⟨some 110, .ext (.t 107) 0, none⟩,
                  ⟨some 111, .ext (.t 107) 1, none⟩,
                  ⟨some 21, .mv (.t 110), none⟩,
                  ⟨some 22, .mv (.t 111), none⟩])
                 (.seq (.ops none [⟨some 113, .load true 5 (.t 18), none⟩,
                   ⟨some 114, .call 28 false [] [(.t 113), (.c (.int .i64 (-1)))], none⟩,
                   ⟨some 112, .mv (.t 114), none⟩,
                   ⟨some 115, .ext (.t 112) 0, none⟩,
                   ⟨some 116, .ext (.t 112) 1, none⟩,
                   ⟨some 117, .ext (.t 112) 2, none⟩,
                   ⟨some 23, .alloc [.nil, .nil, .int .i64 0, .int .i64 0, .int .i64 0], none⟩,
                   ⟨none, .store 5 (.t 23) (.t 115), none⟩,
                   ⟨some 24, .mv (.t 116), none⟩,
                   ⟨some 25, .mv (.t 117), none⟩])
                  (.seq (.seq (.ops none [⟨some 118, .mv (.t 22), none⟩,
                     ⟨some 119, .bin .neq (.t 118) (.c (.int .i64 0)), none⟩,
                     ⟨some 120, .mv (.t 119), none⟩,
                     ⟨some 121, .mv (.t 25), some (120, false)⟩,
                     ⟨some 122, .bin .neq (.t 121) (.c (.int .i64 0)), some (120, false)⟩,
                     ⟨some 123, .pick (.t 120) (.c (.bool true)) (.t 122), none⟩,
                     ⟨some 124, .mv (.t 123), none⟩,
                     ⟨some 125, .mv (.t 21), some (124, false)⟩,
                     ⟨some 126, .mv (.t 0), some (124, false)⟩,
                     ⟨some 127, .mv (.t 8), some (124, false)⟩,
                     ⟨some 128, .bin .add (.t 126) (.t 127), some (124, false)⟩,
                     ⟨some 129, .mv (.t 20), some (124, false)⟩,
                     ⟨some 130, .bin .sub (.t 128) (.t 129), some (124, false)⟩,
                     ⟨some 131, .bin .neq (.t 125) (.t 130), some (124, false)⟩,
                     ⟨some 132, .pick (.t 124) (.c (.bool true)) (.t 131), none⟩,
                     ⟨some 133, .mv (.t 132), none⟩,
                     ⟨some 134, .mv (.t 24), some (133, false)⟩,
                     ⟨some 135, .mv (.t 20), some (133, false)⟩,
                     ⟨some 136, .mv (.t 8), some (133, false)⟩,
                     ⟨some 137, .bin .eql (.t 135) (.t 136), some (133, false)⟩,
                     ⟨some 138, .eqB true (.t 134) (.t 137), some (133, false)⟩,
                     ⟨some 139, .pick (.t 133) (.c (.bool true)) (.t 138), none⟩])
                    (.cond (.t 139)
                     (.seq (.ops none [⟨some 6, .mv (.c (.bool false)), none⟩])
                      .ret)
                     .skip))
                   (.ops none [⟨some 140, .load true 5 (.t 23), none⟩,
                    ⟨none, .store 5 (.t 18) (.t 140), none⟩])))))
               (.ops none [⟨some 105, .mv (.t 20), none⟩,
                ⟨some 106, .bin .add (.t 105) (.c (.int .i64 1)), none⟩,
                ⟨some 20, .mv (.t 106), none⟩]))))))
          (.seq (.ops none [⟨some 141, .mv (.t 7), none⟩,
            ⟨some 142, .mv (.t 141), none⟩,
            ⟨some 143, .faddr 1 (.t 10), some (142, true)⟩,
            ⟨some 144, .load false 1 (.t 143), some (142, true)⟩,
            ⟨some 145, .len false (.t 144), some (142, true)⟩,
            ⟨some 146, .bin .eql (.t 145) (.c (.int .i64 1)), some (142, true)⟩,
            ⟨some 147, .pick (.t 142) (.t 146) (.c (.bool false)), none⟩,
            ⟨some 148, .mv (.t 147), none⟩,
            ⟨some 149, .faddr 1 (.t 18), some (148, true)⟩,
            ⟨some 150, .load false 1 (.t 149), some (148, true)⟩,
            ⟨some 151, .len false (.t 150), some (148, true)⟩,
            ⟨some 152, .bin .eql (.t 151) (.c (.int .i64 1)), some (148, true)⟩,
            ⟨some 153, .pick (.t 148) (.t 152) (.c (.bool false)), none⟩,
            ⟨some 6, .mv (.t 153), none⟩])
           .ret))))))))))⟩
theorem cop6 : copF Try.prog raws [([0, 7, 8, 9, 10, 12], []), ([0, 7, 8, 10, 18, 20], [])] 6 = some ir6 := by kernel_rfl
/-- tenterhook/tenterhooklaw13.RetNests -/
def ir7 : F := ⟨176, [.t 10],
 (.seq (.ops none [⟨some 5, .box (.t 0), none⟩,
   ⟨some 10, .mv (.c (.bool false)), none⟩])
  (.seq (.ops none [⟨some 22, .call 10 true [] [], none⟩,
    ⟨some 11, .mv (.t 22), none⟩])
   (.seq (.seq (.ops none [⟨some 23, .load true 5 (.t 5), none⟩,
      ⟨some 24, .call 11 true [] [(.t 23)], none⟩,
      ⟨some 25, .un .not (.t 24), none⟩,
      ⟨some 26, .mv (.t 25), none⟩,
      ⟨some 27, .load true 5 (.t 5), some (26, false)⟩,
      ⟨some 28, .call 13 false [] [(.t 27)], some (26, false)⟩,
      ⟨some 29, .call 12 true [] [(.t 28)], some (26, false)⟩,
      ⟨some 30, .un .not (.t 29), some (26, false)⟩,
      ⟨some 31, .pick (.t 26) (.c (.bool true)) (.t 30), none⟩,
      ⟨some 32, .mv (.t 31), none⟩,
      ⟨some 33, .faddr 4 (.t 5), some (32, false)⟩,
      ⟨some 34, .load false 1 (.t 33), some (32, false)⟩,
      ⟨some 35, .bin .neq (.t 34) (.c (.int .i64 0)), some (32, false)⟩,
      ⟨some 36, .pick (.t 32) (.c (.bool true)) (.t 35), none⟩,
      ⟨some 37, .mv (.t 36), none⟩,
      ⟨some 38, .faddr 1 (.t 5), some (37, false)⟩,
      ⟨some 39, .load false 1 (.t 38), some (37, false)⟩,
      ⟨some 40, .len false (.t 39), some (37, false)⟩,
      ⟨some 41, .bin .gtr (.t 40) (.c (.int .i64 56)), some (37, false)⟩,
      ⟨some 42, .pick (.t 37) (.c (.bool true)) (.t 41), none⟩,
      ⟨some 43, .mv (.t 42), none⟩,
      ⟨some 44, .faddr 0 (.t 5), some (43, false)⟩,
      ⟨some 45, .load false 1 (.t 44), some (43, false)⟩,
      ⟨some 46, .len false (.t 45), some (43, false)⟩,
      ⟨some 47, .bin .gtr (.t 46) (.c (.int .i64 60)), some (43, false)⟩,
      ⟨some 48, .pick (.t 43) (.c (.bool true)) (.t 47), none⟩])
     (.cond (.t 48)
      (.seq (.ops none [⟨some 49, .mv (.t 11), none⟩,
        ⟨some 10, .mv (.t 49), none⟩])
       .ret)
      .skip))
    (.seq (.ops none [⟨some 51, .load true 5 (.t 5), none⟩,
      ⟨some 52, .call 13 false [] [(.t 51)], none⟩,
      ⟨some 53, .mv (.t 1), none⟩,
      ⟨some 54, .bin .and (.t 53) (.c (.int .i64 16777215)), none⟩,
      ⟨some 55, .call 29 false [] [(.t 52), (.t 54)], none⟩,
      ⟨some 50, .mv (.t 55), none⟩,
      ⟨some 56, .ext (.t 50) 0, none⟩,
      ⟨some 57, .ext (.t 50) 1, none⟩,
      ⟨some 12, .alloc [.nil, .nil, .int .i64 0, .int .i64 0, .int .i64 0], none⟩,
      ⟨none, .store 5 (.t 12) (.t 56), none⟩,
      ⟨some 13, .mv (.t 57), none⟩])
     (.seq (.ops none [⟨some 59, .load true 5 (.t 12), none⟩,
       ⟨some 60, .mv (.t 2), none⟩,
       ⟨some 61, .bin .and (.t 60) (.c (.int .i64 16777215)), none⟩,
       ⟨some 62, .call 29 false [] [(.t 59), (.t 61)], none⟩,
       ⟨some 58, .mv (.t 62), none⟩,
       ⟨some 63, .ext (.t 58) 0, none⟩,
       ⟨some 64, .ext (.t 58) 1, none⟩,
       ⟨some 14, .alloc [.nil, .nil, .int .i64 0, .int .i64 0, .int .i64 0], none⟩,
       ⟨none, .store 5 (.t 14) (.t 63), none⟩,
       ⟨some 15, .mv (.t 64), none⟩])
      (.seq (.ops none [⟨some 66, .load true 5 (.t 14), none⟩,
        ⟨some 67, .mv (.t 3), none⟩,
        ⟨some 68, .call 26 false [] [(.t 66), (.t 67)], none⟩,
        ⟨some 65, .mv (.t 68), none⟩,
        ⟨some 69, .ext (.t 65) 0, none⟩,
        ⟨some 70, .ext (.t 65) 1, none⟩,
        ⟨some 16, .alloc [.nil, .nil, .int .i64 0, .int .i64 0, .int .i64 0], none⟩,
        ⟨none, .store 5 (.t 16) (.t 69), none⟩,
        ⟨some 17, .mv (.t 70), none⟩])
       (.seq (.ops none [⟨some 72, .load true 5 (.t 16), none⟩,
         ⟨some 73, .mv (.t 4), none⟩,
         ⟨some 74, .call 26 false [] [(.t 72), (.t 73)], none⟩,
         ⟨some 71, .mv (.t 74), none⟩,
         ⟨some 75, .ext (.t 71) 0, none⟩,
         ⟨some 76, .ext (.t 71) 1, none⟩,
         ⟨some 18, .alloc [.nil, .nil, .int .i64 0, .int .i64 0, .int .i64 0], none⟩,
         ⟨none, .store 5 (.t 18) (.t 75), none⟩,
         ⟨some 19, .mv (.t 76), none⟩])
        (.seq (.ops none [⟨some 78, .load true 5 (.t 18), none⟩,
          ⟨some 79, .mv (.t 3), none⟩,
          ⟨some 80, .call 26 false [] [(.t 78), (.t 79)], none⟩,
          ⟨some 77, .mv (.t 80), none⟩,
          ⟨some 81, .ext (.t 77) 0, none⟩,
          ⟨some 82, .ext (.t 77) 1, none⟩,
          ⟨some 20, .alloc [.nil, .nil, .int .i64 0, .int .i64 0, .int .i64 0], none⟩,
          ⟨none, .store 5 (.t 20) (.t 81), none⟩,
          ⟨some 21, .mv (.t 82), none⟩])
         (.seq (.seq (.ops none [⟨some 83, .mv (.t 13), none⟩,
            ⟨some 84, .bin .neq (.t 83) (.c (.int .i64 0)), none⟩,
            ⟨some 85, .mv (.t 84), none⟩,
            ⟨some 86, .mv (.t 15), some (85, false)⟩,
            ⟨some 87, .bin .neq (.t 86) (.c (.int .i64 0)), some (85, false)⟩,
            ⟨some 88, .pick (.t 85) (.c (.bool true)) (.t 87), none⟩,
            ⟨some 89, .mv (.t 88), none⟩,
            ⟨some 90, .mv (.t 17), some (89, false)⟩,
            ⟨some 91, .un .not (.t 90), some (89, false)⟩,
            ⟨some 92, .pick (.t 89) (.c (.bool true)) (.t 91), none⟩,
            ⟨some 93, .mv (.t 92), none⟩,
            ⟨some 94, .mv (.t 19), some (93, false)⟩,
            ⟨some 95, .un .not (.t 94), some (93, false)⟩,
            ⟨some 96, .pick (.t 93) (.c (.bool true)) (.t 95), none⟩,
            ⟨some 97, .mv (.t 96), none⟩,
            ⟨some 98, .mv (.t 21), some (97, false)⟩,
            ⟨some 99, .pick (.t 97) (.c (.bool true)) (.t 98), none⟩,
            ⟨some 100, .mv (.t 99), none⟩,
            ⟨some 101, .faddr 0 (.t 16), some (100, false)⟩,
            ⟨some 102, .load false 1 (.t 101), some (100, false)⟩,
            ⟨some 103, .len false (.t 102), some (100, false)⟩,
            ⟨some 104, .faddr 0 (.t 5), some (100, false)⟩,
            ⟨some 105, .load false 1 (.t 104), some (100, false)⟩,
            ⟨some 106, .len false (.t 105), some (100, false)⟩,
            ⟨some 107, .bin .add (.t 106) (.c (.int .i64 1)), some (100, false)⟩,
            ⟨some 108, .bin .neq (.t 103) (.t 107), some (100, false)⟩,
            ⟨some 109, .pick (.t 100) (.c (.bool true)) (.t 108), none⟩,
            ⟨some 110, .mv (.t 109), none⟩,
            ⟨some 111, .faddr 0 (.t 18), some (110, false)⟩,
            ⟨some 112, .load false 1 (.t 111), some (110, false)⟩,
            ⟨some 113, .len false (.t 112), some (110, false)⟩,
            ⟨some 114, .faddr 0 (.t 5), some (110, false)⟩,
            ⟨some 115, .load false 1 (.t 114), some (110, false)⟩,
            ⟨some 116, .len false (.t 115), some (110, false)⟩,
            ⟨some 117, .bin .add (.t 116) (.c (.int .i64 1)), some (110, false)⟩,
            ⟨some 118, .bin .neq (.t 113) (.t 117), some (110, false)⟩,
            ⟨some 119, .pick (.t 110) (.c (.bool true)) (.t 118), none⟩])
           (.cond (.t 119)
            (.seq (.ops none [⟨some 10, .mv (.c (.bool false)), none⟩])
             .ret)
            .skip))
          (.seq (.ops none [⟨some 120, .mv (.t 11), none⟩,
            ⟨some 121, .mv (.t 120), none⟩,
            ⟨some 122, .faddr 2 (.t 16), some (121, true)⟩,
            ⟨some 123, .load true 2 (.t 122), some (121, true)⟩,
            ⟨some 124, .faddr 2 (.t 12), some (121, true)⟩,
            ⟨some 125, .load true 2 (.t 124), some (121, true)⟩,
            ⟨some 126, .eqS false [0, 0] (.t 123) (.t 125), some (121, true)⟩,
            ⟨some 127, .pick (.t 121) (.t 126) (.c (.bool false)), none⟩,
            ⟨some 128, .mv (.t 127), none⟩,
            ⟨some 129, .faddr 4 (.t 16), some (128, true)⟩,
            ⟨some 130, .load false 1 (.t 129), some (128, true)⟩,
            ⟨some 131, .faddr 4 (.t 12), some (128, true)⟩,
            ⟨some 132, .load false 1 (.t 131), some (128, true)⟩,
            ⟨some 133, .bin .eql (.t 130) (.t 132), some (128, true)⟩,
            ⟨some 134, .pick (.t 128) (.t 133) (.c (.bool false)), none⟩,
            ⟨some 135, .mv (.t 134), none⟩,
            ⟨some 136, .faddr 0 (.t 16), some (135, true)⟩,
            ⟨some 137, .load false 1 (.t 136), some (135, true)⟩,
            ⟨some 138, .faddr 0 (.t 5), some (135, true)⟩,
            ⟨some 139, .load false 1 (.t 138), some (135, true)⟩,
            ⟨some 140, .len false (.t 139), some (135, true)⟩,
            ⟨some 141, .iaddr 1 (.t 137) (.t 140), some (135, true)⟩,
            ⟨some 142, .load false 1 (.t 141), some (135, true)⟩,
            ⟨some 143, .mv (.t 3), some (135, true)⟩,
            ⟨some 144, .bin .eql (.t 142) (.t 143), some (135, true)⟩,
            ⟨some 145, .pick (.t 135) (.t 144) (.c (.bool false)), none⟩,
            ⟨some 146, .mv (.t 145), none⟩,
            ⟨some 147, .faddr 2 (.t 18), some (146, true)⟩,
            ⟨some 148, .load true 2 (.t 147), some (146, true)⟩,
            ⟨some 149, .faddr 2 (.t 5), some (146, true)⟩,
            ⟨some 150, .load true 2 (.t 149), some (146, true)⟩,
            ⟨some 151, .eqS false [0, 0] (.t 148) (.t 150), some (146, true)⟩,
            ⟨some 152, .pick (.t 146) (.t 151) (.c (.bool false)), none⟩,
            ⟨some 153, .mv (.t 152), none⟩,
            ⟨some 154, .faddr 4 (.t 18), some (153, true)⟩,
            ⟨some 155, .load false 1 (.t 154), some (153, true)⟩,
            ⟨some 156, .bin .eql (.t 155) (.c (.int .i64 0)), some (153, true)⟩,
            ⟨some 157, .pick (.t 153) (.t 156) (.c (.bool false)), none⟩,
            ⟨some 158, .mv (.t 157), none⟩,
            ⟨some 159, .faddr 0 (.t 18), some (158, true)⟩,
            ⟨some 160, .load false 1 (.t 159), some (158, true)⟩,
            ⟨some 161, .faddr 0 (.t 5), some (158, true)⟩,
            ⟨some 162, .load false 1 (.t 161), some (158, true)⟩,
            ⟨some 163, .len false (.t 162), some (158, true)⟩,
            ⟨some 164, .iaddr 1 (.t 160) (.t 163), some (158, true)⟩,
            ⟨some 165, .load false 1 (.t 164), some (158, true)⟩,
            ⟨some 166, .mv (.t 4), some (158, true)⟩,
            ⟨some 167, .bin .eql (.t 165) (.t 166), some (158, true)⟩,
            ⟨some 168, .pick (.t 158) (.t 167) (.c (.bool false)), none⟩,
            ⟨some 169, .mv (.t 168), none⟩,
            ⟨some 170, .faddr 1 (.t 18), some (169, true)⟩,
            ⟨some 171, .load false 1 (.t 170), some (169, true)⟩,
            ⟨some 172, .faddr 1 (.t 5), some (169, true)⟩,
            ⟨some 173, .load false 1 (.t 172), some (169, true)⟩,
            ⟨some 174, .call 16 true [] [(.t 171), (.t 173)], some (169, true)⟩,
            ⟨some 175, .pick (.t 169) (.t 174) (.c (.bool false)), none⟩,
            ⟨some 10, .mv (.t 175), none⟩])
           .ret))))))))))⟩
theorem cop7 : copF Try.prog raws [] 7 = some ir7 := by kernel_rfl
/-- tenterhook/tenterhooklaw13.RetCaught -/
def ir8 : F := ⟨216, [.t 8],
 (.seq (.ops none [⟨some 4, .box (.t 0), none⟩,
   ⟨some 8, .mv (.c (.bool false)), none⟩])
  (.seq (.ops none [⟨some 22, .call 10 true [] [], none⟩,
    ⟨some 9, .mv (.t 22), none⟩])
   (.seq (.seq (.ops none [⟨some 23, .load true 5 (.t 4), none⟩,
      ⟨some 24, .call 11 true [] [(.t 23)], none⟩,
      ⟨some 25, .un .not (.t 24), none⟩,
      ⟨some 26, .mv (.t 25), none⟩,
      ⟨some 27, .load true 5 (.t 4), some (26, false)⟩,
      ⟨some 28, .call 13 false [] [(.t 27)], some (26, false)⟩,
      ⟨some 29, .call 12 true [] [(.t 28)], some (26, false)⟩,
      ⟨some 30, .un .not (.t 29), some (26, false)⟩,
      ⟨some 31, .pick (.t 26) (.c (.bool true)) (.t 30), none⟩,
      ⟨some 32, .mv (.t 31), none⟩,
      ⟨some 33, .mv (.t 2), some (32, false)⟩,
      ⟨some 34, .len false (.t 33), some (32, false)⟩,
      ⟨some 35, .bin .gtr (.t 34) (.c (.int .i64 20)), some (32, false)⟩,
      ⟨some 36, .pick (.t 32) (.c (.bool true)) (.t 35), none⟩,
      ⟨some 37, .mv (.t 36), none⟩,
      ⟨some 38, .faddr 0 (.t 4), some (37, false)⟩,
      ⟨some 39, .load false 1 (.t 38), some (37, false)⟩,
      ⟨some 40, .len false (.t 39), some (37, false)⟩,
      ⟨some 41, .bin .gtr (.t 40) (.c (.int .i64 63)), some (37, false)⟩,
      ⟨some 42, .pick (.t 37) (.c (.bool true)) (.t 41), none⟩])
     (.cond (.t 42)
      (.seq (.ops none [⟨some 43, .mv (.t 9), none⟩,
        ⟨some 8, .mv (.t 43), none⟩])
       .ret)
      .skip))
    (.seq (.ops none [⟨some 45, .load true 5 (.t 4), none⟩,
      ⟨some 46, .call 13 false [] [(.t 45)], none⟩,
      ⟨some 47, .mv (.t 1), none⟩,
      ⟨some 48, .call 29 false [] [(.t 46), (.t 47)], none⟩,
      ⟨some 44, .mv (.t 48), none⟩,
      ⟨some 49, .ext (.t 44) 0, none⟩,
      ⟨some 50, .ext (.t 44) 1, none⟩,
      ⟨some 10, .alloc [.nil, .nil, .int .i64 0, .int .i64 0, .int .i64 0], none⟩,
      ⟨none, .store 5 (.t 10) (.t 49), none⟩,
      ⟨some 11, .mv (.t 50), none⟩])
     (.seq (.seq (.ops none [⟨some 51, .mv (.t 11), none⟩,
        ⟨some 52, .bin .neq (.t 51) (.c (.int .i64 0)), none⟩])
       (.cond (.t 52)
        (.seq (.ops none [⟨some 53, .mv (.t 9), none⟩,
          ⟨some 54, .mv (.t 53), none⟩,
          ⟨some 55, .mv (.t 11), some (54, true)⟩,
          ⟨some 56, .bin .eql (.t 55) (.c (.int .i64 (-5))), some (54, true)⟩,
          ⟨some 57, .mv (.t 56), some (54, true)⟩,
          ⟨some 58, .mv (.t 11), some (57, false)⟩,
          ⟨some 59, .bin .eql (.t 58) (.c (.int .i64 (-9))), some (57, false)⟩,
          ⟨some 60, .pick (.t 57) (.c (.bool true)) (.t 59), some (54, true)⟩,
          ⟨some 61, .pick (.t 54) (.t 60) (.c (.bool false)), none⟩,
          ⟨some 8, .mv (.t 61), none⟩])
         .ret)
        .skip))
      (.seq (.ops none [⟨some 63, .load true 5 (.t 10), none⟩,
        ⟨some 64, .call 17 false [] [(.t 63)], none⟩,
        ⟨some 62, .mv (.t 64), none⟩,
        ⟨some 65, .ext (.t 62) 0, none⟩,
        ⟨some 66, .ext (.t 62) 1, none⟩,
        ⟨some 67, .ext (.t 62) 2, none⟩,
        ⟨some 12, .alloc [.nil, .nil, .int .i64 0, .int .i64 0, .int .i64 0], none⟩,
        ⟨none, .store 5 (.t 12) (.t 65), none⟩,
        ⟨some 13, .mv (.t 66), none⟩,
        ⟨some 14, .mv (.t 67), none⟩])
       (.seq (.seq (.ops (some []) [⟨some 68, .mv (.t 13), none⟩,
          ⟨some 69, .mv (.t 68), none⟩,
          ⟨some 70, .mv (.t 14), some (69, false)⟩,
          ⟨some 71, .bin .neq (.t 70) (.c (.int .i64 0)), some (69, false)⟩,
          ⟨some 72, .pick (.t 69) (.c (.bool true)) (.t 71), none⟩,
          ⟨some 73, .mv (.t 72), none⟩,
          ⟨some 74, .faddr 2 (.t 12), some (73, false)⟩,
          ⟨some 75, .load true 2 (.t 74), some (73, false)⟩,
          ⟨some 76, .faddr 2 (.t 4), some (73, false)⟩,
          ⟨some 77, .load true 2 (.t 76), some (73, false)⟩,
          ⟨some 78, .eqS true [0, 0] (.t 75) (.t 77), some (73, false)⟩,
          ⟨some 79, .pick (.t 73) (.c (.bool true)) (.t 78), none⟩,
          ⟨some 80, .mv (.t 79), none⟩,
          ⟨some 81, .faddr 4 (.t 12), some (80, false)⟩,
          ⟨some 82, .load false 1 (.t 81), some (80, false)⟩,
          ⟨some 83, .faddr 4 (.t 4), some (80, false)⟩,
          ⟨some 84, .load false 1 (.t 83), some (80, false)⟩,
          ⟨some 85, .bin .neq (.t 82) (.t 84), some (80, false)⟩,
          ⟨some 86, .pick (.t 80) (.c (.bool true)) (.t 85), none⟩,
          ⟨some 87, .mv (.t 86), none⟩,
          ⟨some 88, .faddr 1 (.t 12), some (87, false)⟩,
          ⟨some 89, .load false 1 (.t 88), some (87, false)⟩,
          ⟨some 90, .faddr 1 (.t 4), some (87, false)⟩,
          ⟨some 91, .load false 1 (.t 90), some (87, false)⟩,
          ⟨some 92, .call 16 true [] [(.t 89), (.t 91)], some (87, false)⟩,
          ⟨some 93, .un .not (.t 92), some (87, false)⟩,
          ⟨some 94, .pick (.t 87) (.c (.bool true)) (.t 93), none⟩,
          ⟨some 95, .mv (.t 94), none⟩,
          ⟨some 96, .faddr 0 (.t 12), some (95, false)⟩,
          ⟨some 97, .load false 1 (.t 96), some (95, false)⟩,
          ⟨some 98, .len false (.t 97), some (95, false)⟩,
          ⟨some 99, .faddr 0 (.t 4), some (95, false)⟩,
          ⟨some 100, .load false 1 (.t 99), some (95, false)⟩,
          ⟨some 101, .len false (.t 100), some (95, false)⟩,
          ⟨some 102, .bin .add (.t 101) (.c (.int .i64 1)), some (95, false)⟩,
          ⟨some 103, .bin .neq (.t 98) (.t 102), some (95, false)⟩,
          ⟨some 104, .pick (.t 95) (.c (.bool true)) (.t 103), none⟩,
          ⟨some 105, .mv (.t 104), none⟩,
          ⟨some 106, .faddr 0 (.t 12), some (105, false)⟩,
          ⟨some 107, .load false 1 (.t 106), some (105, false)⟩,
          ⟨some 108, .faddr 0 (.t 4), some (105, false)⟩,
          ⟨some 109, .load false 1 (.t 108), some (105, false)⟩,
          ⟨some 110, .len false (.t 109), some (105, false)⟩,
          ⟨some 111, .iaddr 1 (.t 107) (.t 110), some (105, false)⟩,
          ⟨some 112, .load false 1 (.t 111), some (105, false)⟩,
          ⟨some 113, .bin .neq (.t 112) (.c (.int .i64 0)), some (105, false)⟩,
          ⟨some 114, .pick (.t 105) (.c (.bool true)) (.t 113), none⟩,
          ⟨some 115, .mv (.t 114), none⟩,
          ⟨some 116, .faddr 0 (.t 12), some (115, false)⟩,
          ⟨some 117, .load false 1 (.t 116), some (115, false)⟩,
          ⟨some 118, .faddr 0 (.t 4), some (115, false)⟩,
          ⟨some 119, .load false 1 (.t 118), some (115, false)⟩,
          ⟨some 120, .len false (.t 119), some (115, false)⟩,
          ⟨some 121, .slice false 1 (.t 117) none (some (.t 120)) none, some (115, false)⟩,
          ⟨some 122, .faddr 0 (.t 4), some (115, false)⟩,
          ⟨some 123, .load false 1 (.t 122), some (115, false)⟩,
          ⟨some 124, .call 16 true [] [(.t 121), (.t 123)], some (115, false)⟩,
          ⟨some 125, .un .not (.t 124), some (115, false)⟩,
          ⟨some 126, .pick (.t 115) (.c (.bool true)) (.t 125), none⟩])
         (.cond (.t 126)
          (.seq (.ops none [⟨some 8, .mv (.c (.bool false)), none⟩])
           .ret)
          .skip))
        (.seq (.seq (.ops none [⟨some 15, .mv (.c (.int .i64 0)), none⟩])
          (.block 0 (.loop [2, 3, 4, 9, 10, 15] []
            (.seq (.seq (.ops none [⟨some 127, .mv (.t 15), none⟩,
               ⟨some 128, .mv (.t 2), none⟩,
               ⟨some 129, .len false (.t 128), none⟩,
               ⟨some 130, .bin .lss (.t 127) (.t 129), none⟩])
              (.cond (.t 130)
               .skip
               (.exit 0)))
             (.seq (.block 1 (.seq (.ops (some [(0, 9), (4, 9), (5, 9)]) [⟨some 134, .load true 5 (.t 10), none⟩,
                 ⟨some 135, .mv (.t 2), none⟩,
                 ⟨some 136, .mv (.t 15), none⟩,
                 ⟨some 137, .iaddr 1 (.t 135) (.t 136), none⟩,
                 ⟨some 138, .load false 1 (.t 137), none⟩,
                 ⟨some 139, .call 21 false [] [(.t 134), (.t 138)], none⟩,
                 ⟨some 133, .mv (.t 139), none⟩,
                 ⟨some 140, .ext (.t 133) 0, none⟩,
                 ⟨some 141, .ext (.t 133) 1, none⟩,
                 ⟨some 16, .alloc [.nil, .nil, .int .i64 0, .int .i64 0, .int .i64 0], none⟩,
                 ⟨none, .store 5 (.t 16) (.t 140), none⟩,
                 ⟨some 17, .mv (.t 141), none⟩])
                (.ops none [⟨some 142, .load true 5 (.t 16), none⟩,
                 ⟨none, .store 5 (.t 10) (.t 142), none⟩])))
              (.ops none [⟨some 131, .mv (.t 15), none⟩,
               ⟨some 132, .bin .add (.t 131) (.c (.int .i64 1)), none⟩,
               ⟨some 15, .mv (.t 132), none⟩]))))))
         (.seq (.ops none [⟨some 143, .load true 5 (.t 10), none⟩,
           ⟨some 18, .alloc [.nil, .nil, .int .i64 0, .int .i64 0, .int .i64 0], none⟩,
           ⟨none, .store 5 (.t 18) (.t 143), none⟩])
          (.seq (.ops none [⟨some 144, .bslice 1 0 [.int .i64 0] [], none⟩,
            ⟨some 145, .mv (.t 2), none⟩,
            ⟨some 146, .append 1 (.t 144) (.t 145), none⟩,
            ⟨some 147, .faddr 0 (.t 18), none⟩,
            ⟨none, .store 1 (.t 147) (.t 146), none⟩])
           (.seq (.ops none [⟨some 149, .load true 5 (.t 18), none⟩,
             ⟨some 150, .mv (.t 3), none⟩,
             ⟨some 151, .call 26 false [] [(.t 149), (.t 150)], none⟩,
             ⟨some 148, .mv (.t 151), none⟩,
             ⟨some 152, .ext (.t 148) 0, none⟩,
             ⟨some 153, .ext (.t 148) 1, none⟩,
             ⟨some 19, .alloc [.nil, .nil, .int .i64 0, .int .i64 0, .int .i64 0], none⟩,
             ⟨none, .store 5 (.t 19) (.t 152), none⟩,
             ⟨some 20, .mv (.t 153), none⟩])
            (.seq (.seq (.ops none [⟨some 154, .mv (.t 20), none⟩,
               ⟨some 155, .un .not (.t 154), none⟩,
               ⟨some 156, .mv (.t 155), none⟩,
               ⟨some 157, .faddr 2 (.t 19), some (156, false)⟩,
               ⟨some 158, .load true 2 (.t 157), some (156, false)⟩,
               ⟨some 159, .faddr 2 (.t 4), some (156, false)⟩,
               ⟨some 160, .load true 2 (.t 159), some (156, false)⟩,
               ⟨some 161, .eqS true [0, 0] (.t 158) (.t 160), some (156, false)⟩,
               ⟨some 162, .pick (.t 156) (.c (.bool true)) (.t 161), none⟩,
               ⟨some 163, .mv (.t 162), none⟩,
               ⟨some 164, .faddr 4 (.t 19), some (163, false)⟩,
               ⟨some 165, .load false 1 (.t 164), some (163, false)⟩,
               ⟨some 166, .faddr 4 (.t 4), some (163, false)⟩,
               ⟨some 167, .load false 1 (.t 166), some (163, false)⟩,
               ⟨some 168, .bin .neq (.t 165) (.t 167), some (163, false)⟩,
               ⟨some 169, .pick (.t 163) (.c (.bool true)) (.t 168), none⟩,
               ⟨some 170, .mv (.t 169), none⟩,
               ⟨some 171, .faddr 1 (.t 19), some (170, false)⟩,
               ⟨some 172, .load false 1 (.t 171), some (170, false)⟩,
               ⟨some 173, .faddr 1 (.t 4), some (170, false)⟩,
               ⟨some 174, .load false 1 (.t 173), some (170, false)⟩,
               ⟨some 175, .call 16 true [] [(.t 172), (.t 174)], some (170, false)⟩,
               ⟨some 176, .un .not (.t 175), some (170, false)⟩,
               ⟨some 177, .pick (.t 170) (.c (.bool true)) (.t 176), none⟩,
               ⟨some 178, .mv (.t 177), none⟩,
               ⟨some 179, .faddr 0 (.t 19), some (178, false)⟩,
               ⟨some 180, .load false 1 (.t 179), some (178, false)⟩,
               ⟨some 181, .len false (.t 180), some (178, false)⟩,
               ⟨some 182, .faddr 0 (.t 4), some (178, false)⟩,
               ⟨some 183, .load false 1 (.t 182), some (178, false)⟩,
               ⟨some 184, .len false (.t 183), some (178, false)⟩,
               ⟨some 185, .bin .add (.t 184) (.c (.int .i64 1)), some (178, false)⟩,
               ⟨some 186, .bin .neq (.t 181) (.t 185), some (178, false)⟩,
               ⟨some 187, .pick (.t 178) (.c (.bool true)) (.t 186), none⟩,
               ⟨some 188, .mv (.t 187), none⟩,
               ⟨some 189, .faddr 0 (.t 19), some (188, false)⟩,
               ⟨some 190, .load false 1 (.t 189), some (188, false)⟩,
               ⟨some 191, .faddr 0 (.t 4), some (188, false)⟩,
               ⟨some 192, .load false 1 (.t 191), some (188, false)⟩,
               ⟨some 193, .len false (.t 192), some (188, false)⟩,
               ⟨some 194, .iaddr 1 (.t 190) (.t 193), some (188, false)⟩,
               ⟨some 195, .load false 1 (.t 194), some (188, false)⟩,
               ⟨some 196, .mv (.t 3), some (188, false)⟩,
               ⟨some 197, .bin .neq (.t 195) (.t 196), some (188, false)⟩,
               ⟨some 198, .pick (.t 188) (.c (.bool true)) (.t 197), none⟩])
              (.cond (.t 198)
               (.seq (.ops none [⟨some 8, .mv (.c (.bool false)), none⟩])
                .ret)
               .skip))
             (.seq (.ops none [⟨some 199, .mv (.t 2), none⟩,
               ⟨some 200, .len false (.t 199), none⟩,
               ⟨some 201, .faddr 0 (.t 4), none⟩,
               ⟨some 202, .load false 1 (.t 201), none⟩,
               ⟨some 203, .len false (.t 202), none⟩,
               ⟨some 204, .minmax false [(.t 200), (.t 203)], none⟩,
               ⟨some 21, .mv (.t 204), none⟩])
              (.seq (.ops (some []) [⟨some 205, .mv (.t 9), none⟩,
                ⟨some 206, .mv (.t 205), none⟩,
                ⟨some 207, .faddr 0 (.t 19), some (206, true)⟩,
                ⟨some 208, .load false 1 (.t 207), some (206, true)⟩,
                ⟨some 209, .mv (.t 21), some (206, true)⟩,
                ⟨some 210, .slice false 1 (.t 208) none (some (.t 209)) none, some (206, true)⟩,
                ⟨some 211, .mv (.t 2), some (206, true)⟩,
                ⟨some 212, .mv (.t 21), some (206, true)⟩,
                ⟨some 213, .slice false 1 (.t 211) none (some (.t 212)) none, some (206, true)⟩,
                ⟨some 214, .call 16 true [] [(.t 210), (.t 213)], some (206, true)⟩,
                ⟨some 215, .pick (.t 206) (.t 214) (.c (.bool false)), none⟩,
                ⟨some 8, .mv (.t 215), none⟩])
               .ret))))))))))))))⟩
theorem cop8 : copF Try.prog raws [([2, 3, 4, 9, 10, 15], [])] 8 = some ir8 := by kernel_rfl
/-- tenterhook/tenterhooklaw13.RetIs -/
def ir9 : F := ⟨157, [.t 6],
 (.seq (.ops none [⟨some 3, .box (.t 0), none⟩,
   ⟨some 6, .mv (.c (.bool false)), none⟩])
  (.seq (.ops none [⟨some 15, .call 10 true [] [], none⟩,
    ⟨some 7, .mv (.t 15), none⟩])
   (.seq (.seq (.ops none [⟨some 16, .load true 5 (.t 3), none⟩,
      ⟨some 17, .call 11 true [] [(.t 16)], none⟩,
      ⟨some 18, .un .not (.t 17), none⟩])
     (.cond (.t 18)
      (.seq (.ops none [⟨some 19, .mv (.t 7), none⟩,
        ⟨some 6, .mv (.t 19), none⟩])
       .ret)
      .skip))
    (.seq (.ops none [⟨some 20, .load true 5 (.t 3), none⟩,
      ⟨some 21, .call 13 false [] [(.t 20)], none⟩,
      ⟨some 8, .alloc [.nil, .nil, .int .i64 0, .int .i64 0, .int .i64 0], none⟩,
      ⟨none, .store 5 (.t 8) (.t 21), none⟩])
     (.seq (.ops none [⟨some 23, .load true 5 (.t 8), none⟩,
       ⟨some 24, .mv (.t 1), none⟩,
       ⟨some 25, .call 14 false [] [(.t 23), (.t 24)], none⟩,
       ⟨some 22, .mv (.t 25), none⟩,
       ⟨some 26, .ext (.t 22) 0, none⟩,
       ⟨some 27, .ext (.t 22) 1, none⟩,
       ⟨some 9, .alloc [.nil, .nil, .int .i64 0, .int .i64 0, .int .i64 0], none⟩,
       ⟨none, .store 5 (.t 9) (.t 26), none⟩,
       ⟨some 10, .mv (.t 27), none⟩])
      (.seq (.ops none [⟨some 29, .load true 5 (.t 3), none⟩,
        ⟨some 30, .mv (.t 1), none⟩,
        ⟨some 31, .call 30 false [] [(.t 29), (.t 30)], none⟩,
        ⟨some 28, .mv (.t 31), none⟩,
        ⟨some 32, .ext (.t 28) 0, none⟩,
        ⟨some 33, .ext (.t 28) 1, none⟩,
        ⟨some 11, .alloc [.nil, .nil, .int .i64 0, .int .i64 0, .int .i64 0], none⟩,
        ⟨none, .store 5 (.t 11) (.t 32), none⟩,
        ⟨some 12, .mv (.t 33), none⟩])
       (.seq (.seq (.ops (some [(1, 2)]) [⟨some 34, .load true 5 (.t 9), none⟩,
          ⟨some 35, .call 19 false [] [(.t 34)], none⟩,
          ⟨some 36, .load true 5 (.t 11), none⟩,
          ⟨some 37, .call 18 true [] [(.t 35), (.t 36)], none⟩,
          ⟨some 38, .un .not (.t 37), none⟩,
          ⟨some 39, .mv (.t 38), none⟩,
          ⟨some 40, .mv (.t 10), some (39, false)⟩,
          ⟨some 41, .mv (.t 12), some (39, false)⟩,
          ⟨some 42, .bin .neq (.t 40) (.t 41), some (39, false)⟩,
          ⟨some 43, .pick (.t 39) (.c (.bool true)) (.t 42), none⟩,
          ⟨some 44, .mv (.t 43), none⟩,
          ⟨some 45, .load true 5 (.t 8), some (44, false)⟩,
          ⟨some 46, .call 12 true [] [(.t 45)], some (44, false)⟩,
          ⟨some 47, .load true 5 (.t 3), some (44, false)⟩,
          ⟨some 48, .call 31 true [] [(.t 47)], some (44, false)⟩,
          ⟨some 49, .eqB true (.t 46) (.t 48), some (44, false)⟩,
          ⟨some 50, .pick (.t 44) (.c (.bool true)) (.t 49), none⟩])
         (.cond (.t 50)
          (.seq (.ops none [⟨some 6, .mv (.c (.bool false)), none⟩])
           .ret)
          .skip))
        (.seq (.ops none [⟨some 52, .load true 5 (.t 8), none⟩,
          ⟨some 53, .call 17 false [] [(.t 52)], none⟩,
          ⟨some 51, .mv (.t 53), none⟩,
          ⟨some 54, .ext (.t 51) 0, none⟩,
          ⟨some 55, .ext (.t 51) 1, none⟩,
          ⟨some 56, .ext (.t 51) 2, none⟩,
          ⟨none, .store 5 (.t 9) (.t 54), none⟩,
          ⟨some 13, .mv (.t 55), none⟩,
          ⟨some 10, .mv (.t 56), none⟩])
         (.seq (.ops none [⟨some 58, .load true 5 (.t 3), none⟩,
           ⟨some 59, .call 32 false [] [(.t 58)], none⟩,
           ⟨some 57, .mv (.t 59), none⟩,
           ⟨some 60, .ext (.t 57) 0, none⟩,
           ⟨some 61, .ext (.t 57) 1, none⟩,
           ⟨some 62, .ext (.t 57) 2, none⟩,
           ⟨none, .store 5 (.t 11) (.t 60), none⟩,
           ⟨some 14, .mv (.t 61), none⟩,
           ⟨some 12, .mv (.t 62), none⟩])
          (.seq (.seq (.ops (some [(1, 2)]) [⟨some 63, .load true 5 (.t 9), none⟩,
             ⟨some 64, .call 19 false [] [(.t 63)], none⟩,
             ⟨some 65, .load true 5 (.t 11), none⟩,
             ⟨some 66, .call 18 true [] [(.t 64), (.t 65)], none⟩,
             ⟨some 67, .un .not (.t 66), none⟩,
             ⟨some 68, .mv (.t 67), none⟩,
             ⟨some 69, .mv (.t 10), some (68, false)⟩,
             ⟨some 70, .mv (.t 12), some (68, false)⟩,
             ⟨some 71, .bin .neq (.t 69) (.t 70), some (68, false)⟩,
             ⟨some 72, .pick (.t 68) (.c (.bool true)) (.t 71), none⟩,
             ⟨some 73, .mv (.t 72), none⟩,
             ⟨some 74, .mv (.t 13), some (73, false)⟩,
             ⟨some 75, .mv (.t 14), some (73, false)⟩,
             ⟨some 76, .eqB true (.t 74) (.t 75), some (73, false)⟩,
             ⟨some 77, .pick (.t 73) (.c (.bool true)) (.t 76), none⟩])
            (.cond (.t 77)
             (.seq (.ops none [⟨some 6, .mv (.c (.bool false)), none⟩])
              .ret)
             .skip))
           (.seq (.ops none [⟨some 79, .load true 5 (.t 8), none⟩,
             ⟨some 80, .mv (.t 1), none⟩,
             ⟨some 81, .mv (.t 2), none⟩,
             ⟨some 82, .call 23 false [] [(.t 79), (.t 80), (.t 81)], none⟩,
             ⟨some 78, .mv (.t 82), none⟩,
             ⟨some 83, .ext (.t 78) 0, none⟩,
             ⟨some 84, .ext (.t 78) 1, none⟩,
             ⟨none, .store 5 (.t 9) (.t 83), none⟩,
             ⟨some 10, .mv (.t 84), none⟩])
            (.seq (.ops none [⟨some 86, .load true 5 (.t 3), none⟩,
              ⟨some 87, .mv (.t 1), none⟩,
              ⟨some 88, .mv (.t 2), none⟩,
              ⟨some 89, .call 33 false [] [(.t 86), (.t 87), (.t 88)], none⟩,
              ⟨some 85, .mv (.t 89), none⟩,
              ⟨some 90, .ext (.t 85) 0, none⟩,
              ⟨some 91, .ext (.t 85) 1, none⟩,
              ⟨none, .store 5 (.t 11) (.t 90), none⟩,
              ⟨some 12, .mv (.t 91), none⟩])
             (.seq (.seq (.ops (some [(1, 2)]) [⟨some 92, .load true 5 (.t 9), none⟩,
                ⟨some 93, .call 19 false [] [(.t 92)], none⟩,
                ⟨some 94, .load true 5 (.t 11), none⟩,
                ⟨some 95, .call 18 true [] [(.t 93), (.t 94)], none⟩,
                ⟨some 96, .un .not (.t 95), none⟩,
                ⟨some 97, .mv (.t 96), none⟩,
                ⟨some 98, .mv (.t 10), some (97, false)⟩,
                ⟨some 99, .mv (.t 12), some (97, false)⟩,
                ⟨some 100, .bin .neq (.t 98) (.t 99), some (97, false)⟩,
                ⟨some 101, .pick (.t 97) (.c (.bool true)) (.t 100), none⟩])
               (.cond (.t 101)
                (.seq (.ops none [⟨some 6, .mv (.c (.bool false)), none⟩])
                 .ret)
                .skip))
              (.seq (.ops none [⟨some 103, .load true 5 (.t 8), none⟩,
                ⟨some 104, .mv (.t 1), none⟩,
                ⟨some 105, .call 28 false [] [(.t 103), (.t 104)], none⟩,
                ⟨some 102, .mv (.t 105), none⟩,
                ⟨some 106, .ext (.t 102) 0, none⟩,
                ⟨some 107, .ext (.t 102) 1, none⟩,
                ⟨some 108, .ext (.t 102) 2, none⟩,
                ⟨none, .store 5 (.t 9) (.t 106), none⟩,
                ⟨some 13, .mv (.t 107), none⟩,
                ⟨some 10, .mv (.t 108), none⟩])
               (.seq (.ops none [⟨some 110, .load true 5 (.t 3), none⟩,
                 ⟨some 111, .mv (.t 1), none⟩,
                 ⟨some 112, .call 34 false [] [(.t 110), (.t 111)], none⟩,
                 ⟨some 109, .mv (.t 112), none⟩,
                 ⟨some 113, .ext (.t 109) 0, none⟩,
                 ⟨some 114, .ext (.t 109) 1, none⟩,
                 ⟨some 115, .ext (.t 109) 2, none⟩,
                 ⟨none, .store 5 (.t 11) (.t 113), none⟩,
                 ⟨some 14, .mv (.t 114), none⟩,
                 ⟨some 12, .mv (.t 115), none⟩])
                (.seq (.seq (.ops (some [(1, 2)]) [⟨some 116, .load true 5 (.t 9), none⟩,
                   ⟨some 117, .call 19 false [] [(.t 116)], none⟩,
                   ⟨some 118, .load true 5 (.t 11), none⟩,
                   ⟨some 119, .call 18 true [] [(.t 117), (.t 118)], none⟩,
                   ⟨some 120, .un .not (.t 119), none⟩,
                   ⟨some 121, .mv (.t 120), none⟩,
                   ⟨some 122, .mv (.t 10), some (121, false)⟩,
                   ⟨some 123, .mv (.t 12), some (121, false)⟩,
                   ⟨some 124, .bin .neq (.t 122) (.t 123), some (121, false)⟩,
                   ⟨some 125, .pick (.t 121) (.c (.bool true)) (.t 124), none⟩,
                   ⟨some 126, .mv (.t 125), none⟩,
                   ⟨some 127, .mv (.t 13), some (126, false)⟩,
                   ⟨some 128, .mv (.t 14), some (126, false)⟩,
                   ⟨some 129, .eqB true (.t 127) (.t 128), some (126, false)⟩,
                   ⟨some 130, .pick (.t 126) (.c (.bool true)) (.t 129), none⟩])
                  (.cond (.t 130)
                   (.seq (.ops none [⟨some 6, .mv (.c (.bool false)), none⟩])
                    .ret)
                   .skip))
                 (.seq (.ops none [⟨some 132, .load true 5 (.t 8), none⟩,
                   ⟨some 133, .call 24 false [] [(.t 132)], none⟩,
                   ⟨some 131, .mv (.t 133), none⟩,
                   ⟨some 134, .ext (.t 131) 0, none⟩,
                   ⟨some 135, .ext (.t 131) 1, none⟩,
                   ⟨none, .store 5 (.t 9) (.t 134), none⟩,
                   ⟨some 10, .mv (.t 135), none⟩])
                  (.seq (.ops none [⟨some 137, .load true 5 (.t 3), none⟩,
                    ⟨some 138, .call 35 false [] [(.t 137)], none⟩,
                    ⟨some 136, .mv (.t 138), none⟩,
                    ⟨some 139, .ext (.t 136) 0, none⟩,
                    ⟨some 140, .ext (.t 136) 1, none⟩,
                    ⟨none, .store 5 (.t 11) (.t 139), none⟩,
                    ⟨some 12, .mv (.t 140), none⟩])
                   (.seq (.seq (.ops (some [(1, 2)]) [⟨some 141, .load true 5 (.t 9), none⟩,
                      ⟨some 142, .call 19 false [] [(.t 141)], none⟩,
                      ⟨some 143, .load true 5 (.t 11), none⟩,
                      ⟨some 144, .call 18 true [] [(.t 142), (.t 143)], none⟩,
                      ⟨some 145, .un .not (.t 144), none⟩,
                      ⟨some 146, .mv (.t 145), none⟩,
                      ⟨some 147, .mv (.t 10), some (146, false)⟩,
                      ⟨some 148, .mv (.t 12), some (146, false)⟩,
                      ⟨some 149, .bin .neq (.t 147) (.t 148), some (146, false)⟩,
                      ⟨some 150, .pick (.t 146) (.c (.bool true)) (.t 149), none⟩])
                     (.cond (.t 150)
                      (.seq (.ops none [⟨some 6, .mv (.c (.bool false)), none⟩])
                       .ret)
                      .skip))
                    (.seq (.ops none [⟨some 151, .mv (.t 7), none⟩,
                      ⟨some 152, .mv (.t 151), none⟩,
                      ⟨some 153, .load true 5 (.t 3), some (152, true)⟩,
                      ⟨some 154, .mv (.t 1), some (152, true)⟩,
                      ⟨some 155, .call 36 true [] [(.t 153), (.t 154)], some (152, true)⟩,
                      ⟨some 156, .pick (.t 152) (.t 155) (.c (.bool false)), none⟩,
                      ⟨some 6, .mv (.t 156), none⟩])
                     .ret))))))))))))))))))))⟩
theorem cop9 : copF Try.prog raws [] 9 = some ir9 := by kernel_rfl
/-- tenterhook/tenterhooklaw13.awake -/
def ir10 : F := ⟨69, [.t 0],
 (.seq (.ops none [⟨some 0, .mv (.c (.bool false)), none⟩])
  (.seq (.ops none [⟨some 10, .build [.int .i64 0, .int .i64 0] [(0, 1, (.c (.int .i64 2))), (1, 1, (.c (.int .i64 3)))], none⟩,
    ⟨some 11, .call 27 false [] [(.t 10)], none⟩,
    ⟨some 1, .alloc [.nil, .nil, .int .i64 0, .int .i64 0, .int .i64 0], none⟩,
    ⟨none, .store 5 (.t 1) (.t 11), none⟩])
   (.seq (.ops none [⟨some 13, .load true 5 (.t 1), none⟩,
     ⟨some 14, .call 14 false [] [(.t 13), (.c (.int .i64 4096))], none⟩,
     ⟨some 12, .mv (.t 14), none⟩,
     ⟨some 15, .ext (.t 12) 0, none⟩,
     ⟨some 16, .ext (.t 12) 1, none⟩,
     ⟨some 2, .alloc [.nil, .nil, .int .i64 0, .int .i64 0, .int .i64 0], none⟩,
     ⟨none, .store 5 (.t 2) (.t 15), none⟩,
     ⟨some 3, .mv (.t 16), none⟩])
    (.seq (.ops none [⟨some 18, .load true 5 (.t 2), none⟩,
      ⟨some 19, .call 17 false [] [(.t 18)], none⟩,
      ⟨some 17, .mv (.t 19), none⟩,
      ⟨some 20, .ext (.t 17) 0, none⟩,
      ⟨some 21, .ext (.t 17) 1, none⟩,
      ⟨some 22, .ext (.t 17) 2, none⟩,
      ⟨some 4, .alloc [.nil, .nil, .int .i64 0, .int .i64 0, .int .i64 0], none⟩,
      ⟨none, .store 5 (.t 4) (.t 20), none⟩,
      ⟨some 5, .mv (.t 21), none⟩,
      ⟨some 6, .mv (.t 22), none⟩])
     (.seq (.ops none [⟨some 24, .load true 5 (.t 4), none⟩,
       ⟨some 25, .call 17 false [] [(.t 24)], none⟩,
       ⟨some 23, .mv (.t 25), none⟩,
       ⟨some 26, .ext (.t 23) 0, none⟩,
       ⟨some 27, .ext (.t 23) 1, none⟩,
       ⟨some 28, .ext (.t 23) 2, none⟩,
       ⟨some 7, .alloc [.nil, .nil, .int .i64 0, .int .i64 0, .int .i64 0], none⟩,
       ⟨none, .store 5 (.t 7) (.t 26), none⟩,
       ⟨some 8, .mv (.t 27), none⟩,
       ⟨some 9, .mv (.t 28), none⟩])
      (.seq (.ops none [⟨some 29, .mv (.t 3), none⟩,
        ⟨some 30, .bin .eql (.t 29) (.c (.int .i64 0)), none⟩,
        ⟨some 31, .mv (.t 30), none⟩,
        ⟨some 32, .mv (.t 6), some (31, true)⟩,
        ⟨some 33, .bin .eql (.t 32) (.c (.int .i64 0)), some (31, true)⟩,
        ⟨some 34, .pick (.t 31) (.t 33) (.c (.bool false)), none⟩,
        ⟨some 35, .mv (.t 34), none⟩,
        ⟨some 36, .mv (.t 5), some (35, true)⟩,
        ⟨some 37, .un .not (.t 36), some (35, true)⟩,
        ⟨some 38, .pick (.t 35) (.t 37) (.c (.bool false)), none⟩,
        ⟨some 39, .mv (.t 38), none⟩,
        ⟨some 40, .faddr 2 (.t 2), some (39, true)⟩,
        ⟨some 41, .load true 2 (.t 40), some (39, true)⟩,
        ⟨some 42, .build [.int .i64 0, .int .i64 0] [(0, 1, (.c (.int .i64 1)))], some (39, true)⟩,
        ⟨some 43, .eqS false [0, 0] (.t 41) (.t 42), some (39, true)⟩,
        ⟨some 44, .pick (.t 39) (.t 43) (.c (.bool false)), none⟩,
        ⟨some 45, .mv (.t 44), none⟩,
        ⟨some 46, .faddr 2 (.t 4), some (45, true)⟩,
        ⟨some 47, .load true 2 (.t 46), some (45, true)⟩,
        ⟨some 48, .faddr 2 (.t 1), some (45, true)⟩,
        ⟨some 49, .load true 2 (.t 48), some (45, true)⟩,
        ⟨some 50, .eqS false [0, 0] (.t 47) (.t 49), some (45, true)⟩,
        ⟨some 51, .pick (.t 45) (.t 50) (.c (.bool false)), none⟩,
        ⟨some 52, .mv (.t 51), none⟩,
        ⟨some 53, .mv (.t 8), some (52, true)⟩,
        ⟨some 54, .pick (.t 52) (.t 53) (.c (.bool false)), none⟩,
        ⟨some 55, .mv (.t 54), none⟩,
        ⟨some 56, .mv (.t 9), some (55, true)⟩,
        ⟨some 57, .bin .eql (.t 56) (.c (.int .i64 0)), some (55, true)⟩,
        ⟨some 58, .pick (.t 55) (.t 57) (.c (.bool false)), none⟩,
        ⟨some 59, .mv (.t 58), none⟩,
        ⟨some 60, .faddr 1 (.t 7), some (59, true)⟩,
        ⟨some 61, .load false 1 (.t 60), some (59, true)⟩,
        ⟨some 62, .len false (.t 61), some (59, true)⟩,
        ⟨some 63, .bin .eql (.t 62) (.c (.int .i64 0)), some (59, true)⟩,
        ⟨some 64, .pick (.t 59) (.t 63) (.c (.bool false)), none⟩,
        ⟨some 65, .mv (.t 64), none⟩,
        ⟨some 66, .load true 5 (.t 1), some (65, true)⟩,
        ⟨some 67, .call 12 true [] [(.t 66)], some (65, true)⟩,
        ⟨some 68, .pick (.t 65) (.t 67) (.c (.bool false)), none⟩,
        ⟨some 0, .mv (.t 68), none⟩])
       .ret))))))⟩
theorem cop10 : copF Try.prog raws [] 10 = some ir10 := by kernel_rfl
/-- tenterhook/tenterhookref13.Few -/
def ir11 : F := ⟨13, [.t 2],
 (.seq (.ops none [⟨some 1, .box (.t 0), none⟩,
   ⟨some 2, .mv (.c (.bool false)), none⟩])
  (.seq (.ops none [⟨some 3, .faddr 0 (.t 1), none⟩,
    ⟨some 4, .load false 1 (.t 3), none⟩,
    ⟨some 5, .len false (.t 4), none⟩,
    ⟨some 6, .bin .leq (.t 5) (.c (.int .i64 100)), none⟩,
    ⟨some 7, .mv (.t 6), none⟩,
    ⟨some 8, .faddr 1 (.t 1), some (7, true)⟩,
    ⟨some 9, .load false 1 (.t 8), some (7, true)⟩,
    ⟨some 10, .len false (.t 9), some (7, true)⟩,
    ⟨some 11, .bin .leq (.t 10) (.c (.int .i64 100)), some (7, true)⟩,
    ⟨some 12, .pick (.t 7) (.t 11) (.c (.bool false)), none⟩,
    ⟨some 2, .mv (.t 12), none⟩])
   .ret))⟩
theorem cop11 : copF Try.prog raws [] 11 = some ir11 := by kernel_rfl
/-- tenterhook/ret.Sane -/
def ir12 : F := ⟨27, [.t 2],
 (.seq (.ops none [⟨some 1, .box (.t 0), none⟩,
   ⟨some 2, .mv (.c (.bool false)), none⟩])
  (.seq (.ops none [⟨some 3, .faddr 0 (.t 1), none⟩,
    ⟨some 4, .load false 1 (.t 3), none⟩,
    ⟨some 5, .len false (.t 4), none⟩,
    ⟨some 6, .bin .leq (.t 5) (.c (.int .i64 64)), none⟩,
    ⟨some 7, .mv (.t 6), none⟩,
    ⟨some 8, .faddr 1 (.t 1), some (7, true)⟩,
    ⟨some 9, .load false 1 (.t 8), some (7, true)⟩,
    ⟨some 10, .len false (.t 9), some (7, true)⟩,
    ⟨some 11, .bin .leq (.t 10) (.c (.int .i64 64)), some (7, true)⟩,
    ⟨some 12, .pick (.t 7) (.t 11) (.c (.bool false)), none⟩,
    ⟨some 13, .mv (.t 12), none⟩,
    ⟨some 14, .faddr 2 (.t 1), some (13, true)⟩,
    ⟨some 15, .load true 2 (.t 14), some (13, true)⟩,
    ⟨some 16, .call 20 true [] [(.t 15)], some (13, true)⟩,
    ⟨some 17, .bin .geq (.t 16) (.c (.int .i64 0)), some (13, true)⟩,
    ⟨some 18, .pick (.t 13) (.t 17) (.c (.bool false)), none⟩,
    ⟨some 19, .mv (.t 18), none⟩,
    ⟨some 20, .faddr 4 (.t 1), some (19, true)⟩,
    ⟨some 21, .load false 1 (.t 20), some (19, true)⟩,
    ⟨some 22, .faddr 1 (.t 1), some (19, true)⟩,
    ⟨some 23, .load false 1 (.t 22), some (19, true)⟩,
    ⟨some 24, .len false (.t 23), some (19, true)⟩,
    ⟨some 25, .call 37 true [] [(.t 21), (.t 24)], some (19, true)⟩,
    ⟨some 26, .pick (.t 19) (.t 25) (.c (.bool false)), none⟩,
    ⟨some 2, .mv (.t 26), none⟩])
   .ret))⟩
theorem cop12 : copF Try.prog raws [] 12 = some ir12 := by kernel_rfl
/-- tenterhook/tenterhooklaw13.task -/
def ir13 : F := ⟨12, [.cell 2 true 5],
 (.seq (.ops none [⟨some 1, .box (.t 0), none⟩,
   ⟨some 2, .alloc [.nil, .nil, .int .i64 0, .int .i64 0, .int .i64 0], none⟩])
  (.seq (.ops none [⟨some 3, .faddr 0 (.t 1), none⟩,
    ⟨some 4, .load false 1 (.t 3), none⟩,
    ⟨some 5, .faddr 1 (.t 1), none⟩,
    ⟨some 6, .load false 1 (.t 5), none⟩,
    ⟨some 7, .faddr 2 (.t 1), none⟩,
    ⟨some 8, .load true 2 (.t 7), none⟩,
    ⟨some 9, .faddr 4 (.t 1), none⟩,
    ⟨some 10, .load false 1 (.t 9), none⟩,
    ⟨some 11, .build [.nil, .nil, .int .i64 0, .int .i64 0, .int .i64 0] [(0, 1, (.t 4)), (1, 1, (.t 6)), (2, 2, (.t 8)), (4, 1, (.t 10))], none⟩,
    ⟨none, .store 5 (.t 2) (.t 11), none⟩])
   .ret))⟩
theorem cop13 : copF Try.prog raws [] 13 = some ir13 := by kernel_rfl
/-- tenterhook/ret.Enter -/
def ir14 : F := ⟨35, [.cell 4 true 5, .t 5],
 (.seq (.ops none [⟨some 2, .box (.t 0), none⟩,
   ⟨some 4, .alloc [.nil, .nil, .int .i64 0, .int .i64 0, .int .i64 0], none⟩,
   ⟨some 5, .mv (.c (.int .i64 0)), none⟩])
  (.seq (.ops none [⟨some 10, .load true 5 (.t 2), none⟩,
    ⟨some 11, .call 38 false [] [(.t 10)], none⟩,
    ⟨none, .store 5 (.t 2) (.t 11), none⟩])
   (.seq (.ops none [⟨some 13, .mv (.t 1), none⟩,
     ⟨some 14, .call 15 true [] [(.t 13)], none⟩,
     ⟨some 12, .mv (.t 14), none⟩,
     ⟨some 15, .ext (.t 12) 0, none⟩,
     ⟨some 16, .ext (.t 12) 1, none⟩,
     ⟨some 6, .alloc [.int .i64 0, .int .i64 0], none⟩,
     ⟨none, .store 2 (.t 6) (.t 15), none⟩,
     ⟨some 7, .mv (.t 16), none⟩])
    (.seq (.seq (.ops none [⟨some 17, .mv (.t 7), none⟩,
       ⟨some 18, .un .not (.t 17), none⟩])
      (.cond (.t 18)
       (.seq (.ops none [⟨some 19, .load true 5 (.t 2), none⟩,
         ⟨none, .store 5 (.t 4) (.t 19), none⟩,
         ⟨some 5, .mv (.c (.int .i64 (-9))), none⟩])
        .ret)
       .skip))
     (.seq (.ops (some [(0, 4), (0, 9), (2, 9), (3, 9), (4, 9), (5, 9)]) [⟨some 21, .load true 5 (.t 2), none⟩,
       ⟨some 22, .faddr 2 (.t 2), none⟩,
       ⟨some 23, .load true 2 (.t 22), none⟩,
       ⟨some 24, .call 20 true [] [(.t 23)], none⟩,
       ⟨some 25, .bslice 1 1 [.int .i64 0] [(0, (.t 24))], none⟩,
       ⟨some 26, .call 39 false [] [(.t 21), (.t 25)], none⟩,
       ⟨some 20, .mv (.t 26), none⟩,
       ⟨some 27, .ext (.t 20) 0, none⟩,
       ⟨some 28, .ext (.t 20) 1, none⟩,
       ⟨some 8, .alloc [.nil, .nil, .int .i64 0, .int .i64 0, .int .i64 0], none⟩,
       ⟨none, .store 5 (.t 8) (.t 27), none⟩,
       ⟨some 9, .mv (.t 28), none⟩])
      (.seq (.seq (.ops none [⟨some 29, .mv (.t 9), none⟩,
         ⟨some 30, .bin .eql (.t 29) (.c (.int .i64 0)), none⟩])
        (.cond (.t 30)
         (.ops none [⟨some 31, .load true 2 (.t 6), none⟩,
          ⟨some 32, .faddr 2 (.t 8), none⟩,
          ⟨none, .store 2 (.t 32) (.t 31), none⟩])
         .skip))
       (.seq (.ops none [⟨some 33, .load true 5 (.t 8), none⟩,
         ⟨some 34, .mv (.t 9), none⟩,
         ⟨none, .store 5 (.t 4) (.t 33), none⟩,
         ⟨some 5, .mv (.t 34), none⟩])
        .ret)))))))⟩
theorem cop14 : copF Try.prog raws [] 14 = some ir14 := by kernel_rfl
/-- tenterhook/dict.At -/
def ir15 : F := ⟨19, [.cell 2 true 2, .t 3],
 (.seq (.ops none [⟨some 2, .alloc [.int .i64 0, .int .i64 0], none⟩,
   ⟨some 3, .mv (.c (.bool false)), none⟩])
  (.seq (.ops none [⟨some 5, .mv (.t 0), none⟩,
    ⟨some 6, .bin .quo (.t 5) (.c (.int .i64 4096)), none⟩,
    ⟨some 7, .mv (.t 0), none⟩,
    ⟨some 8, .bin .rem (.t 7) (.c (.int .i64 4096)), none⟩,
    ⟨some 9, .build [.int .i64 0, .int .i64 0] [(0, 1, (.t 6)), (1, 1, (.t 8))], none⟩,
    ⟨some 4, .alloc [.int .i64 0, .int .i64 0], none⟩,
    ⟨none, .store 2 (.t 4) (.t 9), none⟩])
   (.seq (.seq (.ops none [⟨some 10, .mv (.t 0), none⟩,
      ⟨some 11, .bin .lss (.t 10) (.c (.int .i64 0)), none⟩,
      ⟨some 12, .mv (.t 11), none⟩,
      ⟨some 13, .faddr 0 (.t 4), some (12, false)⟩,
      ⟨some 14, .load false 1 (.t 13), some (12, false)⟩,
      ⟨some 15, .bin .gtr (.t 14) (.c (.int .i64 1000000)), some (12, false)⟩,
      ⟨some 16, .pick (.t 12) (.c (.bool true)) (.t 15), none⟩])
     (.cond (.t 16)
      (.seq (.ops none [⟨some 17, .build [.int .i64 0, .int .i64 0] [], none⟩,
        ⟨none, .store 2 (.t 2) (.t 17), none⟩,
        ⟨some 3, .mv (.c (.bool false)), none⟩])
       .ret)
      .skip))
    (.seq (.ops none [⟨some 18, .load true 2 (.t 4), none⟩,
      ⟨none, .store 2 (.t 2) (.t 18), none⟩,
      ⟨some 3, .mv (.c (.bool true)), none⟩])
     .ret))))⟩
theorem cop15 : copF Try.prog raws [] 15 = some ir15 := by kernel_rfl
/-- tenterhook/tenterhookref04.Same -/
def ir16 : F := ⟨26, [.t 4],
 (.seq (.ops none [⟨some 4, .mv (.c (.bool false)), none⟩])
  (.seq (.seq (.ops none [⟨some 6, .mv (.t 0), none⟩,
     ⟨some 7, .len false (.t 6), none⟩,
     ⟨some 8, .mv (.t 1), none⟩,
     ⟨some 9, .len false (.t 8), none⟩,
     ⟨some 10, .bin .neq (.t 7) (.t 9), none⟩])
    (.cond (.t 10)
     (.seq (.ops none [⟨some 4, .mv (.c (.bool false)), none⟩])
      .ret)
     .skip))
   (.seq (.seq (.ops none [⟨some 5, .mv (.c (.int .i64 0)), none⟩])
     (.block 0 (.loop [0, 1, 5] []
       (.seq (.seq (.ops none [⟨some 11, .mv (.t 5), none⟩,
          ⟨some 12, .mv (.t 0), none⟩,
          ⟨some 13, .len false (.t 12), none⟩,
          ⟨some 14, .bin .lss (.t 11) (.t 13), none⟩])
         (.cond (.t 14)
          .skip
          (.exit 0)))
        (.seq (.block 1 (.seq (.ops (some []) [⟨some 17, .mv (.t 0), none⟩,
            ⟨some 18, .mv (.t 5), none⟩,
            ⟨some 19, .iaddr 1 (.t 17) (.t 18), none⟩,
            ⟨some 20, .load false 1 (.t 19), none⟩,
            ⟨some 21, .mv (.t 1), none⟩,
            ⟨some 22, .mv (.t 5), none⟩,
            ⟨some 23, .iaddr 1 (.t 21) (.t 22), none⟩,
            ⟨some 24, .load false 1 (.t 23), none⟩,
            ⟨some 25, .bin .neq (.t 20) (.t 24), none⟩])
           (.cond (.t 25)
            (.seq (.ops none [⟨some 4, .mv (.c (.bool false)), none⟩])
             .ret)
            .skip)))
         (.ops none [⟨some 15, .mv (.t 5), none⟩,
          ⟨some 16, .bin .add (.t 15) (.c (.int .i64 1)), none⟩,
          ⟨some 5, .mv (.t 16), none⟩]))))))
    (.seq (.ops none [⟨some 4, .mv (.c (.bool true)), none⟩])
     .ret))))⟩
theorem cop16 : copF Try.prog raws [([0, 1, 5], [])] 16 = some ir16 := by kernel_rfl
/-- tenterhook/ret.Leave -/
def ir17 : F := ⟨58, [.cell 2 true 5, .t 3, .t 4],
 (.seq (.ops none [⟨some 1, .box (.t 0), none⟩,
   ⟨some 2, .alloc [.nil, .nil, .int .i64 0, .int .i64 0, .int .i64 0], none⟩,
   ⟨some 3, .mv (.c (.bool false)), none⟩,
   ⟨some 4, .mv (.c (.int .i64 0)), none⟩])
  (.seq (.ops none [⟨some 14, .load true 5 (.t 1), none⟩,
    ⟨some 15, .call 38 false [] [(.t 14)], none⟩,
    ⟨none, .store 5 (.t 1) (.t 15), none⟩])
   (.seq (.ops none [⟨some 17, .load true 5 (.t 1), none⟩,
     ⟨some 18, .call 40 false [] [(.t 17), (.c (.int .i64 1))], none⟩,
     ⟨some 16, .mv (.t 18), none⟩,
     ⟨some 19, .ext (.t 16) 0, none⟩,
     ⟨some 20, .ext (.t 16) 1, none⟩,
     ⟨some 21, .ext (.t 16) 2, none⟩,
     ⟨some 5, .alloc [.nil, .nil, .int .i64 0, .int .i64 0, .int .i64 0], none⟩,
     ⟨none, .store 5 (.t 5) (.t 19), none⟩,
     ⟨some 6, .mv (.t 20), none⟩,
     ⟨some 7, .mv (.t 21), none⟩])
    (.seq (.seq (.ops none [⟨some 22, .mv (.t 7), none⟩,
       ⟨some 23, .bin .neq (.t 22) (.c (.int .i64 0)), none⟩])
      (.cond (.t 23)
       (.seq (.ops none [⟨some 24, .load true 5 (.t 1), none⟩,
         ⟨some 25, .mv (.t 7), none⟩,
         ⟨none, .store 5 (.t 2) (.t 24), none⟩,
         ⟨some 3, .mv (.c (.bool false)), none⟩,
         ⟨some 4, .mv (.t 25), none⟩])
        .ret)
       .skip))
     (.seq (.ops (some []) [⟨some 26, .mv (.t 6), none⟩,
       ⟨some 27, .iaddr 1 (.t 26) (.c (.int .i64 0)), none⟩,
       ⟨some 28, .load false 1 (.t 27), none⟩,
       ⟨some 8, .mv (.c (.bool false)), none⟩,
       ⟨some 9, .mv (.t 28), none⟩])
      (.seq (.seq (.ops none [⟨some 29, .mv (.t 9), none⟩])
        (.block 0 (.seq (.block 3 (.seq (.block 2 (.seq (.block 1 (.seq (.seq (.seq (.ops none [⟨some 31, .bin .eql (.t 29) (.c (.int .i64 (-1))), none⟩,
                   ⟨some 30, .mv (.t 31), none⟩])
                  (.cond (.t 30)
                   (.exit 1)
                   .skip))
                 (.seq (.ops none [⟨some 33, .bin .eql (.t 29) (.c (.int .i64 (-2))), none⟩,
                   ⟨some 32, .mv (.t 33), none⟩])
                  (.cond (.t 32)
                   (.exit 2)
                   .skip)))
                (.exit 3)))
              (.seq (.seq (.ops none [⟨some 35, .load true 5 (.t 1), none⟩,
                 ⟨some 36, .faddr 1 (.t 5), none⟩,
                 ⟨some 37, .load false 1 (.t 36), none⟩,
                 ⟨some 38, .call 41 false [] [(.t 35), (.t 37)], none⟩,
                 ⟨some 34, .mv (.t 38), none⟩,
                 ⟨some 39, .ext (.t 34) 0, none⟩,
                 ⟨some 40, .ext (.t 34) 1, none⟩,
                 ⟨some 10, .alloc [.nil, .nil, .int .i64 0, .int .i64 0, .int .i64 0], none⟩,
                 ⟨none, .store 5 (.t 10) (.t 39), none⟩,
                 ⟨some 11, .mv (.t 40), none⟩])
                (.seq (.ops none [⟨some 41, .load true 5 (.t 10), none⟩,
                  ⟨some 42, .mv (.t 11), none⟩,
                  ⟨none, .store 5 (.t 2) (.t 41), none⟩,
                  ⟨some 3, .mv (.c (.bool false)), none⟩,
                  ⟨some 4, .mv (.t 42), none⟩])
                 .ret))
               (.exit 0))))
            (.ops none [⟨some 43, .faddr 2 (.t 1), none⟩,
             ⟨some 44, .load true 2 (.t 43), none⟩,
             ⟨some 45, .call 20 true [] [(.t 44)], none⟩,
             ⟨some 8, .mv (.c (.bool true)), none⟩,
             ⟨some 9, .mv (.t 45), none⟩])))
          (.seq (.seq (.ops none [⟨some 47, .mv (.t 9), none⟩,
             ⟨some 48, .call 15 true [] [(.t 47)], none⟩,
             ⟨some 46, .mv (.t 48), none⟩,
             ⟨some 49, .ext (.t 46) 0, none⟩,
             ⟨some 50, .ext (.t 46) 1, none⟩,
             ⟨some 12, .alloc [.int .i64 0, .int .i64 0], none⟩,
             ⟨none, .store 2 (.t 12) (.t 49), none⟩,
             ⟨some 13, .mv (.t 50), none⟩])
            (.seq (.seq (.ops none [⟨some 51, .mv (.t 13), none⟩,
               ⟨some 52, .un .not (.t 51), none⟩])
              (.cond (.t 52)
               (.seq (.ops none [⟨some 53, .load true 5 (.t 1), none⟩,
                 ⟨none, .store 5 (.t 2) (.t 53), none⟩,
                 ⟨some 3, .mv (.c (.bool false)), none⟩,
                 ⟨some 4, .mv (.c (.int .i64 (-9))), none⟩])
                .ret)
               .skip))
             (.ops none [⟨some 54, .load true 2 (.t 12), none⟩,
              ⟨some 55, .faddr 2 (.t 5), none⟩,
              ⟨none, .store 2 (.t 55) (.t 54), none⟩])))
           (.exit 0)))))
       (.seq (.ops none [⟨some 56, .load true 5 (.t 5), none⟩,
         ⟨some 57, .mv (.t 8), none⟩,
         ⟨none, .store 5 (.t 2) (.t 56), none⟩,
         ⟨some 3, .mv (.t 57), none⟩,
         ⟨some 4, .mv (.c (.int .i64 0)), none⟩])
        .ret)))))))⟩
theorem cop17 : copF Try.prog raws [] 17 = some ir17 := by kernel_rfl
/-- tenterhook/tenterhookref13.Same -/
def ir18 : F := ⟨31, [.t 4],
 (.seq (.ops none [⟨some 2, .box (.t 0), none⟩,
   ⟨some 3, .box (.t 1), none⟩,
   ⟨some 4, .mv (.c (.bool false)), none⟩])
  (.seq (.ops none [⟨some 5, .faddr 0 (.t 2), none⟩,
    ⟨some 6, .load false 1 (.t 5), none⟩,
    ⟨some 7, .faddr 0 (.t 3), none⟩,
    ⟨some 8, .load false 1 (.t 7), none⟩,
    ⟨some 9, .call 16 true [] [(.t 6), (.t 8)], none⟩,
    ⟨some 10, .mv (.t 9), none⟩,
    ⟨some 11, .faddr 1 (.t 2), some (10, true)⟩,
    ⟨some 12, .load false 1 (.t 11), some (10, true)⟩,
    ⟨some 13, .faddr 1 (.t 3), some (10, true)⟩,
    ⟨some 14, .load false 1 (.t 13), some (10, true)⟩,
    ⟨some 15, .call 16 true [] [(.t 12), (.t 14)], some (10, true)⟩,
    ⟨some 16, .pick (.t 10) (.t 15) (.c (.bool false)), none⟩,
    ⟨some 17, .mv (.t 16), none⟩,
    ⟨some 18, .faddr 2 (.t 2), some (17, true)⟩,
    ⟨some 19, .load true 2 (.t 18), some (17, true)⟩,
    ⟨some 20, .faddr 2 (.t 3), some (17, true)⟩,
    ⟨some 21, .load true 2 (.t 20), some (17, true)⟩,
    ⟨some 22, .eqS false [0, 0] (.t 19) (.t 21), some (17, true)⟩,
    ⟨some 23, .pick (.t 17) (.t 22) (.c (.bool false)), none⟩,
    ⟨some 24, .mv (.t 23), none⟩,
    ⟨some 25, .faddr 4 (.t 2), some (24, true)⟩,
    ⟨some 26, .load false 1 (.t 25), some (24, true)⟩,
    ⟨some 27, .faddr 4 (.t 3), some (24, true)⟩,
    ⟨some 28, .load false 1 (.t 27), some (24, true)⟩,
    ⟨some 29, .bin .eql (.t 26) (.t 28), some (24, true)⟩,
    ⟨some 30, .pick (.t 24) (.t 29) (.c (.bool false)), none⟩,
    ⟨some 4, .mv (.t 30), none⟩])
   .ret))⟩
theorem cop18 : copF Try.prog raws [] 18 = some ir18 := by kernel_rfl
/-- tenterhook/tenterhooklaw13.told -/
def ir19 : F := ⟨12, [.cell 2 true 5],
 (.seq (.ops none [⟨some 1, .box (.t 0), none⟩,
   ⟨some 2, .alloc [.nil, .nil, .int .i64 0, .int .i64 0, .int .i64 0], none⟩])
  (.seq (.ops none [⟨some 3, .faddr 0 (.t 1), none⟩,
    ⟨some 4, .load false 1 (.t 3), none⟩,
    ⟨some 5, .faddr 1 (.t 1), none⟩,
    ⟨some 6, .load false 1 (.t 5), none⟩,
    ⟨some 7, .faddr 2 (.t 1), none⟩,
    ⟨some 8, .load true 2 (.t 7), none⟩,
    ⟨some 9, .faddr 4 (.t 1), none⟩,
    ⟨some 10, .load false 1 (.t 9), none⟩,
    ⟨some 11, .build [.nil, .nil, .int .i64 0, .int .i64 0, .int .i64 0] [(0, 1, (.t 4)), (1, 1, (.t 6)), (2, 2, (.t 8)), (4, 1, (.t 10))], none⟩,
    ⟨none, .store 5 (.t 2) (.t 11), none⟩])
   .ret))⟩
theorem cop19 : copF Try.prog raws [] 19 = some ir19 := by kernel_rfl
/-- tenterhook/dict.Addr -/
def ir20 : F := ⟨19, [.t 2],
 (.seq (.ops none [⟨some 1, .box (.t 0), none⟩,
   ⟨some 2, .mv (.c (.int .i64 0)), none⟩])
  (.seq (.seq (.ops none [⟨some 3, .faddr 0 (.t 1), none⟩,
     ⟨some 4, .load false 1 (.t 3), none⟩,
     ⟨some 5, .call 42 true [] [(.t 4), (.c (.int .i64 1000000))], none⟩,
     ⟨some 6, .un .not (.t 5), none⟩,
     ⟨some 7, .mv (.t 6), none⟩,
     ⟨some 8, .faddr 1 (.t 1), some (7, false)⟩,
     ⟨some 9, .load false 1 (.t 8), some (7, false)⟩,
     ⟨some 10, .call 42 true [] [(.t 9), (.c (.int .i64 4095))], some (7, false)⟩,
     ⟨some 11, .un .not (.t 10), some (7, false)⟩,
     ⟨some 12, .pick (.t 7) (.c (.bool true)) (.t 11), none⟩])
    (.cond (.t 12)
     (.seq (.ops none [⟨some 2, .mv (.c (.int .i64 (-1))), none⟩])
      .ret)
     .skip))
   (.seq (.ops none [⟨some 13, .faddr 0 (.t 1), none⟩,
     ⟨some 14, .load false 1 (.t 13), none⟩,
     ⟨some 15, .bin .mul (.t 14) (.c (.int .i64 4096)), none⟩,
     ⟨some 16, .faddr 1 (.t 1), none⟩,
     ⟨some 17, .load false 1 (.t 16), none⟩,
     ⟨some 18, .bin .add (.t 15) (.t 17), none⟩,
     ⟨some 2, .mv (.t 18), none⟩])
    .ret)))⟩
theorem cop20 : copF Try.prog raws [] 20 = some ir20 := by kernel_rfl
/-- tenterhook/ret.Keep -/
def ir21 : F := ⟨13, [.cell 4 true 5, .t 5],
 (.seq (.ops none [⟨some 2, .box (.t 0), none⟩,
   ⟨some 4, .alloc [.nil, .nil, .int .i64 0, .int .i64 0, .int .i64 0], none⟩,
   ⟨some 5, .mv (.c (.int .i64 0)), none⟩])
  (.seq (.ops none [⟨some 6, .load true 5 (.t 2), none⟩,
    ⟨some 7, .call 38 false [] [(.t 6)], none⟩,
    ⟨some 8, .mv (.t 1), none⟩,
    ⟨some 9, .bslice 1 1 [.int .i64 0] [(0, (.t 8))], none⟩,
    ⟨some 10, .call 39 false [] [(.t 7), (.t 9)], none⟩,
    ⟨some 11, .ext (.t 10) 0, none⟩,
    ⟨some 12, .ext (.t 10) 1, none⟩,
    ⟨none, .store 5 (.t 4) (.t 11), none⟩,
    ⟨some 5, .mv (.t 12), none⟩])
   .ret))⟩
theorem cop21 : copF Try.prog raws [] 21 = some ir21 := by kernel_rfl
/-- tenterhook/ret.Back -/
def ir22 : F := ⟨23, [.cell 2 true 5, .t 3, .t 4],
 (.seq (.ops none [⟨some 1, .box (.t 0), none⟩,
   ⟨some 2, .alloc [.nil, .nil, .int .i64 0, .int .i64 0, .int .i64 0], none⟩,
   ⟨some 3, .mv (.c (.int .i64 0)), none⟩,
   ⟨some 4, .mv (.c (.int .i64 0)), none⟩])
  (.seq (.ops none [⟨some 9, .load true 5 (.t 1), none⟩,
    ⟨some 10, .call 38 false [] [(.t 9)], none⟩,
    ⟨some 11, .call 40 false [] [(.t 10), (.c (.int .i64 1))], none⟩,
    ⟨some 8, .mv (.t 11), none⟩,
    ⟨some 12, .ext (.t 8) 0, none⟩,
    ⟨some 13, .ext (.t 8) 1, none⟩,
    ⟨some 14, .ext (.t 8) 2, none⟩,
    ⟨some 5, .alloc [.nil, .nil, .int .i64 0, .int .i64 0, .int .i64 0], none⟩,
    ⟨none, .store 5 (.t 5) (.t 12), none⟩,
    ⟨some 6, .mv (.t 13), none⟩,
    ⟨some 7, .mv (.t 14), none⟩])
   (.seq (.seq (.ops none [⟨some 15, .mv (.t 7), none⟩,
      ⟨some 16, .bin .neq (.t 15) (.c (.int .i64 0)), none⟩])
     (.cond (.t 16)
      (.seq (.ops none [⟨some 17, .load true 5 (.t 5), none⟩,
        ⟨some 18, .mv (.t 7), none⟩,
        ⟨none, .store 5 (.t 2) (.t 17), none⟩,
        ⟨some 3, .mv (.c (.int .i64 0)), none⟩,
        ⟨some 4, .mv (.t 18), none⟩])
       .ret)
      .skip))
    (.seq (.ops (some [(3, 4)]) [⟨some 19, .load true 5 (.t 5), none⟩,
      ⟨some 20, .mv (.t 6), none⟩,
      ⟨some 21, .iaddr 1 (.t 20) (.c (.int .i64 0)), none⟩,
      ⟨some 22, .load false 1 (.t 21), none⟩,
      ⟨none, .store 5 (.t 2) (.t 19), none⟩,
      ⟨some 3, .mv (.t 22), none⟩,
      ⟨some 4, .mv (.c (.int .i64 0)), none⟩])
     .ret))))⟩
theorem cop22 : copF Try.prog raws [] 22 = some ir22 := by kernel_rfl
/-- tenterhook/ret.Begin -/
def ir23 : F := ⟨16, [.cell 6 true 5, .t 7],
 (.seq (.ops none [⟨some 3, .box (.t 0), none⟩,
   ⟨some 6, .alloc [.nil, .nil, .int .i64 0, .int .i64 0, .int .i64 0], none⟩,
   ⟨some 7, .mv (.c (.int .i64 0)), none⟩])
  (.seq (.ops none [⟨some 8, .load true 5 (.t 3), none⟩,
    ⟨some 9, .call 38 false [] [(.t 8)], none⟩,
    ⟨some 10, .mv (.t 1), none⟩,
    ⟨some 11, .mv (.t 2), none⟩,
    ⟨some 12, .bslice 1 2 [.int .i64 0] [(0, (.t 10)), (1, (.t 11))], none⟩,
    ⟨some 13, .call 39 false [] [(.t 9), (.t 12)], none⟩,
    ⟨some 14, .ext (.t 13) 0, none⟩,
    ⟨some 15, .ext (.t 13) 1, none⟩,
    ⟨none, .store 5 (.t 6) (.t 14), none⟩,
    ⟨some 7, .mv (.t 15), none⟩])
   .ret))⟩
theorem cop23 : copF Try.prog raws [] 23 = some ir23 := by kernel_rfl
/-- tenterhook/ret.Drop -/
def ir24 : F := ⟨16, [.cell 2 true 5, .t 3],
 (.seq (.ops none [⟨some 1, .box (.t 0), none⟩,
   ⟨some 2, .alloc [.nil, .nil, .int .i64 0, .int .i64 0, .int .i64 0], none⟩,
   ⟨some 3, .mv (.c (.int .i64 0)), none⟩])
  (.seq (.ops none [⟨some 8, .load true 5 (.t 1), none⟩,
    ⟨some 9, .call 38 false [] [(.t 8)], none⟩,
    ⟨some 10, .call 40 false [] [(.t 9), (.c (.int .i64 2))], none⟩,
    ⟨some 7, .mv (.t 10), none⟩,
    ⟨some 11, .ext (.t 7) 0, none⟩,
    ⟨some 12, .ext (.t 7) 1, none⟩,
    ⟨some 13, .ext (.t 7) 2, none⟩,
    ⟨some 4, .alloc [.nil, .nil, .int .i64 0, .int .i64 0, .int .i64 0], none⟩,
    ⟨none, .store 5 (.t 4) (.t 11), none⟩,
    ⟨some 5, .mv (.t 12), none⟩,
    ⟨some 6, .mv (.t 13), none⟩])
   (.seq (.ops none [⟨some 14, .load true 5 (.t 4), none⟩,
     ⟨some 15, .mv (.t 6), none⟩,
     ⟨none, .store 5 (.t 2) (.t 14), none⟩,
     ⟨some 3, .mv (.t 15), none⟩])
    .ret)))⟩
theorem cop24 : copF Try.prog raws [] 24 = some ir24 := by kernel_rfl
/-- tenterhook/ret.Index -/
def ir25 : F := ⟨26, [.t 4, .t 5],
 (.seq (.ops none [⟨some 2, .box (.t 0), none⟩,
   ⟨some 4, .mv (.c (.int .i64 0)), none⟩,
   ⟨some 5, .mv (.c (.int .i64 0)), none⟩])
  (.seq (.seq (.ops none [⟨some 8, .mv (.t 1), none⟩,
     ⟨some 9, .bin .lss (.t 8) (.c (.int .i64 0)), none⟩,
     ⟨some 10, .mv (.t 9), none⟩,
     ⟨some 11, .mv (.t 1), some (10, false)⟩,
     ⟨some 12, .bin .gtr (.t 11) (.c (.int .i64 31)), some (10, false)⟩,
     ⟨some 13, .pick (.t 10) (.c (.bool true)) (.t 12), none⟩])
    (.cond (.t 13)
     (.seq (.ops none [⟨some 4, .mv (.c (.int .i64 0)), none⟩,
       ⟨some 5, .mv (.c (.int .i64 (-6))), none⟩])
      .ret)
     .skip))
   (.seq (.ops none [⟨some 15, .load true 5 (.t 2), none⟩,
     ⟨some 16, .call 38 false [] [(.t 15)], none⟩,
     ⟨some 17, .field false 1 1 (.t 16), none⟩,
     ⟨some 18, .mv (.t 1), none⟩,
     ⟨some 19, .bin .mul (.c (.int .i64 2)) (.t 18), none⟩,
     ⟨some 20, .call 43 true [] [(.t 17), (.t 19)], none⟩,
     ⟨some 14, .mv (.t 20), none⟩,
     ⟨some 21, .ext (.t 14) 0, none⟩,
     ⟨some 22, .ext (.t 14) 1, none⟩,
     ⟨some 6, .mv (.t 21), none⟩,
     ⟨some 7, .mv (.t 22), none⟩])
    (.seq (.seq (.ops none [⟨some 23, .mv (.t 7), none⟩,
       ⟨some 24, .bin .neq (.t 23) (.c (.int .i64 0)), none⟩])
      (.cond (.t 24)
       (.seq (.ops none [⟨some 4, .mv (.c (.int .i64 0)), none⟩,
         ⟨some 5, .mv (.c (.int .i64 (-6))), none⟩])
        .ret)
       .skip))
     (.seq (.ops none [⟨some 25, .mv (.t 6), none⟩,
       ⟨some 4, .mv (.t 25), none⟩,
       ⟨some 5, .mv (.c (.int .i64 0)), none⟩])
      .ret)))))⟩
theorem cop25 : copF Try.prog raws [] 25 = some ir25 := by kernel_rfl
/-- tenterhook/ret.Throw -/
def ir26 : F := ⟨63, [.cell 4 true 5, .t 5],
 (.seq (.ops none [⟨some 2, .box (.t 0), none⟩,
   ⟨some 4, .alloc [.nil, .nil, .int .i64 0, .int .i64 0, .int .i64 0], none⟩,
   ⟨some 5, .mv (.c (.bool false)), none⟩])
  (.seq (.ops none [⟨some 12, .load true 5 (.t 2), none⟩,
    ⟨some 13, .call 38 false [] [(.t 12)], none⟩,
    ⟨none, .store 5 (.t 2) (.t 13), none⟩])
   (.seq (.seq (.ops none [⟨some 14, .faddr 4 (.t 2), none⟩,
      ⟨some 15, .load false 1 (.t 14), none⟩,
      ⟨some 16, .bin .eql (.t 15) (.c (.int .i64 0)), none⟩])
     (.cond (.t 16)
      (.seq (.ops none [⟨some 17, .load true 5 (.t 2), none⟩,
        ⟨none, .store 5 (.t 4) (.t 17), none⟩,
        ⟨some 5, .mv (.c (.bool false)), none⟩])
       .ret)
      .skip))
    (.seq (.ops none [⟨some 18, .faddr 4 (.t 2), none⟩,
      ⟨some 19, .load false 1 (.t 18), none⟩,
      ⟨some 20, .bin .sub (.t 19) (.c (.int .i64 3)), none⟩,
      ⟨some 6, .mv (.t 20), none⟩])
     (.seq (.ops none [⟨some 21, .faddr 1 (.t 2), none⟩,
       ⟨some 22, .load false 1 (.t 21), none⟩,
       ⟨some 23, .mv (.t 6), none⟩,
       ⟨some 24, .faddr 4 (.t 2), none⟩,
       ⟨some 25, .load false 1 (.t 24), none⟩,
       ⟨some 26, .slice false 1 (.t 22) (some (.t 23)) (some (.t 25)) none, none⟩,
       ⟨some 7, .mv (.t 26), none⟩])
      (.seq (.ops none [⟨some 28, .mv (.t 7), none⟩,
        ⟨some 29, .iaddr 1 (.t 28) (.c (.int .i64 2)), none⟩,
        ⟨some 30, .load false 1 (.t 29), none⟩,
        ⟨some 31, .call 15 true [] [(.t 30)], none⟩,
        ⟨some 27, .mv (.t 31), none⟩,
        ⟨some 32, .ext (.t 27) 0, none⟩,
        ⟨some 33, .ext (.t 27) 1, none⟩,
        ⟨some 8, .alloc [.int .i64 0, .int .i64 0], none⟩,
        ⟨none, .store 2 (.t 8) (.t 32), none⟩,
        ⟨some 9, .mv (.t 33), none⟩])
       (.seq (.seq (.ops none [⟨some 34, .mv (.t 9), none⟩,
          ⟨some 35, .un .not (.t 34), none⟩])
         (.cond (.t 35)
          (.seq (.ops none [⟨some 36, .faddr 1 (.t 2), none⟩,
            ⟨none, .store 1 (.t 36) (.c (.nil)), none⟩,
            ⟨some 37, .faddr 4 (.t 2), none⟩,
            ⟨none, .store 1 (.t 37) (.c (.int .i64 0)), none⟩])
           (.seq (.ops none [⟨some 38, .load true 5 (.t 2), none⟩,
             ⟨none, .store 5 (.t 4) (.t 38), none⟩,
             ⟨some 5, .mv (.c (.bool false)), none⟩])
            .ret))
          .skip))
        (.seq (.ops (some []) [⟨some 39, .faddr 0 (.t 2), none⟩,
          ⟨some 40, .load false 1 (.t 39), none⟩,
          ⟨some 41, .mv (.t 7), none⟩,
          ⟨some 42, .iaddr 1 (.t 41) (.c (.int .i64 1)), none⟩,
          ⟨some 43, .load false 1 (.t 42), none⟩,
          ⟨some 44, .minmax false [(.t 43), (.c (.int .i64 63))], none⟩,
          ⟨some 45, .minmax true [(.c (.int .i64 0)), (.t 44)], none⟩,
          ⟨some 46, .call 44 false [] [(.t 40), (.t 45)], none⟩,
          ⟨some 10, .mv (.t 46), none⟩])
         (.seq (.ops (some [(2, 4), (3, 4), (2, 7), (3, 7), (2, 9), (3, 9), (4, 9), (7, 9)]) [⟨some 47, .mv (.t 10), none⟩,
           ⟨some 48, .mv (.t 1), none⟩,
           ⟨some 49, .bslice 1 1 [.int .i64 0] [(0, (.t 48))], none⟩,
           ⟨some 50, .append 1 (.t 47) (.t 49), none⟩,
           ⟨some 51, .load true 2 (.t 8), none⟩,
           ⟨some 52, .mv (.t 7), none⟩,
           ⟨some 53, .iaddr 1 (.t 52) (.c (.int .i64 0)), none⟩,
           ⟨some 54, .load false 1 (.t 53), none⟩,
           ⟨some 55, .build [.nil, .nil, .int .i64 0, .int .i64 0, .int .i64 0] [(0, 1, (.t 50)), (2, 2, (.t 51)), (4, 1, (.t 54))], none⟩,
           ⟨some 11, .alloc [.nil, .nil, .int .i64 0, .int .i64 0, .int .i64 0], none⟩,
           ⟨none, .store 5 (.t 11) (.t 55), none⟩])
          (.seq (.ops (some [(0, 5)]) [⟨some 56, .load true 5 (.t 11), none⟩,
            ⟨some 57, .faddr 1 (.t 2), none⟩,
            ⟨some 58, .load false 1 (.t 57), none⟩,
            ⟨some 59, .mv (.t 6), none⟩,
            ⟨some 60, .slice false 1 (.t 58) none (some (.t 59)) none, none⟩,
            ⟨some 61, .call 46 false [] [(.t 60)], none⟩,
            ⟨some 62, .call 45 false [] [(.t 56), (.t 61)], none⟩,
            ⟨none, .store 5 (.t 4) (.t 62), none⟩,
            ⟨some 5, .mv (.c (.bool true)), none⟩])
           .ret))))))))))⟩
theorem cop26 : copF Try.prog raws [] 26 = some ir26 := by kernel_rfl
/-- tenterhook/ret.New -/
def ir27 : F := ⟨6, [.cell 2 true 5],
 (.seq (.ops none [⟨some 1, .box (.t 0), none⟩,
   ⟨some 2, .alloc [.nil, .nil, .int .i64 0, .int .i64 0, .int .i64 0], none⟩])
  (.seq (.ops none [⟨some 3, .bslice 1 1 [.int .i64 0] [(0, (.c (.int .i64 (-2))))], none⟩,
    ⟨some 4, .load true 2 (.t 1), none⟩,
    ⟨some 5, .build [.nil, .nil, .int .i64 0, .int .i64 0, .int .i64 0] [(1, 1, (.t 3)), (2, 2, (.t 4))], none⟩,
    ⟨none, .store 5 (.t 2) (.t 5), none⟩])
   .ret))⟩
theorem cop27 : copF Try.prog raws [] 27 = some ir27 := by kernel_rfl
/-- tenterhook/ret.Next -/
def ir28 : F := ⟨61, [.cell 4 true 5, .t 5, .t 6],
 (.seq (.ops none [⟨some 2, .box (.t 0), none⟩,
   ⟨some 4, .alloc [.nil, .nil, .int .i64 0, .int .i64 0, .int .i64 0], none⟩,
   ⟨some 5, .mv (.c (.bool false)), none⟩,
   ⟨some 6, .mv (.c (.int .i64 0)), none⟩])
  (.seq (.ops none [⟨some 12, .load true 5 (.t 2), none⟩,
    ⟨some 13, .call 38 false [] [(.t 12)], none⟩,
    ⟨none, .store 5 (.t 2) (.t 13), none⟩])
   (.seq (.ops none [⟨some 15, .load true 5 (.t 2), none⟩,
     ⟨some 16, .call 40 false [] [(.t 15), (.c (.int .i64 2))], none⟩,
     ⟨some 14, .mv (.t 16), none⟩,
     ⟨some 17, .ext (.t 14) 0, none⟩,
     ⟨some 18, .ext (.t 14) 1, none⟩,
     ⟨some 19, .ext (.t 14) 2, none⟩,
     ⟨some 7, .alloc [.nil, .nil, .int .i64 0, .int .i64 0, .int .i64 0], none⟩,
     ⟨none, .store 5 (.t 7) (.t 17), none⟩,
     ⟨some 8, .mv (.t 18), none⟩,
     ⟨some 9, .mv (.t 19), none⟩])
    (.seq (.seq (.ops none [⟨some 20, .mv (.t 9), none⟩,
       ⟨some 21, .bin .neq (.t 20) (.c (.int .i64 0)), none⟩])
      (.cond (.t 21)
       (.seq (.ops none [⟨some 22, .load true 5 (.t 2), none⟩,
         ⟨some 23, .mv (.t 9), none⟩,
         ⟨none, .store 5 (.t 4) (.t 22), none⟩,
         ⟨some 5, .mv (.c (.bool false)), none⟩,
         ⟨some 6, .mv (.t 23), none⟩])
        .ret)
       .skip))
     (.seq (.ops (some []) [⟨some 24, .mv (.t 8), none⟩,
       ⟨some 25, .iaddr 1 (.t 24) (.c (.int .i64 1)), none⟩,
       ⟨some 26, .load false 1 (.t 25), none⟩,
       ⟨some 27, .mv (.t 8), none⟩,
       ⟨some 28, .iaddr 1 (.t 27) (.c (.int .i64 0)), none⟩,
       ⟨some 29, .load false 1 (.t 28), none⟩,
       ⟨some 30, .bin .sub (.t 26) (.t 29), none⟩,
       ⟨some 10, .mv (.t 30), none⟩])
      (.seq (.seq (.ops none [⟨some 31, .mv (.t 10), none⟩,
         ⟨some 32, .mv (.t 1), none⟩,
         ⟨some 33, .bin .add (.t 31) (.t 32), none⟩,
         ⟨some 11, .mv (.t 33), none⟩])
        (.seq (.ops none [⟨some 34, .mv (.t 10), none⟩,
          ⟨some 35, .mv (.t 11), none⟩,
          ⟨some 36, .bin .xor (.t 34) (.t 35), none⟩,
          ⟨some 37, .bin .lss (.t 36) (.c (.int .i64 0)), none⟩,
          ⟨some 38, .mv (.t 37), none⟩,
          ⟨some 39, .mv (.t 10), some (38, true)⟩,
          ⟨some 40, .mv (.t 1), some (38, true)⟩,
          ⟨some 41, .bin .xor (.t 39) (.t 40), some (38, true)⟩,
          ⟨some 42, .bin .lss (.t 41) (.c (.int .i64 0)), some (38, true)⟩,
          ⟨some 43, .pick (.t 38) (.t 42) (.c (.bool false)), none⟩])
         (.cond (.t 43)
          (.seq (.ops none [⟨some 44, .load true 5 (.t 7), none⟩,
            ⟨none, .store 5 (.t 4) (.t 44), none⟩,
            ⟨some 5, .mv (.c (.bool true)), none⟩,
            ⟨some 6, .mv (.c (.int .i64 0)), none⟩])
           .ret)
          .skip)))
       (.seq (.ops none [⟨some 45, .faddr 1 (.t 2), none⟩,
         ⟨some 46, .load false 1 (.t 45), none⟩,
         ⟨some 47, .call 46 false [] [(.t 46)], none⟩,
         ⟨some 48, .faddr 1 (.t 2), none⟩,
         ⟨none, .store 1 (.t 48) (.t 47), none⟩])
        (.seq (.ops none [⟨some 49, .faddr 1 (.t 2), none⟩,
          ⟨some 50, .load false 1 (.t 49), none⟩,
          ⟨some 51, .faddr 1 (.t 2), none⟩,
          ⟨some 52, .load false 1 (.t 51), none⟩,
          ⟨some 53, .len false (.t 52), none⟩,
          ⟨some 54, .bin .sub (.t 53) (.c (.int .i64 1)), none⟩,
          ⟨some 55, .iaddr 1 (.t 50) (.t 54), none⟩,
          ⟨some 56, .load false 1 (.t 55), none⟩,
          ⟨some 57, .mv (.t 1), none⟩,
          ⟨some 58, .bin .add (.t 56) (.t 57), none⟩,
          ⟨some 59, .iaddr 1 (.t 50) (.t 54), none⟩,
          ⟨none, .store 1 (.t 59) (.t 58), none⟩])
         (.seq (.ops none [⟨some 60, .load true 5 (.t 2), none⟩,
           ⟨none, .store 5 (.t 4) (.t 60), none⟩,
           ⟨some 5, .mv (.c (.bool false)), none⟩,
           ⟨some 6, .mv (.c (.int .i64 0)), none⟩])
          .ret)))))))))⟩
theorem cop28 : copF Try.prog raws [] 28 = some ir28 := by kernel_rfl
/-- tenterhook/ret.Catch -/
def ir29 : F := ⟨45, [.cell 4 true 5, .t 5],
 (.seq (.ops none [⟨some 2, .box (.t 0), none⟩,
   ⟨some 4, .alloc [.nil, .nil, .int .i64 0, .int .i64 0, .int .i64 0], none⟩,
   ⟨some 5, .mv (.c (.int .i64 0)), none⟩])
  (.seq (.ops none [⟨some 10, .load true 5 (.t 2), none⟩,
    ⟨some 11, .call 38 false [] [(.t 10)], none⟩,
    ⟨none, .store 5 (.t 2) (.t 11), none⟩])
   (.seq (.ops none [⟨some 13, .mv (.t 1), none⟩,
     ⟨some 14, .call 15 true [] [(.t 13)], none⟩,
     ⟨some 12, .mv (.t 14), none⟩,
     ⟨some 15, .ext (.t 12) 0, none⟩,
     ⟨some 16, .ext (.t 12) 1, none⟩,
     ⟨some 6, .alloc [.int .i64 0, .int .i64 0], none⟩,
     ⟨none, .store 2 (.t 6) (.t 15), none⟩,
     ⟨some 7, .mv (.t 16), none⟩])
    (.seq (.seq (.ops none [⟨some 17, .mv (.t 7), none⟩,
       ⟨some 18, .un .not (.t 17), none⟩])
      (.cond (.t 18)
       (.seq (.ops none [⟨some 19, .load true 5 (.t 2), none⟩,
         ⟨none, .store 5 (.t 4) (.t 19), none⟩,
         ⟨some 5, .mv (.c (.int .i64 (-9))), none⟩])
        .ret)
       .skip))
     (.seq (.ops (some [(0, 9), (0, 14), (2, 14), (4, 14), (7, 14), (8, 14), (9, 14), (10, 14)]) [⟨some 21, .load true 5 (.t 2), none⟩,
       ⟨some 22, .faddr 4 (.t 2), none⟩,
       ⟨some 23, .load false 1 (.t 22), none⟩,
       ⟨some 24, .faddr 0 (.t 2), none⟩,
       ⟨some 25, .load false 1 (.t 24), none⟩,
       ⟨some 26, .len false (.t 25), none⟩,
       ⟨some 27, .faddr 2 (.t 2), none⟩,
       ⟨some 28, .load true 2 (.t 27), none⟩,
       ⟨some 29, .call 20 true [] [(.t 28)], none⟩,
       ⟨some 30, .bslice 1 4 [.int .i64 0] [(0, (.t 23)), (1, (.t 26)), (2, (.t 29)), (3, (.c (.int .i64 (-1))))], none⟩,
       ⟨some 31, .call 39 false [] [(.t 21), (.t 30)], none⟩,
       ⟨some 20, .mv (.t 31), none⟩,
       ⟨some 32, .ext (.t 20) 0, none⟩,
       ⟨some 33, .ext (.t 20) 1, none⟩,
       ⟨some 8, .alloc [.nil, .nil, .int .i64 0, .int .i64 0, .int .i64 0], none⟩,
       ⟨none, .store 5 (.t 8) (.t 32), none⟩,
       ⟨some 9, .mv (.t 33), none⟩])
      (.seq (.seq (.ops none [⟨some 34, .mv (.t 9), none⟩,
         ⟨some 35, .bin .eql (.t 34) (.c (.int .i64 0)), none⟩])
        (.cond (.t 35)
         (.ops none [⟨some 36, .load true 2 (.t 6), none⟩,
          ⟨some 37, .faddr 1 (.t 8), none⟩,
          ⟨some 38, .load false 1 (.t 37), none⟩,
          ⟨some 39, .len false (.t 38), none⟩,
          ⟨some 40, .bin .sub (.t 39) (.c (.int .i64 1)), none⟩,
          ⟨some 41, .faddr 2 (.t 8), none⟩,
          ⟨none, .store 2 (.t 41) (.t 36), none⟩,
          ⟨some 42, .faddr 4 (.t 8), none⟩,
          ⟨none, .store 1 (.t 42) (.t 40), none⟩])
         .skip))
       (.seq (.ops none [⟨some 43, .load true 5 (.t 8), none⟩,
         ⟨some 44, .mv (.t 9), none⟩,
         ⟨none, .store 5 (.t 4) (.t 43), none⟩,
         ⟨some 5, .mv (.t 44), none⟩])
        .ret)))))))⟩
theorem cop29 : copF Try.prog raws [] 29 = some ir29 := by kernel_rfl
/-- tenterhook/tenterhookref13.Enter -/
def ir30 : F := ⟨42, [.cell 4 true 5, .t 5],
 (.seq (.ops none [⟨some 2, .box (.t 0), none⟩,
   ⟨some 4, .alloc [.nil, .nil, .int .i64 0, .int .i64 0, .int .i64 0], none⟩,
   ⟨some 5, .mv (.c (.int .i64 0)), none⟩])
  (.seq (.ops none [⟨some 10, .load true 5 (.t 2), none⟩,
    ⟨some 11, .call 47 false [] [(.t 10)], none⟩,
    ⟨none, .store 5 (.t 2) (.t 11), none⟩])
   (.seq (.ops none [⟨some 13, .mv (.t 1), none⟩,
     ⟨some 14, .call 48 true [] [(.t 13)], none⟩,
     ⟨some 12, .mv (.t 14), none⟩,
     ⟨some 15, .ext (.t 12) 0, none⟩,
     ⟨some 16, .ext (.t 12) 1, none⟩,
     ⟨some 6, .alloc [.int .i64 0, .int .i64 0], none⟩,
     ⟨none, .store 2 (.t 6) (.t 15), none⟩,
     ⟨some 7, .mv (.t 16), none⟩])
    (.seq (.seq (.ops none [⟨some 17, .mv (.t 7), none⟩,
       ⟨some 18, .un .not (.t 17), none⟩])
      (.cond (.t 18)
       (.seq (.ops none [⟨some 19, .load true 5 (.t 2), none⟩,
         ⟨none, .store 5 (.t 4) (.t 19), none⟩,
         ⟨some 5, .mv (.c (.int .i64 (-9))), none⟩])
        .ret)
       .skip))
     (.seq (.seq (.ops none [⟨some 20, .faddr 1 (.t 2), none⟩,
        ⟨some 21, .load false 1 (.t 20), none⟩,
        ⟨some 22, .len false (.t 21), none⟩,
        ⟨some 23, .bin .geq (.t 22) (.c (.int .i64 64)), none⟩])
       (.cond (.t 23)
        (.seq (.ops none [⟨some 24, .load true 5 (.t 2), none⟩,
          ⟨none, .store 5 (.t 4) (.t 24), none⟩,
          ⟨some 5, .mv (.c (.int .i64 (-5))), none⟩])
         .ret)
        .skip))
      (.seq (.ops (some [(1, 5)]) [⟨some 26, .faddr 1 (.t 2), none⟩,
        ⟨some 27, .load false 1 (.t 26), none⟩,
        ⟨some 28, .faddr 2 (.t 2), none⟩,
        ⟨some 29, .load true 2 (.t 28), none⟩,
        ⟨some 30, .call 50 true [] [(.t 29)], none⟩,
        ⟨some 31, .bslice 1 1 [.int .i64 0] [(0, (.t 30))], none⟩,
        ⟨some 32, .call 49 false [] [(.t 27), (.c (.int .i64 64)), (.t 31)], none⟩,
        ⟨some 25, .mv (.t 32), none⟩,
        ⟨some 33, .ext (.t 25) 0, none⟩,
        ⟨some 34, .ext (.t 25) 1, none⟩,
        ⟨some 8, .mv (.t 33), none⟩,
        ⟨some 9, .mv (.t 34), none⟩])
       (.seq (.ops none [⟨some 35, .faddr 0 (.t 2), none⟩,
         ⟨some 36, .load false 1 (.t 35), none⟩,
         ⟨some 37, .mv (.t 8), none⟩,
         ⟨some 38, .load true 2 (.t 6), none⟩,
         ⟨some 39, .faddr 4 (.t 2), none⟩,
         ⟨some 40, .load false 1 (.t 39), none⟩,
         ⟨some 41, .build [.nil, .nil, .int .i64 0, .int .i64 0, .int .i64 0] [(0, 1, (.t 36)), (1, 1, (.t 37)), (2, 2, (.t 38)), (4, 1, (.t 40))], none⟩,
         ⟨none, .store 5 (.t 4) (.t 41), none⟩,
         ⟨some 5, .mv (.c (.int .i64 0)), none⟩])
        .ret)))))))⟩
theorem cop30 : copF Try.prog raws [] 30 = some ir30 := by kernel_rfl
/-- tenterhook/tenterhookref13.Sane -/
def ir31 : F := ⟨27, [.t 2],
 (.seq (.ops none [⟨some 1, .box (.t 0), none⟩,
   ⟨some 2, .mv (.c (.bool false)), none⟩])
  (.seq (.ops none [⟨some 3, .faddr 0 (.t 1), none⟩,
    ⟨some 4, .load false 1 (.t 3), none⟩,
    ⟨some 5, .len false (.t 4), none⟩,
    ⟨some 6, .bin .leq (.t 5) (.c (.int .i64 64)), none⟩,
    ⟨some 7, .mv (.t 6), none⟩,
    ⟨some 8, .faddr 1 (.t 1), some (7, true)⟩,
    ⟨some 9, .load false 1 (.t 8), some (7, true)⟩,
    ⟨some 10, .len false (.t 9), some (7, true)⟩,
    ⟨some 11, .bin .leq (.t 10) (.c (.int .i64 64)), some (7, true)⟩,
    ⟨some 12, .pick (.t 7) (.t 11) (.c (.bool false)), none⟩,
    ⟨some 13, .mv (.t 12), none⟩,
    ⟨some 14, .faddr 2 (.t 1), some (13, true)⟩,
    ⟨some 15, .load true 2 (.t 14), some (13, true)⟩,
    ⟨some 16, .call 50 true [] [(.t 15)], some (13, true)⟩,
    ⟨some 17, .bin .geq (.t 16) (.c (.int .i64 0)), some (13, true)⟩,
    ⟨some 18, .pick (.t 13) (.t 17) (.c (.bool false)), none⟩,
    ⟨some 19, .mv (.t 18), none⟩,
    ⟨some 20, .faddr 4 (.t 1), some (19, true)⟩,
    ⟨some 21, .load false 1 (.t 20), some (19, true)⟩,
    ⟨some 22, .faddr 1 (.t 1), some (19, true)⟩,
    ⟨some 23, .load false 1 (.t 22), some (19, true)⟩,
    ⟨some 24, .len false (.t 23), some (19, true)⟩,
    ⟨some 25, .call 51 true [] [(.t 21), (.t 24)], some (19, true)⟩,
    ⟨some 26, .pick (.t 19) (.t 25) (.c (.bool false)), none⟩,
    ⟨some 2, .mv (.t 26), none⟩])
   .ret))⟩
theorem cop31 : copF Try.prog raws [] 31 = some ir31 := by kernel_rfl
/-- tenterhook/tenterhookref13.Leave -/
def ir32 : F := ⟨67, [.cell 2 true 5, .t 3, .t 4],
 (.seq (.ops none [⟨some 1, .box (.t 0), none⟩,
   ⟨some 2, .alloc [.nil, .nil, .int .i64 0, .int .i64 0, .int .i64 0], none⟩,
   ⟨some 3, .mv (.c (.bool false)), none⟩,
   ⟨some 4, .mv (.c (.int .i64 0)), none⟩])
  (.seq (.ops none [⟨some 10, .load true 5 (.t 1), none⟩,
    ⟨some 11, .call 47 false [] [(.t 10)], none⟩,
    ⟨none, .store 5 (.t 1) (.t 11), none⟩])
   (.seq (.ops none [⟨some 13, .faddr 1 (.t 1), none⟩,
     ⟨some 14, .load false 1 (.t 13), none⟩,
     ⟨some 15, .call 52 false [] [(.t 14), (.c (.int .i64 1))], none⟩,
     ⟨some 12, .mv (.t 15), none⟩,
     ⟨some 16, .ext (.t 12) 0, none⟩,
     ⟨some 17, .ext (.t 12) 1, none⟩,
     ⟨some 18, .ext (.t 12) 2, none⟩,
     ⟨some 5, .mv (.t 16), none⟩,
     ⟨some 6, .mv (.t 17), none⟩,
     ⟨some 7, .mv (.t 18), none⟩])
    (.seq (.seq (.ops none [⟨some 19, .mv (.t 7), none⟩,
       ⟨some 20, .bin .neq (.t 19) (.c (.int .i64 0)), none⟩])
      (.cond (.t 20)
       (.seq (.ops none [⟨some 21, .load true 5 (.t 1), none⟩,
         ⟨none, .store 5 (.t 2) (.t 21), none⟩,
         ⟨some 3, .mv (.c (.bool false)), none⟩,
         ⟨some 4, .mv (.c (.int .i64 (-6))), none⟩])
        .ret)
       .skip))
     (.seq (.seq (.ops none [⟨some 22, .mv (.t 6), none⟩,
        ⟨some 23, .iaddr 1 (.t 22) (.c (.int .i64 0)), none⟩,
        ⟨some 24, .load false 1 (.t 23), none⟩,
        ⟨some 25, .bin .eql (.t 24) (.c (.int .i64 (-2))), none⟩])
       (.cond (.t 25)
        (.seq (.ops (some []) [⟨some 26, .faddr 0 (.t 1), none⟩,
          ⟨some 27, .load false 1 (.t 26), none⟩,
          ⟨some 28, .mv (.t 5), none⟩,
          ⟨some 29, .faddr 2 (.t 1), none⟩,
          ⟨some 30, .load true 2 (.t 29), none⟩,
          ⟨some 31, .faddr 4 (.t 1), none⟩,
          ⟨some 32, .load false 1 (.t 31), none⟩,
          ⟨some 33, .mv (.t 5), none⟩,
          ⟨some 34, .len false (.t 33), none⟩,
          ⟨some 35, .call 53 true [] [(.t 32), (.t 34)], none⟩,
          ⟨some 36, .build [.nil, .nil, .int .i64 0, .int .i64 0, .int .i64 0] [(0, 1, (.t 27)), (1, 1, (.t 28)), (2, 2, (.t 30)), (4, 1, (.t 35))], none⟩,
          ⟨none, .store 5 (.t 2) (.t 36), none⟩,
          ⟨some 3, .mv (.c (.bool true)), none⟩,
          ⟨some 4, .mv (.c (.int .i64 0)), none⟩])
         .ret)
        .skip))
      (.seq (.seq (.ops none [⟨some 37, .mv (.t 6), none⟩,
         ⟨some 38, .iaddr 1 (.t 37) (.c (.int .i64 0)), none⟩,
         ⟨some 39, .load false 1 (.t 38), none⟩,
         ⟨some 40, .bin .eql (.t 39) (.c (.int .i64 (-1))), none⟩])
        (.cond (.t 40)
         (.seq (.ops none [⟨some 41, .load true 5 (.t 1), none⟩,
           ⟨some 42, .mv (.t 5), none⟩,
           ⟨some 43, .call 54 false [] [(.t 41), (.t 42)], none⟩,
           ⟨some 44, .ext (.t 43) 0, none⟩,
           ⟨some 45, .ext (.t 43) 1, none⟩,
           ⟨some 46, .ext (.t 43) 2, none⟩,
           ⟨none, .store 5 (.t 2) (.t 44), none⟩,
           ⟨some 3, .mv (.t 45), none⟩,
           ⟨some 4, .mv (.t 46), none⟩])
          .ret)
         .skip))
       (.seq (.ops none [⟨some 48, .mv (.t 6), none⟩,
         ⟨some 49, .iaddr 1 (.t 48) (.c (.int .i64 0)), none⟩,
         ⟨some 50, .load false 1 (.t 49), none⟩,
         ⟨some 51, .call 48 true [] [(.t 50)], none⟩,
         ⟨some 47, .mv (.t 51), none⟩,
         ⟨some 52, .ext (.t 47) 0, none⟩,
         ⟨some 53, .ext (.t 47) 1, none⟩,
         ⟨some 8, .alloc [.int .i64 0, .int .i64 0], none⟩,
         ⟨none, .store 2 (.t 8) (.t 52), none⟩,
         ⟨some 9, .mv (.t 53), none⟩])
        (.seq (.seq (.ops none [⟨some 54, .mv (.t 9), none⟩,
           ⟨some 55, .un .not (.t 54), none⟩])
          (.cond (.t 55)
           (.seq (.ops none [⟨some 56, .load true 5 (.t 1), none⟩,
             ⟨none, .store 5 (.t 2) (.t 56), none⟩,
             ⟨some 3, .mv (.c (.bool false)), none⟩,
             ⟨some 4, .mv (.c (.int .i64 (-9))), none⟩])
            .ret)
           .skip))
         (.seq (.ops (some []) [⟨some 57, .faddr 0 (.t 1), none⟩,
           ⟨some 58, .load false 1 (.t 57), none⟩,
           ⟨some 59, .mv (.t 5), none⟩,
           ⟨some 60, .load true 2 (.t 8), none⟩,
           ⟨some 61, .faddr 4 (.t 1), none⟩,
           ⟨some 62, .load false 1 (.t 61), none⟩,
           ⟨some 63, .mv (.t 5), none⟩,
           ⟨some 64, .len false (.t 63), none⟩,
           ⟨some 65, .call 53 true [] [(.t 62), (.t 64)], none⟩,
           ⟨some 66, .build [.nil, .nil, .int .i64 0, .int .i64 0, .int .i64 0] [(0, 1, (.t 58)), (1, 1, (.t 59)), (2, 2, (.t 60)), (4, 1, (.t 65))], none⟩,
           ⟨none, .store 5 (.t 2) (.t 66), none⟩,
           ⟨some 3, .mv (.c (.bool false)), none⟩,
           ⟨some 4, .mv (.c (.int .i64 0)), none⟩])
          .ret)))))))))⟩
theorem cop32 : copF Try.prog raws [] 32 = some ir32 := by kernel_rfl
/-- tenterhook/tenterhookref13.Begin -/
def ir33 : F := ⟨15, [.cell 6 true 5, .t 7],
 (.seq (.ops none [⟨some 3, .box (.t 0), none⟩,
   ⟨some 6, .alloc [.nil, .nil, .int .i64 0, .int .i64 0, .int .i64 0], none⟩,
   ⟨some 7, .mv (.c (.int .i64 0)), none⟩])
  (.seq (.ops none [⟨some 8, .load true 5 (.t 3), none⟩,
    ⟨some 9, .mv (.t 1), none⟩,
    ⟨some 10, .mv (.t 2), none⟩,
    ⟨some 11, .bslice 1 2 [.int .i64 0] [(0, (.t 9)), (1, (.t 10))], none⟩,
    ⟨some 12, .call 55 false [] [(.t 8), (.t 11)], none⟩,
    ⟨some 13, .ext (.t 12) 0, none⟩,
    ⟨some 14, .ext (.t 12) 1, none⟩,
    ⟨none, .store 5 (.t 6) (.t 13), none⟩,
    ⟨some 7, .mv (.t 14), none⟩])
   .ret))⟩
theorem cop33 : copF Try.prog raws [] 33 = some ir33 := by kernel_rfl
/-- tenterhook/tenterhookref13.Next -/
def ir34 : F := ⟨71, [.cell 4 true 5, .t 5, .t 6],
 (.seq (.ops none [⟨some 2, .box (.t 0), none⟩,
   ⟨some 4, .alloc [.nil, .nil, .int .i64 0, .int .i64 0, .int .i64 0], none⟩,
   ⟨some 5, .mv (.c (.bool false)), none⟩,
   ⟨some 6, .mv (.c (.int .i64 0)), none⟩])
  (.seq (.ops none [⟨some 15, .load true 5 (.t 2), none⟩,
    ⟨some 16, .call 56 false [] [(.t 15), (.c (.int .i64 2))], none⟩,
    ⟨some 14, .mv (.t 16), none⟩,
    ⟨some 17, .ext (.t 14) 0, none⟩,
    ⟨some 18, .ext (.t 14) 1, none⟩,
    ⟨some 19, .ext (.t 14) 2, none⟩,
    ⟨some 7, .alloc [.nil, .nil, .int .i64 0, .int .i64 0, .int .i64 0], none⟩,
    ⟨none, .store 5 (.t 7) (.t 17), none⟩,
    ⟨some 8, .mv (.t 18), none⟩,
    ⟨some 9, .mv (.t 19), none⟩])
   (.seq (.seq (.ops none [⟨some 20, .mv (.t 9), none⟩,
      ⟨some 21, .bin .neq (.t 20) (.c (.int .i64 0)), none⟩])
     (.cond (.t 21)
      (.seq (.ops none [⟨some 22, .load true 5 (.t 7), none⟩,
        ⟨some 23, .mv (.t 9), none⟩,
        ⟨none, .store 5 (.t 4) (.t 22), none⟩,
        ⟨some 5, .mv (.c (.bool false)), none⟩,
        ⟨some 6, .mv (.t 23), none⟩])
       .ret)
      .skip))
    (.seq (.ops (some []) [⟨some 24, .mv (.t 8), none⟩,
      ⟨some 25, .iaddr 1 (.t 24) (.c (.int .i64 1)), none⟩,
      ⟨some 26, .load false 1 (.t 25), none⟩,
      ⟨some 27, .mv (.t 8), none⟩,
      ⟨some 28, .iaddr 1 (.t 27) (.c (.int .i64 0)), none⟩,
      ⟨some 29, .load false 1 (.t 28), none⟩,
      ⟨some 30, .bin .sub (.t 26) (.t 29), none⟩,
      ⟨some 10, .mv (.t 30), none⟩])
     (.seq (.ops none [⟨some 31, .mv (.t 10), none⟩,
       ⟨some 32, .mv (.t 1), none⟩,
       ⟨some 33, .bin .add (.t 31) (.t 32), none⟩,
       ⟨some 11, .mv (.t 33), none⟩])
      (.seq (.seq (.ops none [⟨some 34, .mv (.t 10), none⟩,
         ⟨some 35, .bin .lss (.t 34) (.c (.int .i64 0)), none⟩,
         ⟨some 36, .mv (.t 11), none⟩,
         ⟨some 37, .bin .lss (.t 36) (.c (.int .i64 0)), none⟩,
         ⟨some 38, .eqB true (.t 35) (.t 37), none⟩,
         ⟨some 39, .mv (.t 38), none⟩,
         ⟨some 40, .mv (.t 10), some (39, true)⟩,
         ⟨some 41, .bin .lss (.t 40) (.c (.int .i64 0)), some (39, true)⟩,
         ⟨some 42, .mv (.t 1), some (39, true)⟩,
         ⟨some 43, .bin .lss (.t 42) (.c (.int .i64 0)), some (39, true)⟩,
         ⟨some 44, .eqB true (.t 41) (.t 43), some (39, true)⟩,
         ⟨some 45, .pick (.t 39) (.t 44) (.c (.bool false)), none⟩])
        (.cond (.t 45)
         (.seq (.ops none [⟨some 46, .load true 5 (.t 7), none⟩,
           ⟨none, .store 5 (.t 4) (.t 46), none⟩,
           ⟨some 5, .mv (.c (.bool true)), none⟩,
           ⟨some 6, .mv (.c (.int .i64 0)), none⟩])
          .ret)
         .skip))
       (.seq (.ops none [⟨some 47, .load true 5 (.t 2), none⟩,
         ⟨some 48, .call 47 false [] [(.t 47)], none⟩,
         ⟨some 12, .alloc [.nil, .nil, .int .i64 0, .int .i64 0, .int .i64 0], none⟩,
         ⟨none, .store 5 (.t 12) (.t 48), none⟩])
        (.seq (.ops none [⟨some 49, .bslice 1 0 [.int .i64 0] [], none⟩,
          ⟨some 50, .faddr 1 (.t 12), none⟩,
          ⟨some 51, .load false 1 (.t 50), none⟩,
          ⟨some 52, .append 1 (.t 49) (.t 51), none⟩,
          ⟨some 13, .mv (.t 52), none⟩])
         (.seq (.ops none [⟨some 53, .mv (.t 13), none⟩,
           ⟨some 54, .mv (.t 13), none⟩,
           ⟨some 55, .len false (.t 54), none⟩,
           ⟨some 56, .bin .sub (.t 55) (.c (.int .i64 1)), none⟩,
           ⟨some 57, .mv (.t 8), none⟩,
           ⟨some 58, .iaddr 1 (.t 57) (.c (.int .i64 1)), none⟩,
           ⟨some 59, .load false 1 (.t 58), none⟩,
           ⟨some 60, .mv (.t 1), none⟩,
           ⟨some 61, .bin .add (.t 59) (.t 60), none⟩,
           ⟨some 62, .iaddr 1 (.t 53) (.t 56), none⟩,
           ⟨none, .store 1 (.t 62) (.t 61), none⟩])
          (.seq (.ops none [⟨some 63, .faddr 0 (.t 12), none⟩,
            ⟨some 64, .load false 1 (.t 63), none⟩,
            ⟨some 65, .mv (.t 13), none⟩,
            ⟨some 66, .faddr 2 (.t 12), none⟩,
            ⟨some 67, .load true 2 (.t 66), none⟩,
            ⟨some 68, .faddr 4 (.t 12), none⟩,
            ⟨some 69, .load false 1 (.t 68), none⟩,
            ⟨some 70, .build [.nil, .nil, .int .i64 0, .int .i64 0, .int .i64 0] [(0, 1, (.t 64)), (1, 1, (.t 65)), (2, 2, (.t 67)), (4, 1, (.t 69))], none⟩,
            ⟨none, .store 5 (.t 4) (.t 70), none⟩,
            ⟨some 5, .mv (.c (.bool false)), none⟩,
            ⟨some 6, .mv (.c (.int .i64 0)), none⟩])
           .ret))))))))))⟩
theorem cop34 : copF Try.prog raws [] 34 = some ir34 := by kernel_rfl
/-- tenterhook/tenterhookref13.Drop -/
def ir35 : F := ⟨15, [.cell 2 true 5, .t 3],
 (.seq (.ops none [⟨some 1, .box (.t 0), none⟩,
   ⟨some 2, .alloc [.nil, .nil, .int .i64 0, .int .i64 0, .int .i64 0], none⟩,
   ⟨some 3, .mv (.c (.int .i64 0)), none⟩])
  (.seq (.ops none [⟨some 8, .load true 5 (.t 1), none⟩,
    ⟨some 9, .call 56 false [] [(.t 8), (.c (.int .i64 2))], none⟩,
    ⟨some 7, .mv (.t 9), none⟩,
    ⟨some 10, .ext (.t 7) 0, none⟩,
    ⟨some 11, .ext (.t 7) 1, none⟩,
    ⟨some 12, .ext (.t 7) 2, none⟩,
    ⟨some 4, .alloc [.nil, .nil, .int .i64 0, .int .i64 0, .int .i64 0], none⟩,
    ⟨none, .store 5 (.t 4) (.t 10), none⟩,
    ⟨some 5, .mv (.t 11), none⟩,
    ⟨some 6, .mv (.t 12), none⟩])
   (.seq (.ops none [⟨some 13, .load true 5 (.t 4), none⟩,
     ⟨some 14, .mv (.t 6), none⟩,
     ⟨none, .store 5 (.t 2) (.t 13), none⟩,
     ⟨some 3, .mv (.t 14), none⟩])
    .ret)))⟩
theorem cop35 : copF Try.prog raws [] 35 = some ir35 := by kernel_rfl
/-- tenterhook/tenterhooklaw13.rest -/
def ir36 : F := ⟨135, [.t 4],
 (.seq (.ops none [⟨some 2, .box (.t 0), none⟩,
   ⟨some 4, .mv (.c (.bool false)), none⟩])
  (.seq (.ops none [⟨some 18, .load true 5 (.t 2), none⟩,
    ⟨some 19, .call 13 false [] [(.t 18)], none⟩,
    ⟨some 5, .alloc [.nil, .nil, .int .i64 0, .int .i64 0, .int .i64 0], none⟩,
    ⟨none, .store 5 (.t 5) (.t 19), none⟩])
   (.seq (.ops none [⟨some 21, .load true 5 (.t 5), none⟩,
     ⟨some 22, .mv (.t 1), none⟩,
     ⟨some 23, .call 25 true [] [(.t 21), (.t 22)], none⟩,
     ⟨some 20, .mv (.t 23), none⟩,
     ⟨some 24, .ext (.t 20) 0, none⟩,
     ⟨some 25, .ext (.t 20) 1, none⟩,
     ⟨some 6, .mv (.t 24), none⟩,
     ⟨some 7, .mv (.t 25), none⟩])
    (.seq (.ops none [⟨some 27, .load true 5 (.t 2), none⟩,
      ⟨some 28, .mv (.t 1), none⟩,
      ⟨some 29, .call 57 true [] [(.t 27), (.t 28)], none⟩,
      ⟨some 26, .mv (.t 29), none⟩,
      ⟨some 30, .ext (.t 26) 0, none⟩,
      ⟨some 31, .ext (.t 26) 1, none⟩,
      ⟨some 8, .mv (.t 30), none⟩,
      ⟨some 9, .mv (.t 31), none⟩])
     (.seq (.ops none [⟨some 33, .load true 5 (.t 5), none⟩,
       ⟨some 34, .mv (.t 1), none⟩,
       ⟨some 35, .call 21 false [] [(.t 33), (.t 34)], none⟩,
       ⟨some 32, .mv (.t 35), none⟩,
       ⟨some 36, .ext (.t 32) 0, none⟩,
       ⟨some 37, .ext (.t 32) 1, none⟩,
       ⟨some 10, .alloc [.nil, .nil, .int .i64 0, .int .i64 0, .int .i64 0], none⟩,
       ⟨none, .store 5 (.t 10) (.t 36), none⟩,
       ⟨some 11, .mv (.t 37), none⟩])
      (.seq (.ops none [⟨some 39, .load true 5 (.t 2), none⟩,
        ⟨some 40, .mv (.t 1), none⟩,
        ⟨some 41, .call 58 false [] [(.t 39), (.t 40)], none⟩,
        ⟨some 38, .mv (.t 41), none⟩,
        ⟨some 42, .ext (.t 38) 0, none⟩,
        ⟨some 43, .ext (.t 38) 1, none⟩,
        ⟨some 12, .alloc [.nil, .nil, .int .i64 0, .int .i64 0, .int .i64 0], none⟩,
        ⟨none, .store 5 (.t 12) (.t 42), none⟩,
        ⟨some 13, .mv (.t 43), none⟩])
       (.seq (.seq (.ops (some [(10, 11)]) [⟨some 44, .mv (.t 6), none⟩,
          ⟨some 45, .mv (.t 8), none⟩,
          ⟨some 46, .bin .neq (.t 44) (.t 45), none⟩,
          ⟨some 47, .mv (.t 46), none⟩,
          ⟨some 48, .mv (.t 7), some (47, false)⟩,
          ⟨some 49, .mv (.t 9), some (47, false)⟩,
          ⟨some 50, .bin .neq (.t 48) (.t 49), some (47, false)⟩,
          ⟨some 51, .pick (.t 47) (.c (.bool true)) (.t 50), none⟩,
          ⟨some 52, .mv (.t 51), none⟩,
          ⟨some 53, .load true 5 (.t 10), some (52, false)⟩,
          ⟨some 54, .call 19 false [] [(.t 53)], some (52, false)⟩,
          ⟨some 55, .load true 5 (.t 12), some (52, false)⟩,
          ⟨some 56, .call 18 true [] [(.t 54), (.t 55)], some (52, false)⟩,
          ⟨some 57, .un .not (.t 56), some (52, false)⟩,
          ⟨some 58, .pick (.t 52) (.c (.bool true)) (.t 57), none⟩,
          ⟨some 59, .mv (.t 58), none⟩,
          ⟨some 60, .mv (.t 11), some (59, false)⟩,
          ⟨some 61, .mv (.t 13), some (59, false)⟩,
          ⟨some 62, .bin .neq (.t 60) (.t 61), some (59, false)⟩,
          ⟨some 63, .pick (.t 59) (.c (.bool true)) (.t 62), none⟩])
         (.cond (.t 63)
          (.seq (.ops none [⟨some 4, .mv (.c (.bool false)), none⟩])
           .ret)
          .skip))
        (.seq (.ops none [⟨some 65, .load true 5 (.t 5), none⟩,
          ⟨some 66, .call 22 false [] [(.t 65)], none⟩,
          ⟨some 64, .mv (.t 66), none⟩,
          ⟨some 67, .ext (.t 64) 0, none⟩,
          ⟨some 68, .ext (.t 64) 1, none⟩,
          ⟨some 69, .ext (.t 64) 2, none⟩,
          ⟨none, .store 5 (.t 10) (.t 67), none⟩,
          ⟨some 6, .mv (.t 68), none⟩,
          ⟨some 7, .mv (.t 69), none⟩])
         (.seq (.ops none [⟨some 71, .load true 5 (.t 2), none⟩,
           ⟨some 72, .call 59 false [] [(.t 71)], none⟩,
           ⟨some 70, .mv (.t 72), none⟩,
           ⟨some 73, .ext (.t 70) 0, none⟩,
           ⟨some 74, .ext (.t 70) 1, none⟩,
           ⟨some 75, .ext (.t 70) 2, none⟩,
           ⟨none, .store 5 (.t 12) (.t 73), none⟩,
           ⟨some 8, .mv (.t 74), none⟩,
           ⟨some 9, .mv (.t 75), none⟩])
          (.seq (.seq (.ops (some [(1, 2)]) [⟨some 76, .load true 5 (.t 10), none⟩,
             ⟨some 77, .call 19 false [] [(.t 76)], none⟩,
             ⟨some 78, .load true 5 (.t 12), none⟩,
             ⟨some 79, .call 18 true [] [(.t 77), (.t 78)], none⟩,
             ⟨some 80, .un .not (.t 79), none⟩,
             ⟨some 81, .mv (.t 80), none⟩,
             ⟨some 82, .mv (.t 6), some (81, false)⟩,
             ⟨some 83, .mv (.t 8), some (81, false)⟩,
             ⟨some 84, .bin .neq (.t 82) (.t 83), some (81, false)⟩,
             ⟨some 85, .pick (.t 81) (.c (.bool true)) (.t 84), none⟩,
             ⟨some 86, .mv (.t 85), none⟩,
             ⟨some 87, .mv (.t 7), some (86, false)⟩,
             ⟨some 88, .mv (.t 9), some (86, false)⟩,
             ⟨some 89, .bin .neq (.t 87) (.t 88), some (86, false)⟩,
             ⟨some 90, .pick (.t 86) (.c (.bool true)) (.t 89), none⟩])
            (.cond (.t 90)
             (.seq (.ops none [⟨some 4, .mv (.c (.bool false)), none⟩])
              .ret)
             .skip))
           (.seq (.ops none [⟨some 92, .load true 5 (.t 5), none⟩,
             ⟨some 93, .mv (.t 1), none⟩,
             ⟨some 94, .call 29 false [] [(.t 92), (.t 93)], none⟩,
             ⟨some 91, .mv (.t 94), none⟩,
             ⟨some 95, .ext (.t 91) 0, none⟩,
             ⟨some 96, .ext (.t 91) 1, none⟩,
             ⟨none, .store 5 (.t 10) (.t 95), none⟩,
             ⟨some 7, .mv (.t 96), none⟩])
            (.seq (.ops none [⟨some 98, .load true 5 (.t 2), none⟩,
              ⟨some 99, .mv (.t 1), none⟩,
              ⟨some 100, .call 60 false [] [(.t 98), (.t 99)], none⟩,
              ⟨some 97, .mv (.t 100), none⟩,
              ⟨some 101, .ext (.t 97) 0, none⟩,
              ⟨some 102, .ext (.t 97) 1, none⟩,
              ⟨none, .store 5 (.t 12) (.t 101), none⟩,
              ⟨some 9, .mv (.t 102), none⟩])
             (.seq (.ops none [⟨some 104, .load true 5 (.t 5), none⟩,
               ⟨some 105, .mv (.t 1), none⟩,
               ⟨some 106, .call 26 false [] [(.t 104), (.t 105)], none⟩,
               ⟨some 103, .mv (.t 106), none⟩,
               ⟨some 107, .ext (.t 103) 0, none⟩,
               ⟨some 108, .ext (.t 103) 1, none⟩,
               ⟨some 14, .alloc [.nil, .nil, .int .i64 0, .int .i64 0, .int .i64 0], none⟩,
               ⟨none, .store 5 (.t 14) (.t 107), none⟩,
               ⟨some 15, .mv (.t 108), none⟩])
              (.seq (.ops none [⟨some 110, .load true 5 (.t 2), none⟩,
                ⟨some 111, .mv (.t 1), none⟩,
                ⟨some 112, .call 61 false [] [(.t 110), (.t 111)], none⟩,
                ⟨some 109, .mv (.t 112), none⟩,
                ⟨some 113, .ext (.t 109) 0, none⟩,
                ⟨some 114, .ext (.t 109) 1, none⟩,
                ⟨some 16, .alloc [.nil, .nil, .int .i64 0, .int .i64 0, .int .i64 0], none⟩,
                ⟨none, .store 5 (.t 16) (.t 113), none⟩,
                ⟨some 17, .mv (.t 114), none⟩])
               (.seq (.ops (some [(1, 2), (11, 12)]) [⟨some 115, .load true 5 (.t 10), none⟩,
                 ⟨some 116, .call 19 false [] [(.t 115)], none⟩,
                 ⟨some 117, .load true 5 (.t 12), none⟩,
                 ⟨some 118, .call 18 true [] [(.t 116), (.t 117)], none⟩,
                 ⟨some 119, .mv (.t 118), none⟩,
                 ⟨some 120, .mv (.t 7), some (119, true)⟩,
                 ⟨some 121, .mv (.t 9), some (119, true)⟩,
                 ⟨some 122, .bin .eql (.t 120) (.t 121), some (119, true)⟩,
                 ⟨some 123, .pick (.t 119) (.t 122) (.c (.bool false)), none⟩,
                 ⟨some 124, .mv (.t 123), none⟩,
                 ⟨some 125, .load true 5 (.t 14), some (124, true)⟩,
                 ⟨some 126, .call 19 false [] [(.t 125)], some (124, true)⟩,
                 ⟨some 127, .load true 5 (.t 16), some (124, true)⟩,
                 ⟨some 128, .call 18 true [] [(.t 126), (.t 127)], some (124, true)⟩,
                 ⟨some 129, .pick (.t 124) (.t 128) (.c (.bool false)), none⟩,
                 ⟨some 130, .mv (.t 129), none⟩,
                 ⟨some 131, .mv (.t 15), some (130, true)⟩,
                 ⟨some 132, .mv (.t 17), some (130, true)⟩,
                 ⟨some 133, .eqB false (.t 131) (.t 132), some (130, true)⟩,
                 ⟨some 134, .pick (.t 130) (.t 133) (.c (.bool false)), none⟩,
                 ⟨some 4, .mv (.t 134), none⟩])
                .ret)))))))))))))))⟩
theorem cop36 : copF Try.prog raws [] 36 = some ir36 := by kernel_rfl
/-- tenterhook/ret.stands -/
def ir37 : F := ⟨16, [.t 4],
 (.seq (.ops none [⟨some 4, .mv (.c (.bool false)), none⟩])
  (.seq (.ops none [⟨some 5, .mv (.t 0), none⟩,
    ⟨some 6, .bin .eql (.t 5) (.c (.int .i64 0)), none⟩,
    ⟨some 7, .mv (.t 6), none⟩,
    ⟨some 8, .mv (.t 0), some (7, false)⟩,
    ⟨some 9, .bin .geq (.t 8) (.c (.int .i64 3)), some (7, false)⟩,
    ⟨some 10, .mv (.t 9), some (7, false)⟩,
    ⟨some 11, .mv (.t 0), some (10, true)⟩,
    ⟨some 12, .mv (.t 1), some (10, true)⟩,
    ⟨some 13, .bin .leq (.t 11) (.t 12), some (10, true)⟩,
    ⟨some 14, .pick (.t 10) (.t 13) (.c (.bool false)), some (7, false)⟩,
    ⟨some 15, .pick (.t 7) (.c (.bool true)) (.t 14), none⟩,
    ⟨some 4, .mv (.t 15), none⟩])
   .ret))⟩
theorem cop37 : copF Try.prog raws [] 37 = some ir37 := by kernel_rfl
/-- tenterhook/ret.sane -/
def ir38 : F := ⟨9, [.cell 2 true 5],
 (.seq (.ops none [⟨some 1, .box (.t 0), none⟩,
   ⟨some 2, .alloc [.nil, .nil, .int .i64 0, .int .i64 0, .int .i64 0], none⟩])
  (.seq (.seq (.ops none [⟨some 3, .load true 5 (.t 1), none⟩,
     ⟨some 4, .call 12 true [] [(.t 3)], none⟩,
     ⟨some 5, .un .not (.t 4), none⟩])
    (.cond (.t 5)
     (.seq (.ops none [⟨some 6, .build [.int .i64 0, .int .i64 0] [], none⟩,
       ⟨some 7, .call 27 false [] [(.t 6)], none⟩,
       ⟨none, .store 5 (.t 2) (.t 7), none⟩])
      .ret)
     .skip))
   (.seq (.ops none [⟨some 8, .load true 5 (.t 1), none⟩,
     ⟨none, .store 5 (.t 2) (.t 8), none⟩])
    .ret)))⟩
theorem cop38 : copF Try.prog raws [] 38 = some ir38 := by kernel_rfl
/-- (tenterhook/ret.Task).lay -/
def ir39 : F := ⟨21, [.cell 4 true 5, .t 5],
 (.seq (.ops none [⟨some 2, .box (.t 0), none⟩,
   ⟨some 4, .alloc [.nil, .nil, .int .i64 0, .int .i64 0, .int .i64 0], none⟩,
   ⟨some 5, .mv (.c (.int .i64 0)), none⟩])
  (.seq (.ops none [⟨some 9, .faddr 1 (.t 2), none⟩,
    ⟨some 10, .load false 1 (.t 9), none⟩,
    ⟨some 11, .mv (.t 1), none⟩,
    ⟨some 12, .call 62 false [] [(.t 10), (.c (.int .i64 64)), (.t 11)], none⟩,
    ⟨some 8, .mv (.t 12), none⟩,
    ⟨some 13, .ext (.t 8) 0, none⟩,
    ⟨some 14, .ext (.t 8) 1, none⟩,
    ⟨some 6, .mv (.t 13), none⟩,
    ⟨some 7, .mv (.t 14), none⟩])
   (.seq (.seq (.ops none [⟨some 15, .mv (.t 7), none⟩,
      ⟨some 16, .bin .neq (.t 15) (.c (.int .i64 0)), none⟩])
     (.cond (.t 16)
      (.seq (.ops none [⟨some 17, .load true 5 (.t 2), none⟩,
        ⟨none, .store 5 (.t 4) (.t 17), none⟩,
        ⟨some 5, .mv (.c (.int .i64 (-5))), none⟩])
       .ret)
      .skip))
    (.seq (.ops none [⟨some 18, .load true 5 (.t 2), none⟩,
      ⟨some 19, .mv (.t 6), none⟩,
      ⟨some 20, .call 45 false [] [(.t 18), (.t 19)], none⟩,
      ⟨none, .store 5 (.t 4) (.t 20), none⟩,
      ⟨some 5, .mv (.c (.int .i64 0)), none⟩])
     .ret))))⟩
theorem cop39 : copF Try.prog raws [] 39 = some ir39 := by kernel_rfl
/-- (tenterhook/ret.Task).take -/
def ir40 : F := ⟨25, [.cell 4 true 5, .t 5, .t 6],
 (.seq (.ops none [⟨some 2, .box (.t 0), none⟩,
   ⟨some 4, .alloc [.nil, .nil, .int .i64 0, .int .i64 0, .int .i64 0], none⟩,
   ⟨some 5, .mv (.c (.nil)), none⟩,
   ⟨some 6, .mv (.c (.int .i64 0)), none⟩])
  (.seq (.ops none [⟨some 11, .faddr 1 (.t 2), none⟩,
    ⟨some 12, .load false 1 (.t 11), none⟩,
    ⟨some 13, .mv (.t 1), none⟩,
    ⟨some 14, .call 63 false [] [(.t 12), (.t 13)], none⟩,
    ⟨some 10, .mv (.t 14), none⟩,
    ⟨some 15, .ext (.t 10) 0, none⟩,
    ⟨some 16, .ext (.t 10) 1, none⟩,
    ⟨some 17, .ext (.t 10) 2, none⟩,
    ⟨some 7, .mv (.t 15), none⟩,
    ⟨some 8, .mv (.t 16), none⟩,
    ⟨some 9, .mv (.t 17), none⟩])
   (.seq (.seq (.ops none [⟨some 18, .mv (.t 9), none⟩,
      ⟨some 19, .bin .neq (.t 18) (.c (.int .i64 0)), none⟩])
     (.cond (.t 19)
      (.seq (.ops none [⟨some 20, .load true 5 (.t 2), none⟩,
        ⟨none, .store 5 (.t 4) (.t 20), none⟩,
        ⟨some 5, .mv (.c (.nil)), none⟩,
        ⟨some 6, .mv (.c (.int .i64 (-6))), none⟩])
       .ret)
      .skip))
    (.seq (.ops none [⟨some 21, .load true 5 (.t 2), none⟩,
      ⟨some 22, .mv (.t 7), none⟩,
      ⟨some 23, .call 45 false [] [(.t 21), (.t 22)], none⟩,
      ⟨some 24, .mv (.t 8), none⟩,
      ⟨none, .store 5 (.t 4) (.t 23), none⟩,
      ⟨some 5, .mv (.t 24), none⟩,
      ⟨some 6, .mv (.c (.int .i64 0)), none⟩])
     .ret))))⟩
theorem cop40 : copF Try.prog raws [] 40 = some ir40 := by kernel_rfl
/-- (tenterhook/ret.Task).uncatch -/
def ir41 : F := ⟨65, [.cell 4 true 5, .t 5],
 (.seq (.ops none [⟨some 2, .box (.t 0), none⟩,
   ⟨some 4, .alloc [.nil, .nil, .int .i64 0, .int .i64 0, .int .i64 0], none⟩,
   ⟨some 5, .mv (.c (.int .i64 0)), none⟩])
  (.seq (.ops none [⟨some 13, .mv (.t 1), none⟩,
    ⟨some 14, .call 63 false [] [(.t 13), (.c (.int .i64 3))], none⟩,
    ⟨some 12, .mv (.t 14), none⟩,
    ⟨some 15, .ext (.t 12) 0, none⟩,
    ⟨some 16, .ext (.t 12) 1, none⟩,
    ⟨some 17, .ext (.t 12) 2, none⟩,
    ⟨some 6, .mv (.t 15), none⟩,
    ⟨some 7, .mv (.t 16), none⟩,
    ⟨some 8, .mv (.t 17), none⟩])
   (.seq (.seq (.ops none [⟨some 18, .mv (.t 8), none⟩,
      ⟨some 19, .bin .neq (.t 18) (.c (.int .i64 0)), none⟩,
      ⟨some 20, .mv (.t 19), none⟩,
      ⟨some 21, .faddr 4 (.t 2), some (20, false)⟩,
      ⟨some 22, .load false 1 (.t 21), some (20, false)⟩,
      ⟨some 23, .mv (.t 1), some (20, false)⟩,
      ⟨some 24, .len false (.t 23), some (20, false)⟩,
      ⟨some 25, .bin .neq (.t 22) (.t 24), some (20, false)⟩,
      ⟨some 26, .pick (.t 20) (.c (.bool true)) (.t 25), none⟩])
     (.cond (.t 26)
      (.seq (.ops none [⟨some 27, .load true 5 (.t 2), none⟩,
        ⟨none, .store 5 (.t 4) (.t 27), none⟩,
        ⟨some 5, .mv (.c (.int .i64 (-6))), none⟩])
       .ret)
      .skip))
    (.seq (.ops none [⟨some 29, .mv (.t 7), none⟩,
      ⟨some 30, .iaddr 1 (.t 29) (.c (.int .i64 2)), none⟩,
      ⟨some 31, .load false 1 (.t 30), none⟩,
      ⟨some 32, .call 15 true [] [(.t 31)], none⟩,
      ⟨some 28, .mv (.t 32), none⟩,
      ⟨some 33, .ext (.t 28) 0, none⟩,
      ⟨some 34, .ext (.t 28) 1, none⟩,
      ⟨some 9, .alloc [.int .i64 0, .int .i64 0], none⟩,
      ⟨none, .store 2 (.t 9) (.t 33), none⟩,
      ⟨some 10, .mv (.t 34), none⟩])
     (.seq (.seq (.ops none [⟨some 35, .mv (.t 10), none⟩,
        ⟨some 36, .un .not (.t 35), none⟩,
        ⟨some 37, .mv (.t 36), none⟩,
        ⟨some 38, .mv (.t 7), some (37, false)⟩,
        ⟨some 39, .iaddr 1 (.t 38) (.c (.int .i64 0)), some (37, false)⟩,
        ⟨some 40, .load false 1 (.t 39), some (37, false)⟩,
        ⟨some 41, .mv (.t 6), some (37, false)⟩,
        ⟨some 42, .len false (.t 41), some (37, false)⟩,
        ⟨some 43, .call 37 true [] [(.t 40), (.t 42)], some (37, false)⟩,
        ⟨some 44, .un .not (.t 43), some (37, false)⟩,
        ⟨some 45, .pick (.t 37) (.c (.bool true)) (.t 44), none⟩])
       (.cond (.t 45)
        (.seq (.ops none [⟨some 46, .load true 5 (.t 2), none⟩,
          ⟨none, .store 5 (.t 4) (.t 46), none⟩,
          ⟨some 5, .mv (.c (.int .i64 (-9))), none⟩])
         .ret)
        .skip))
      (.seq (.ops none [⟨some 48, .faddr 0 (.t 2), none⟩,
        ⟨some 49, .load false 1 (.t 48), none⟩,
        ⟨some 50, .bslice 1 1 [.int .i64 0] [(0, (.c (.int .i64 0)))], none⟩,
        ⟨some 51, .call 62 false [] [(.t 49), (.c (.int .i64 64)), (.t 50)], none⟩,
        ⟨some 47, .mv (.t 51), none⟩,
        ⟨some 52, .ext (.t 47) 0, none⟩,
        ⟨some 53, .ext (.t 47) 1, none⟩,
        ⟨some 11, .mv (.t 52), none⟩,
        ⟨some 8, .mv (.t 53), none⟩])
       (.seq (.seq (.ops none [⟨some 54, .mv (.t 8), none⟩,
          ⟨some 55, .bin .neq (.t 54) (.c (.int .i64 0)), none⟩])
         (.cond (.t 55)
          (.seq (.ops none [⟨some 56, .load true 5 (.t 2), none⟩,
            ⟨some 57, .mv (.t 8), none⟩,
            ⟨none, .store 5 (.t 4) (.t 56), none⟩,
            ⟨some 5, .mv (.t 57), none⟩])
           .ret)
          .skip))
        (.seq (.ops (some []) [⟨some 58, .mv (.t 11), none⟩,
          ⟨some 59, .mv (.t 6), none⟩,
          ⟨some 60, .load true 2 (.t 9), none⟩,
          ⟨some 61, .mv (.t 7), none⟩,
          ⟨some 62, .iaddr 1 (.t 61) (.c (.int .i64 0)), none⟩,
          ⟨some 63, .load false 1 (.t 62), none⟩,
          ⟨some 64, .build [.nil, .nil, .int .i64 0, .int .i64 0, .int .i64 0] [(0, 1, (.t 58)), (1, 1, (.t 59)), (2, 2, (.t 60)), (4, 1, (.t 63))], none⟩,
          ⟨none, .store 5 (.t 4) (.t 64), none⟩,
          ⟨some 5, .mv (.c (.int .i64 0)), none⟩])
         .ret))))))))⟩
theorem cop41 : copF Try.prog raws [] 41 = some ir41 := by kernel_rfl
/-- tenterhook/dict.within -/
def ir42 : F := ⟨12, [.t 4],
 (.seq (.ops none [⟨some 4, .mv (.c (.bool false)), none⟩])
  (.seq (.ops none [⟨some 5, .mv (.t 0), none⟩,
    ⟨some 6, .bin .geq (.t 5) (.c (.int .i64 0)), none⟩,
    ⟨some 7, .mv (.t 6), none⟩,
    ⟨some 8, .mv (.t 0), some (7, true)⟩,
    ⟨some 9, .mv (.t 1), some (7, true)⟩,
    ⟨some 10, .bin .leq (.t 8) (.t 9), some (7, true)⟩,
    ⟨some 11, .pick (.t 7) (.t 10) (.c (.bool false)), none⟩,
    ⟨some 4, .mv (.t 11), none⟩])
   .ret))⟩
theorem cop42 : copF Try.prog raws [] 42 = some ir42 := by kernel_rfl
/-- tenterhook/stk.Pick -/
def ir43 : F := ⟨22, [.t 4, .t 5],
 (.seq (.ops none [⟨some 4, .mv (.c (.int .i64 0)), none⟩,
   ⟨some 5, .mv (.c (.int .i64 0)), none⟩])
  (.seq (.seq (.ops none [⟨some 6, .mv (.t 1), none⟩,
     ⟨some 7, .bin .lss (.t 6) (.c (.int .i64 0)), none⟩,
     ⟨some 8, .mv (.t 7), none⟩,
     ⟨some 9, .mv (.t 1), some (8, false)⟩,
     ⟨some 10, .mv (.t 0), some (8, false)⟩,
     ⟨some 11, .len false (.t 10), some (8, false)⟩,
     ⟨some 12, .bin .geq (.t 9) (.t 11), some (8, false)⟩,
     ⟨some 13, .pick (.t 8) (.c (.bool true)) (.t 12), none⟩])
    (.cond (.t 13)
     (.seq (.ops none [⟨some 4, .mv (.c (.int .i64 0)), none⟩,
       ⟨some 5, .mv (.c (.int .i64 (-4))), none⟩])
      .ret)
     .skip))
   (.seq (.ops none [⟨some 14, .mv (.t 0), none⟩,
     ⟨some 15, .mv (.t 0), none⟩,
     ⟨some 16, .len false (.t 15), none⟩,
     ⟨some 17, .bin .sub (.t 16) (.c (.int .i64 1)), none⟩,
     ⟨some 18, .mv (.t 1), none⟩,
     ⟨some 19, .bin .sub (.t 17) (.t 18), none⟩,
     ⟨some 20, .iaddr 1 (.t 14) (.t 19), none⟩,
     ⟨some 21, .load false 1 (.t 20), none⟩,
     ⟨some 4, .mv (.t 21), none⟩,
     ⟨some 5, .mv (.c (.int .i64 0)), none⟩])
    .ret)))⟩
theorem cop43 : copF Try.prog raws [] 43 = some ir43 := by kernel_rfl
/-- tenterhook/ret.deep -/
def ir44 : F := ⟨12, [.t 4],
 (.seq (.ops none [⟨some 4, .mv (.c (.nil)), none⟩])
  (.seq (.ops none [⟨some 6, .mv (.t 1), none⟩,
    ⟨some 7, .mkslice 1 [.int .i64 0] (.t 6) (.t 6), none⟩,
    ⟨some 5, .mv (.t 7), none⟩])
   (.seq (.ops none [⟨some 8, .mv (.t 5), none⟩,
     ⟨some 9, .mv (.t 0), none⟩,
     ⟨some 10, .copy 1 (.t 8) (.t 9), none⟩])
    (.seq (.ops none [⟨some 11, .mv (.t 5), none⟩,
      ⟨some 4, .mv (.t 11), none⟩])
     .ret))))⟩
theorem cop44 : copF Try.prog raws [] 44 = some ir44 := by kernel_rfl
/-- (tenterhook/ret.Task).with -/
def ir45 : F := ⟨15, [.cell 4 true 5],
 (.seq (.ops none [⟨some 2, .box (.t 0), none⟩,
   ⟨some 4, .alloc [.nil, .nil, .int .i64 0, .int .i64 0, .int .i64 0], none⟩])
  (.seq (.ops none [⟨some 5, .mv (.t 1), none⟩,
    ⟨some 6, .faddr 1 (.t 2), none⟩,
    ⟨none, .store 1 (.t 6) (.t 5), none⟩])
   (.seq (.seq (.ops none [⟨some 7, .faddr 4 (.t 2), none⟩,
      ⟨some 8, .load false 1 (.t 7), none⟩,
      ⟨some 9, .mv (.t 1), none⟩,
      ⟨some 10, .len false (.t 9), none⟩,
      ⟨some 11, .call 37 true [] [(.t 8), (.t 10)], none⟩,
      ⟨some 12, .un .not (.t 11), none⟩])
     (.cond (.t 12)
      (.ops none [⟨some 13, .faddr 4 (.t 2), none⟩,
       ⟨none, .store 1 (.t 13) (.c (.int .i64 0)), none⟩])
      .skip))
    (.seq (.ops none [⟨some 14, .load true 5 (.t 2), none⟩,
      ⟨none, .store 5 (.t 4) (.t 14), none⟩])
     .ret))))⟩
theorem cop45 : copF Try.prog raws [] 45 = some ir45 := by kernel_rfl
/-- slices.Clone[[]int,int] -/
def ir46 : F := ⟨8, [.t 2],
 (.seq (.ops none [⟨some 2, .mv (.c (.nil)), none⟩])
  (.seq (.seq (.ops none [⟨some 3, .mv (.t 0), none⟩,
     ⟨some 4, .eqNil false false (.t 3), none⟩])
    (.cond (.t 4)
     (.seq (.ops none [⟨some 2, .mv (.c (.nil)), none⟩])
      .ret)
     .skip))
   (.seq (.ops none [⟨some 5, .bslice 1 0 [.int .i64 0] [], none⟩,
     ⟨some 6, .mv (.t 0), none⟩,
     ⟨some 7, .append 1 (.t 5) (.t 6), none⟩,
     ⟨some 2, .mv (.t 7), none⟩])
    .ret)))⟩
theorem cop46 : copF Try.prog raws [] 46 = some ir46 := by kernel_rfl
/-- tenterhook/tenterhookref13.sane -/
def ir47 : F := ⟨9, [.cell 2 true 5],
 (.seq (.ops none [⟨some 1, .box (.t 0), none⟩,
   ⟨some 2, .alloc [.nil, .nil, .int .i64 0, .int .i64 0, .int .i64 0], none⟩])
  (.seq (.seq (.ops none [⟨some 3, .load true 5 (.t 1), none⟩,
     ⟨some 4, .call 31 true [] [(.t 3)], none⟩,
     ⟨some 5, .un .not (.t 4), none⟩])
    (.cond (.t 5)
     (.seq (.ops none [⟨some 6, .build [.int .i64 0, .int .i64 0] [], none⟩,
       ⟨some 7, .call 64 false [] [(.t 6)], none⟩,
       ⟨none, .store 5 (.t 2) (.t 7), none⟩])
      .ret)
     .skip))
   (.seq (.ops none [⟨some 8, .load true 5 (.t 1), none⟩,
     ⟨none, .store 5 (.t 2) (.t 8), none⟩])
    .ret)))⟩
theorem cop47 : copF Try.prog raws [] 47 = some ir47 := by kernel_rfl
/-- tenterhook/tenterhookref11.At -/
def ir48 : F := ⟨17, [.cell 2 true 2, .t 3],
 (.seq (.ops none [⟨some 2, .alloc [.int .i64 0, .int .i64 0], none⟩,
   ⟨some 3, .mv (.c (.bool false)), none⟩])
  (.seq (.seq (.ops none [⟨some 4, .mv (.t 0), none⟩,
     ⟨some 5, .bin .lss (.t 4) (.c (.int .i64 0)), none⟩,
     ⟨some 6, .mv (.t 5), none⟩,
     ⟨some 7, .mv (.t 0), some (6, false)⟩,
     ⟨some 8, .bin .quo (.t 7) (.c (.int .i64 4096)), some (6, false)⟩,
     ⟨some 9, .bin .gtr (.t 8) (.c (.int .i64 1000000)), some (6, false)⟩,
     ⟨some 10, .pick (.t 6) (.c (.bool true)) (.t 9), none⟩])
    (.cond (.t 10)
     (.seq (.ops none [⟨some 11, .build [.int .i64 0, .int .i64 0] [], none⟩,
       ⟨none, .store 2 (.t 2) (.t 11), none⟩,
       ⟨some 3, .mv (.c (.bool false)), none⟩])
      .ret)
     .skip))
   (.seq (.ops none [⟨some 12, .mv (.t 0), none⟩,
     ⟨some 13, .bin .quo (.t 12) (.c (.int .i64 4096)), none⟩,
     ⟨some 14, .mv (.t 0), none⟩,
     ⟨some 15, .bin .rem (.t 14) (.c (.int .i64 4096)), none⟩,
     ⟨some 16, .build [.int .i64 0, .int .i64 0] [(0, 1, (.t 13)), (1, 1, (.t 15))], none⟩,
     ⟨none, .store 2 (.t 2) (.t 16), none⟩,
     ⟨some 3, .mv (.c (.bool true)), none⟩])
    .ret)))⟩
theorem cop48 : copF Try.prog raws [] 48 = some ir48 := by kernel_rfl
/-- tenterhook/tenterhookref04.Push -/
def ir49 : F := ⟨23, [.t 6, .t 7],
 (.seq (.ops none [⟨some 6, .mv (.c (.nil)), none⟩,
   ⟨some 7, .mv (.c (.int .i64 0)), none⟩])
  (.seq (.seq (.ops none [⟨some 9, .mv (.t 0), none⟩,
     ⟨some 10, .len false (.t 9), none⟩,
     ⟨some 11, .mv (.t 2), none⟩,
     ⟨some 12, .len false (.t 11), none⟩,
     ⟨some 13, .bin .add (.t 10) (.t 12), none⟩,
     ⟨some 14, .mv (.t 1), none⟩,
     ⟨some 15, .bin .gtr (.t 13) (.t 14), none⟩])
    (.cond (.t 15)
     (.seq (.ops none [⟨some 16, .mv (.t 0), none⟩,
       ⟨some 6, .mv (.t 16), none⟩,
       ⟨some 7, .mv (.c (.int .i64 (-3))), none⟩])
      .ret)
     .skip))
   (.seq (.ops none [⟨some 17, .bslice 1 0 [.int .i64 0] [], none⟩,
     ⟨some 18, .mv (.t 0), none⟩,
     ⟨some 19, .append 1 (.t 17) (.t 18), none⟩,
     ⟨some 8, .mv (.t 19), none⟩])
    (.seq (.ops none [⟨some 20, .mv (.t 8), none⟩,
      ⟨some 21, .mv (.t 2), none⟩,
      ⟨some 22, .append 1 (.t 20) (.t 21), none⟩,
      ⟨some 6, .mv (.t 22), none⟩,
      ⟨some 7, .mv (.c (.int .i64 0)), none⟩])
     .ret))))⟩
theorem cop49 : copF Try.prog raws [] 49 = some ir49 := by kernel_rfl
/-- tenterhook/tenterhookref11.Addr -/
def ir50 : F := ⟨27, [.t 2],
 (.seq (.ops none [⟨some 1, .box (.t 0), none⟩,
   ⟨some 2, .mv (.c (.int .i64 0)), none⟩])
  (.seq (.seq (.ops none [⟨some 3, .faddr 0 (.t 1), none⟩,
     ⟨some 4, .load false 1 (.t 3), none⟩,
     ⟨some 5, .bin .lss (.t 4) (.c (.int .i64 0)), none⟩,
     ⟨some 6, .mv (.t 5), none⟩,
     ⟨some 7, .faddr 0 (.t 1), some (6, false)⟩,
     ⟨some 8, .load false 1 (.t 7), some (6, false)⟩,
     ⟨some 9, .bin .gtr (.t 8) (.c (.int .i64 1000000)), some (6, false)⟩,
     ⟨some 10, .pick (.t 6) (.c (.bool true)) (.t 9), none⟩,
     ⟨some 11, .mv (.t 10), none⟩,
     ⟨some 12, .faddr 1 (.t 1), some (11, false)⟩,
     ⟨some 13, .load false 1 (.t 12), some (11, false)⟩,
     ⟨some 14, .bin .lss (.t 13) (.c (.int .i64 0)), some (11, false)⟩,
     ⟨some 15, .pick (.t 11) (.c (.bool true)) (.t 14), none⟩,
     ⟨some 16, .mv (.t 15), none⟩,
     ⟨some 17, .faddr 1 (.t 1), some (16, false)⟩,
     ⟨some 18, .load false 1 (.t 17), some (16, false)⟩,
     ⟨some 19, .bin .geq (.t 18) (.c (.int .i64 4096)), some (16, false)⟩,
     ⟨some 20, .pick (.t 16) (.c (.bool true)) (.t 19), none⟩])
    (.cond (.t 20)
     (.seq (.ops none [⟨some 2, .mv (.c (.int .i64 (-1))), none⟩])
      .ret)
     .skip))
   (.seq (.ops none [⟨some 21, .faddr 0 (.t 1), none⟩,
     ⟨some 22, .load false 1 (.t 21), none⟩,
     ⟨some 23, .bin .mul (.t 22) (.c (.int .i64 4096)), none⟩,
     ⟨some 24, .faddr 1 (.t 1), none⟩,
     ⟨some 25, .load false 1 (.t 24), none⟩,
     ⟨some 26, .bin .add (.t 23) (.t 25), none⟩,
     ⟨some 2, .mv (.t 26), none⟩])
    .ret)))⟩
theorem cop50 : copF Try.prog raws [] 50 = some ir50 := by kernel_rfl
/-- tenterhook/tenterhookref13.mayH -/
def ir51 : F := ⟨16, [.t 4],
 (.seq (.ops none [⟨some 4, .mv (.c (.bool false)), none⟩])
  (.seq (.ops none [⟨some 5, .mv (.t 0), none⟩,
    ⟨some 6, .bin .eql (.t 5) (.c (.int .i64 0)), none⟩,
    ⟨some 7, .mv (.t 6), none⟩,
    ⟨some 8, .mv (.t 0), some (7, false)⟩,
    ⟨some 9, .bin .geq (.t 8) (.c (.int .i64 3)), some (7, false)⟩,
    ⟨some 10, .mv (.t 9), some (7, false)⟩,
    ⟨some 11, .mv (.t 0), some (10, true)⟩,
    ⟨some 12, .mv (.t 1), some (10, true)⟩,
    ⟨some 13, .bin .leq (.t 11) (.t 12), some (10, true)⟩,
    ⟨some 14, .pick (.t 10) (.t 13) (.c (.bool false)), some (7, false)⟩,
    ⟨some 15, .pick (.t 7) (.c (.bool true)) (.t 14), none⟩,
    ⟨some 4, .mv (.t 15), none⟩])
   .ret))⟩
theorem cop51 : copF Try.prog raws [] 51 = some ir51 := by kernel_rfl
/-- tenterhook/tenterhookref04.Pop -/
def ir52 : F := ⟨31, [.t 4, .t 5, .t 6],
 (.seq (.ops none [⟨some 4, .mv (.c (.nil)), none⟩,
   ⟨some 5, .mv (.c (.nil)), none⟩,
   ⟨some 6, .mv (.c (.int .i64 0)), none⟩])
  (.seq (.seq (.ops none [⟨some 8, .mv (.t 1), none⟩,
     ⟨some 9, .bin .lss (.t 8) (.c (.int .i64 0)), none⟩,
     ⟨some 10, .mv (.t 9), none⟩,
     ⟨some 11, .mv (.t 1), some (10, false)⟩,
     ⟨some 12, .mv (.t 0), some (10, false)⟩,
     ⟨some 13, .len false (.t 12), some (10, false)⟩,
     ⟨some 14, .bin .gtr (.t 11) (.t 13), some (10, false)⟩,
     ⟨some 15, .pick (.t 10) (.c (.bool true)) (.t 14), none⟩])
    (.cond (.t 15)
     (.seq (.ops none [⟨some 16, .mv (.t 0), none⟩,
       ⟨some 4, .mv (.t 16), none⟩,
       ⟨some 5, .mv (.c (.nil)), none⟩,
       ⟨some 6, .mv (.c (.int .i64 (-4))), none⟩])
      .ret)
     .skip))
   (.seq (.ops none [⟨some 17, .mv (.t 0), none⟩,
     ⟨some 18, .len false (.t 17), none⟩,
     ⟨some 19, .mv (.t 1), none⟩,
     ⟨some 20, .bin .sub (.t 18) (.t 19), none⟩,
     ⟨some 7, .mv (.t 20), none⟩])
    (.seq (.ops (some [(0, 5), (4, 5)]) [⟨some 21, .bslice 1 0 [.int .i64 0] [], none⟩,
      ⟨some 22, .mv (.t 0), none⟩,
      ⟨some 23, .mv (.t 7), none⟩,
      ⟨some 24, .slice false 1 (.t 22) none (some (.t 23)) none, none⟩,
      ⟨some 25, .append 1 (.t 21) (.t 24), none⟩,
      ⟨some 26, .bslice 1 0 [.int .i64 0] [], none⟩,
      ⟨some 27, .mv (.t 0), none⟩,
      ⟨some 28, .mv (.t 7), none⟩,
      ⟨some 29, .slice false 1 (.t 27) (some (.t 28)) none none, none⟩,
      ⟨some 30, .append 1 (.t 26) (.t 29), none⟩,
      ⟨some 4, .mv (.t 25), none⟩,
      ⟨some 5, .mv (.t 30), none⟩,
      ⟨some 6, .mv (.c (.int .i64 0)), none⟩])
     .ret))))⟩
theorem cop52 : copF Try.prog raws [] 52 = some ir52 := by kernel_rfl
/-- tenterhook/tenterhookref13.cut -/
def ir53 : F := ⟨10, [.t 4],
 (.seq (.ops none [⟨some 4, .mv (.c (.int .i64 0)), none⟩])
  (.seq (.seq (.ops none [⟨some 5, .mv (.t 0), none⟩,
     ⟨some 6, .mv (.t 1), none⟩,
     ⟨some 7, .call 51 true [] [(.t 5), (.t 6)], none⟩,
     ⟨some 8, .un .not (.t 7), none⟩])
    (.cond (.t 8)
     (.seq (.ops none [⟨some 4, .mv (.c (.int .i64 0)), none⟩])
      .ret)
     .skip))
   (.seq (.ops none [⟨some 9, .mv (.t 0), none⟩,
     ⟨some 4, .mv (.t 9), none⟩])
    .ret)))⟩
theorem cop53 : copF Try.prog raws [] 53 = some ir53 := by kernel_rfl
/-- tenterhook/tenterhookref13.uncatch -/
def ir54 : F := ⟨71, [.cell 4 true 5, .t 5, .t 6],
 (.seq (.ops none [⟨some 2, .box (.t 0), none⟩,
   ⟨some 4, .alloc [.nil, .nil, .int .i64 0, .int .i64 0, .int .i64 0], none⟩,
   ⟨some 5, .mv (.c (.bool false)), none⟩,
   ⟨some 6, .mv (.c (.int .i64 0)), none⟩])
  (.seq (.ops none [⟨some 12, .mv (.t 1), none⟩,
    ⟨some 13, .len false (.t 12), none⟩,
    ⟨some 7, .mv (.t 13), none⟩])
   (.seq (.seq (.ops none [⟨some 14, .mv (.t 7), none⟩,
      ⟨some 15, .bin .lss (.t 14) (.c (.int .i64 3)), none⟩,
      ⟨some 16, .mv (.t 15), none⟩,
      ⟨some 17, .faddr 4 (.t 2), some (16, false)⟩,
      ⟨some 18, .load false 1 (.t 17), some (16, false)⟩,
      ⟨some 19, .mv (.t 7), some (16, false)⟩,
      ⟨some 20, .bin .neq (.t 18) (.t 19), some (16, false)⟩,
      ⟨some 21, .pick (.t 16) (.c (.bool true)) (.t 20), none⟩])
     (.cond (.t 21)
      (.seq (.ops none [⟨some 22, .load true 5 (.t 2), none⟩,
        ⟨none, .store 5 (.t 4) (.t 22), none⟩,
        ⟨some 5, .mv (.c (.bool false)), none⟩,
        ⟨some 6, .mv (.c (.int .i64 (-6))), none⟩])
       .ret)
      .skip))
    (.seq (.ops none [⟨some 24, .mv (.t 1), none⟩,
      ⟨some 25, .mv (.t 7), none⟩,
      ⟨some 26, .bin .sub (.t 25) (.c (.int .i64 1)), none⟩,
      ⟨some 27, .iaddr 1 (.t 24) (.t 26), none⟩,
      ⟨some 28, .load false 1 (.t 27), none⟩,
      ⟨some 29, .call 48 true [] [(.t 28)], none⟩,
      ⟨some 23, .mv (.t 29), none⟩,
      ⟨some 30, .ext (.t 23) 0, none⟩,
      ⟨some 31, .ext (.t 23) 1, none⟩,
      ⟨some 8, .alloc [.int .i64 0, .int .i64 0], none⟩,
      ⟨none, .store 2 (.t 8) (.t 30), none⟩,
      ⟨some 9, .mv (.t 31), none⟩])
     (.seq (.seq (.ops none [⟨some 32, .mv (.t 9), none⟩,
        ⟨some 33, .un .not (.t 32), none⟩,
        ⟨some 34, .mv (.t 33), none⟩,
        ⟨some 35, .mv (.t 1), some (34, false)⟩,
        ⟨some 36, .mv (.t 7), some (34, false)⟩,
        ⟨some 37, .bin .sub (.t 36) (.c (.int .i64 3)), some (34, false)⟩,
        ⟨some 38, .iaddr 1 (.t 35) (.t 37), some (34, false)⟩,
        ⟨some 39, .load false 1 (.t 38), some (34, false)⟩,
        ⟨some 40, .mv (.t 7), some (34, false)⟩,
        ⟨some 41, .bin .sub (.t 40) (.c (.int .i64 3)), some (34, false)⟩,
        ⟨some 42, .call 51 true [] [(.t 39), (.t 41)], some (34, false)⟩,
        ⟨some 43, .un .not (.t 42), some (34, false)⟩,
        ⟨some 44, .pick (.t 34) (.c (.bool true)) (.t 43), none⟩])
       (.cond (.t 44)
        (.seq (.ops none [⟨some 45, .load true 5 (.t 2), none⟩,
          ⟨none, .store 5 (.t 4) (.t 45), none⟩,
          ⟨some 5, .mv (.c (.bool false)), none⟩,
          ⟨some 6, .mv (.c (.int .i64 (-9))), none⟩])
         .ret)
        .skip))
      (.seq (.ops none [⟨some 47, .faddr 0 (.t 2), none⟩,
        ⟨some 48, .load false 1 (.t 47), none⟩,
        ⟨some 49, .bslice 1 1 [.int .i64 0] [(0, (.c (.int .i64 0)))], none⟩,
        ⟨some 50, .call 49 false [] [(.t 48), (.c (.int .i64 64)), (.t 49)], none⟩,
        ⟨some 46, .mv (.t 50), none⟩,
        ⟨some 51, .ext (.t 46) 0, none⟩,
        ⟨some 52, .ext (.t 46) 1, none⟩,
        ⟨some 10, .mv (.t 51), none⟩,
        ⟨some 11, .mv (.t 52), none⟩])
       (.seq (.seq (.ops none [⟨some 53, .mv (.t 11), none⟩,
          ⟨some 54, .bin .neq (.t 53) (.c (.int .i64 0)), none⟩])
         (.cond (.t 54)
          (.seq (.ops none [⟨some 55, .load true 5 (.t 2), none⟩,
            ⟨some 56, .mv (.t 11), none⟩,
            ⟨none, .store 5 (.t 4) (.t 55), none⟩,
            ⟨some 5, .mv (.c (.bool false)), none⟩,
            ⟨some 6, .mv (.t 56), none⟩])
           .ret)
          .skip))
        (.seq (.ops (some [(1, 7), (6, 7), (1, 12), (6, 12)]) [⟨some 57, .mv (.t 10), none⟩,
          ⟨some 58, .bslice 1 0 [.int .i64 0] [], none⟩,
          ⟨some 59, .mv (.t 1), none⟩,
          ⟨some 60, .mv (.t 7), none⟩,
          ⟨some 61, .bin .sub (.t 60) (.c (.int .i64 3)), none⟩,
          ⟨some 62, .slice false 1 (.t 59) none (some (.t 61)) none, none⟩,
          ⟨some 63, .append 1 (.t 58) (.t 62), none⟩,
          ⟨some 64, .load true 2 (.t 8), none⟩,
          ⟨some 65, .mv (.t 1), none⟩,
          ⟨some 66, .mv (.t 7), none⟩,
          ⟨some 67, .bin .sub (.t 66) (.c (.int .i64 3)), none⟩,
          ⟨some 68, .iaddr 1 (.t 65) (.t 67), none⟩,
          ⟨some 69, .load false 1 (.t 68), none⟩,
          ⟨some 70, .build [.nil, .nil, .int .i64 0, .int .i64 0, .int .i64 0] [(0, 1, (.t 57)), (1, 1, (.t 63)), (2, 2, (.t 64)), (4, 1, (.t 69))], none⟩,
          ⟨none, .store 5 (.t 4) (.t 70), none⟩,
          ⟨some 5, .mv (.c (.bool false)), none⟩,
          ⟨some 6, .mv (.c (.int .i64 0)), none⟩])
         .ret))))))))⟩
theorem cop54 : copF Try.prog raws [] 54 = some ir54 := by kernel_rfl
/-- tenterhook/tenterhookref13.more -/
def ir55 : F := ⟨28, [.cell 4 true 5, .t 5],
 (.seq (.ops none [⟨some 2, .box (.t 0), none⟩,
   ⟨some 4, .alloc [.nil, .nil, .int .i64 0, .int .i64 0, .int .i64 0], none⟩,
   ⟨some 5, .mv (.c (.int .i64 0)), none⟩])
  (.seq (.ops none [⟨some 8, .load true 5 (.t 2), none⟩,
    ⟨some 9, .call 47 false [] [(.t 8)], none⟩,
    ⟨none, .store 5 (.t 2) (.t 9), none⟩])
   (.seq (.ops none [⟨some 11, .faddr 1 (.t 2), none⟩,
     ⟨some 12, .load false 1 (.t 11), none⟩,
     ⟨some 13, .mv (.t 1), none⟩,
     ⟨some 14, .call 49 false [] [(.t 12), (.c (.int .i64 64)), (.t 13)], none⟩,
     ⟨some 10, .mv (.t 14), none⟩,
     ⟨some 15, .ext (.t 10) 0, none⟩,
     ⟨some 16, .ext (.t 10) 1, none⟩,
     ⟨some 6, .mv (.t 15), none⟩,
     ⟨some 7, .mv (.t 16), none⟩])
    (.seq (.seq (.ops none [⟨some 17, .mv (.t 7), none⟩,
       ⟨some 18, .bin .neq (.t 17) (.c (.int .i64 0)), none⟩])
      (.cond (.t 18)
       (.seq (.ops none [⟨some 19, .load true 5 (.t 2), none⟩,
         ⟨none, .store 5 (.t 4) (.t 19), none⟩,
         ⟨some 5, .mv (.c (.int .i64 (-5))), none⟩])
        .ret)
       .skip))
     (.seq (.ops none [⟨some 20, .faddr 0 (.t 2), none⟩,
       ⟨some 21, .load false 1 (.t 20), none⟩,
       ⟨some 22, .mv (.t 6), none⟩,
       ⟨some 23, .faddr 2 (.t 2), none⟩,
       ⟨some 24, .load true 2 (.t 23), none⟩,
       ⟨some 25, .faddr 4 (.t 2), none⟩,
       ⟨some 26, .load false 1 (.t 25), none⟩,
       ⟨some 27, .build [.nil, .nil, .int .i64 0, .int .i64 0, .int .i64 0] [(0, 1, (.t 21)), (1, 1, (.t 22)), (2, 2, (.t 24)), (4, 1, (.t 26))], none⟩,
       ⟨none, .store 5 (.t 4) (.t 27), none⟩,
       ⟨some 5, .mv (.c (.int .i64 0)), none⟩])
      .ret)))))⟩
theorem cop55 : copF Try.prog raws [] 55 = some ir55 := by kernel_rfl
/-- tenterhook/tenterhookref13.less -/
def ir56 : F := ⟨35, [.cell 4 true 5, .t 5, .t 6],
 (.seq (.ops none [⟨some 2, .box (.t 0), none⟩,
   ⟨some 4, .alloc [.nil, .nil, .int .i64 0, .int .i64 0, .int .i64 0], none⟩,
   ⟨some 5, .mv (.c (.nil)), none⟩,
   ⟨some 6, .mv (.c (.int .i64 0)), none⟩])
  (.seq (.ops none [⟨some 10, .load true 5 (.t 2), none⟩,
    ⟨some 11, .call 47 false [] [(.t 10)], none⟩,
    ⟨none, .store 5 (.t 2) (.t 11), none⟩])
   (.seq (.ops none [⟨some 13, .faddr 1 (.t 2), none⟩,
     ⟨some 14, .load false 1 (.t 13), none⟩,
     ⟨some 15, .mv (.t 1), none⟩,
     ⟨some 16, .call 52 false [] [(.t 14), (.t 15)], none⟩,
     ⟨some 12, .mv (.t 16), none⟩,
     ⟨some 17, .ext (.t 12) 0, none⟩,
     ⟨some 18, .ext (.t 12) 1, none⟩,
     ⟨some 19, .ext (.t 12) 2, none⟩,
     ⟨some 7, .mv (.t 17), none⟩,
     ⟨some 8, .mv (.t 18), none⟩,
     ⟨some 9, .mv (.t 19), none⟩])
    (.seq (.seq (.ops none [⟨some 20, .mv (.t 9), none⟩,
       ⟨some 21, .bin .neq (.t 20) (.c (.int .i64 0)), none⟩])
      (.cond (.t 21)
       (.seq (.ops none [⟨some 22, .load true 5 (.t 2), none⟩,
         ⟨none, .store 5 (.t 4) (.t 22), none⟩,
         ⟨some 5, .mv (.c (.nil)), none⟩,
         ⟨some 6, .mv (.c (.int .i64 (-6))), none⟩])
        .ret)
       .skip))
     (.seq (.ops (some []) [⟨some 23, .faddr 0 (.t 2), none⟩,
       ⟨some 24, .load false 1 (.t 23), none⟩,
       ⟨some 25, .mv (.t 7), none⟩,
       ⟨some 26, .faddr 2 (.t 2), none⟩,
       ⟨some 27, .load true 2 (.t 26), none⟩,
       ⟨some 28, .faddr 4 (.t 2), none⟩,
       ⟨some 29, .load false 1 (.t 28), none⟩,
       ⟨some 30, .mv (.t 7), none⟩,
       ⟨some 31, .len false (.t 30), none⟩,
       ⟨some 32, .call 53 true [] [(.t 29), (.t 31)], none⟩,
       ⟨some 33, .build [.nil, .nil, .int .i64 0, .int .i64 0, .int .i64 0] [(0, 1, (.t 24)), (1, 1, (.t 25)), (2, 2, (.t 27)), (4, 1, (.t 32))], none⟩,
       ⟨some 34, .mv (.t 8), none⟩,
       ⟨none, .store 5 (.t 4) (.t 33), none⟩,
       ⟨some 5, .mv (.t 34), none⟩,
       ⟨some 6, .mv (.c (.int .i64 0)), none⟩])
      .ret)))))⟩
theorem cop56 : copF Try.prog raws [] 56 = some ir56 := by kernel_rfl
/-- tenterhook/tenterhookref13.Index -/
def ir57 : F := ⟨27, [.t 4, .t 5],
 (.seq (.ops none [⟨some 2, .box (.t 0), none⟩,
   ⟨some 4, .mv (.c (.int .i64 0)), none⟩,
   ⟨some 5, .mv (.c (.int .i64 0)), none⟩])
  (.seq (.ops none [⟨some 8, .load true 5 (.t 2), none⟩,
    ⟨some 9, .call 47 false [] [(.t 8)], none⟩,
    ⟨none, .store 5 (.t 2) (.t 9), none⟩])
   (.seq (.seq (.ops none [⟨some 10, .mv (.t 1), none⟩,
      ⟨some 11, .bin .lss (.t 10) (.c (.int .i64 0)), none⟩,
      ⟨some 12, .mv (.t 11), none⟩,
      ⟨some 13, .mv (.t 1), some (12, false)⟩,
      ⟨some 14, .bin .gtr (.t 13) (.c (.int .i64 31)), some (12, false)⟩,
      ⟨some 15, .pick (.t 12) (.c (.bool true)) (.t 14), none⟩])
     (.cond (.t 15)
      (.seq (.ops none [⟨some 4, .mv (.c (.int .i64 0)), none⟩,
        ⟨some 5, .mv (.c (.int .i64 (-6))), none⟩])
       .ret)
      .skip))
    (.seq (.ops none [⟨some 17, .faddr 1 (.t 2), none⟩,
      ⟨some 18, .load false 1 (.t 17), none⟩,
      ⟨some 19, .mv (.t 1), none⟩,
      ⟨some 20, .bin .mul (.c (.int .i64 2)) (.t 19), none⟩,
      ⟨some 21, .call 65 true [] [(.t 18), (.t 20)], none⟩,
      ⟨some 16, .mv (.t 21), none⟩,
      ⟨some 22, .ext (.t 16) 0, none⟩,
      ⟨some 23, .ext (.t 16) 1, none⟩,
      ⟨some 6, .mv (.t 22), none⟩,
      ⟨some 7, .mv (.t 23), none⟩])
     (.seq (.seq (.ops none [⟨some 24, .mv (.t 7), none⟩,
        ⟨some 25, .bin .neq (.t 24) (.c (.int .i64 0)), none⟩])
       (.cond (.t 25)
        (.seq (.ops none [⟨some 4, .mv (.c (.int .i64 0)), none⟩,
          ⟨some 5, .mv (.c (.int .i64 (-6))), none⟩])
         .ret)
        .skip))
      (.seq (.ops none [⟨some 26, .mv (.t 6), none⟩,
        ⟨some 4, .mv (.t 26), none⟩,
        ⟨some 5, .mv (.c (.int .i64 0)), none⟩])
       .ret))))))⟩
theorem cop57 : copF Try.prog raws [] 57 = some ir57 := by kernel_rfl
/-- tenterhook/tenterhookref13.Keep -/
def ir58 : F := ⟨12, [.cell 4 true 5, .t 5],
 (.seq (.ops none [⟨some 2, .box (.t 0), none⟩,
   ⟨some 4, .alloc [.nil, .nil, .int .i64 0, .int .i64 0, .int .i64 0], none⟩,
   ⟨some 5, .mv (.c (.int .i64 0)), none⟩])
  (.seq (.ops none [⟨some 6, .load true 5 (.t 2), none⟩,
    ⟨some 7, .mv (.t 1), none⟩,
    ⟨some 8, .bslice 1 1 [.int .i64 0] [(0, (.t 7))], none⟩,
    ⟨some 9, .call 55 false [] [(.t 6), (.t 8)], none⟩,
    ⟨some 10, .ext (.t 9) 0, none⟩,
    ⟨some 11, .ext (.t 9) 1, none⟩,
    ⟨none, .store 5 (.t 4) (.t 10), none⟩,
    ⟨some 5, .mv (.t 11), none⟩])
   .ret))⟩
theorem cop58 : copF Try.prog raws [] 58 = some ir58 := by kernel_rfl
/-- tenterhook/tenterhookref13.Back -/
def ir59 : F := ⟨22, [.cell 2 true 5, .t 3, .t 4],
 (.seq (.ops none [⟨some 1, .box (.t 0), none⟩,
   ⟨some 2, .alloc [.nil, .nil, .int .i64 0, .int .i64 0, .int .i64 0], none⟩,
   ⟨some 3, .mv (.c (.int .i64 0)), none⟩,
   ⟨some 4, .mv (.c (.int .i64 0)), none⟩])
  (.seq (.ops none [⟨some 9, .load true 5 (.t 1), none⟩,
    ⟨some 10, .call 56 false [] [(.t 9), (.c (.int .i64 1))], none⟩,
    ⟨some 8, .mv (.t 10), none⟩,
    ⟨some 11, .ext (.t 8) 0, none⟩,
    ⟨some 12, .ext (.t 8) 1, none⟩,
    ⟨some 13, .ext (.t 8) 2, none⟩,
    ⟨some 5, .alloc [.nil, .nil, .int .i64 0, .int .i64 0, .int .i64 0], none⟩,
    ⟨none, .store 5 (.t 5) (.t 11), none⟩,
    ⟨some 6, .mv (.t 12), none⟩,
    ⟨some 7, .mv (.t 13), none⟩])
   (.seq (.seq (.ops none [⟨some 14, .mv (.t 7), none⟩,
      ⟨some 15, .bin .neq (.t 14) (.c (.int .i64 0)), none⟩])
     (.cond (.t 15)
      (.seq (.ops none [⟨some 16, .load true 5 (.t 5), none⟩,
        ⟨some 17, .mv (.t 7), none⟩,
        ⟨none, .store 5 (.t 2) (.t 16), none⟩,
        ⟨some 3, .mv (.c (.int .i64 0)), none⟩,
        ⟨some 4, .mv (.t 17), none⟩])
       .ret)
      .skip))
    (.seq (.ops (some [(3, 4)]) [⟨some 18, .load true 5 (.t 5), none⟩,
      ⟨some 19, .mv (.t 6), none⟩,
      ⟨some 20, .iaddr 1 (.t 19) (.c (.int .i64 0)), none⟩,
      ⟨some 21, .load false 1 (.t 20), none⟩,
      ⟨none, .store 5 (.t 2) (.t 18), none⟩,
      ⟨some 3, .mv (.t 21), none⟩,
      ⟨some 4, .mv (.c (.int .i64 0)), none⟩])
     .ret))))⟩
theorem cop59 : copF Try.prog raws [] 59 = some ir59 := by kernel_rfl
/-- tenterhook/tenterhookref13.Catch -/
def ir60 : F := ⟨48, [.cell 4 true 5, .t 5],
 (.seq (.ops none [⟨some 2, .box (.t 0), none⟩,
   ⟨some 4, .alloc [.nil, .nil, .int .i64 0, .int .i64 0, .int .i64 0], none⟩,
   ⟨some 5, .mv (.c (.int .i64 0)), none⟩])
  (.seq (.ops none [⟨some 10, .load true 5 (.t 2), none⟩,
    ⟨some 11, .call 47 false [] [(.t 10)], none⟩,
    ⟨none, .store 5 (.t 2) (.t 11), none⟩])
   (.seq (.ops none [⟨some 13, .mv (.t 1), none⟩,
     ⟨some 14, .call 48 true [] [(.t 13)], none⟩,
     ⟨some 12, .mv (.t 14), none⟩,
     ⟨some 15, .ext (.t 12) 0, none⟩,
     ⟨some 16, .ext (.t 12) 1, none⟩,
     ⟨some 6, .alloc [.int .i64 0, .int .i64 0], none⟩,
     ⟨none, .store 2 (.t 6) (.t 15), none⟩,
     ⟨some 7, .mv (.t 16), none⟩])
    (.seq (.seq (.ops none [⟨some 17, .mv (.t 7), none⟩,
       ⟨some 18, .un .not (.t 17), none⟩])
      (.cond (.t 18)
       (.seq (.ops none [⟨some 19, .load true 5 (.t 2), none⟩,
         ⟨none, .store 5 (.t 4) (.t 19), none⟩,
         ⟨some 5, .mv (.c (.int .i64 (-9))), none⟩])
        .ret)
       .skip))
     (.seq (.ops (some [(0, 9), (0, 14), (2, 14), (4, 14), (7, 14), (8, 14), (9, 14), (10, 14)]) [⟨some 21, .load true 5 (.t 2), none⟩,
       ⟨some 22, .faddr 4 (.t 2), none⟩,
       ⟨some 23, .load false 1 (.t 22), none⟩,
       ⟨some 24, .faddr 0 (.t 2), none⟩,
       ⟨some 25, .load false 1 (.t 24), none⟩,
       ⟨some 26, .len false (.t 25), none⟩,
       ⟨some 27, .faddr 2 (.t 2), none⟩,
       ⟨some 28, .load true 2 (.t 27), none⟩,
       ⟨some 29, .call 50 true [] [(.t 28)], none⟩,
       ⟨some 30, .bslice 1 4 [.int .i64 0] [(0, (.t 23)), (1, (.t 26)), (2, (.t 29)), (3, (.c (.int .i64 (-1))))], none⟩,
       ⟨some 31, .call 55 false [] [(.t 21), (.t 30)], none⟩,
       ⟨some 20, .mv (.t 31), none⟩,
       ⟨some 32, .ext (.t 20) 0, none⟩,
       ⟨some 33, .ext (.t 20) 1, none⟩,
       ⟨some 8, .alloc [.nil, .nil, .int .i64 0, .int .i64 0, .int .i64 0], none⟩,
       ⟨none, .store 5 (.t 8) (.t 32), none⟩,
       ⟨some 9, .mv (.t 33), none⟩])
      (.seq (.seq (.ops none [⟨some 34, .mv (.t 9), none⟩,
         ⟨some 35, .bin .neq (.t 34) (.c (.int .i64 0)), none⟩])
        (.cond (.t 35)
         (.seq (.ops none [⟨some 36, .load true 5 (.t 2), none⟩,
           ⟨some 37, .mv (.t 9), none⟩,
           ⟨none, .store 5 (.t 4) (.t 36), none⟩,
           ⟨some 5, .mv (.t 37), none⟩])
          .ret)
         .skip))
       (.seq (.ops none [⟨some 38, .faddr 0 (.t 8), none⟩,
         ⟨some 39, .load false 1 (.t 38), none⟩,
         ⟨some 40, .faddr 1 (.t 8), none⟩,
         ⟨some 41, .load false 1 (.t 40), none⟩,
         ⟨some 42, .load true 2 (.t 6), none⟩,
         ⟨some 43, .faddr 1 (.t 8), none⟩,
         ⟨some 44, .load false 1 (.t 43), none⟩,
         ⟨some 45, .len false (.t 44), none⟩,
         ⟨some 46, .bin .sub (.t 45) (.c (.int .i64 1)), none⟩,
         ⟨some 47, .build [.nil, .nil, .int .i64 0, .int .i64 0, .int .i64 0] [(0, 1, (.t 39)), (1, 1, (.t 41)), (2, 2, (.t 42)), (4, 1, (.t 46))], none⟩,
         ⟨none, .store 5 (.t 4) (.t 47), none⟩,
         ⟨some 5, .mv (.c (.int .i64 0)), none⟩])
        .ret)))))))⟩
theorem cop60 : copF Try.prog raws [] 60 = some ir60 := by kernel_rfl
/-- tenterhook/tenterhookref13.Throw -/
def ir61 : F := ⟨67, [.cell 4 true 5, .t 5],
 (.seq (.ops none [⟨some 2, .box (.t 0), none⟩,
   ⟨some 4, .alloc [.nil, .nil, .int .i64 0, .int .i64 0, .int .i64 0], none⟩,
   ⟨some 5, .mv (.c (.bool false)), none⟩])
  (.seq (.ops none [⟨some 10, .load true 5 (.t 2), none⟩,
    ⟨some 11, .call 47 false [] [(.t 10)], none⟩,
    ⟨none, .store 5 (.t 2) (.t 11), none⟩])
   (.seq (.seq (.ops none [⟨some 12, .faddr 4 (.t 2), none⟩,
      ⟨some 13, .load false 1 (.t 12), none⟩,
      ⟨some 14, .bin .eql (.t 13) (.c (.int .i64 0)), none⟩])
     (.cond (.t 14)
      (.seq (.ops none [⟨some 15, .load true 5 (.t 2), none⟩,
        ⟨none, .store 5 (.t 4) (.t 15), none⟩,
        ⟨some 5, .mv (.c (.bool false)), none⟩])
       .ret)
      .skip))
    (.seq (.ops none [⟨some 16, .faddr 4 (.t 2), none⟩,
      ⟨some 17, .load false 1 (.t 16), none⟩,
      ⟨some 18, .bin .sub (.t 17) (.c (.int .i64 3)), none⟩,
      ⟨some 6, .mv (.t 18), none⟩])
     (.seq (.ops none [⟨some 20, .faddr 1 (.t 2), none⟩,
       ⟨some 21, .load false 1 (.t 20), none⟩,
       ⟨some 22, .mv (.t 6), none⟩,
       ⟨some 23, .bin .add (.t 22) (.c (.int .i64 2)), none⟩,
       ⟨some 24, .iaddr 1 (.t 21) (.t 23), none⟩,
       ⟨some 25, .load false 1 (.t 24), none⟩,
       ⟨some 26, .call 48 true [] [(.t 25)], none⟩,
       ⟨some 19, .mv (.t 26), none⟩,
       ⟨some 27, .ext (.t 19) 0, none⟩,
       ⟨some 28, .ext (.t 19) 1, none⟩,
       ⟨some 7, .alloc [.int .i64 0, .int .i64 0], none⟩,
       ⟨none, .store 2 (.t 7) (.t 27), none⟩,
       ⟨some 8, .mv (.t 28), none⟩])
      (.seq (.seq (.ops none [⟨some 29, .mv (.t 8), none⟩,
         ⟨some 30, .un .not (.t 29), none⟩])
        (.cond (.t 30)
         (.seq (.ops none [⟨some 31, .faddr 0 (.t 2), none⟩,
           ⟨some 32, .load false 1 (.t 31), none⟩,
           ⟨some 33, .faddr 2 (.t 2), none⟩,
           ⟨some 34, .load true 2 (.t 33), none⟩,
           ⟨some 35, .build [.nil, .nil, .int .i64 0, .int .i64 0, .int .i64 0] [(0, 1, (.t 32)), (1, 1, (.c (.nil))), (2, 2, (.t 34)), (4, 1, (.c (.int .i64 0)))], none⟩,
           ⟨none, .store 5 (.t 4) (.t 35), none⟩,
           ⟨some 5, .mv (.c (.bool false)), none⟩])
          .ret)
         .skip))
       (.seq (.ops (some []) [⟨some 36, .faddr 0 (.t 2), none⟩,
         ⟨some 37, .load false 1 (.t 36), none⟩,
         ⟨some 38, .faddr 1 (.t 2), none⟩,
         ⟨some 39, .load false 1 (.t 38), none⟩,
         ⟨some 40, .mv (.t 6), none⟩,
         ⟨some 41, .bin .add (.t 40) (.c (.int .i64 1)), none⟩,
         ⟨some 42, .iaddr 1 (.t 39) (.t 41), none⟩,
         ⟨some 43, .load false 1 (.t 42), none⟩,
         ⟨some 44, .minmax false [(.t 43), (.c (.int .i64 63))], none⟩,
         ⟨some 45, .minmax true [(.c (.int .i64 0)), (.t 44)], none⟩,
         ⟨some 46, .call 66 false [] [(.t 37), (.t 45)], none⟩,
         ⟨some 9, .mv (.t 46), none⟩])
        (.seq (.ops none [⟨some 47, .mv (.t 9), none⟩,
          ⟨some 48, .mv (.t 1), none⟩,
          ⟨some 49, .bslice 1 1 [.int .i64 0] [(0, (.t 48))], none⟩,
          ⟨some 50, .append 1 (.t 47) (.t 49), none⟩,
          ⟨some 9, .mv (.t 50), none⟩])
         (.seq (.ops (some [(1, 3), (1, 7), (6, 7), (1, 9), (6, 9), (1, 12), (6, 12)]) [⟨some 51, .mv (.t 9), none⟩,
           ⟨some 52, .bslice 1 0 [.int .i64 0] [], none⟩,
           ⟨some 53, .faddr 1 (.t 2), none⟩,
           ⟨some 54, .load false 1 (.t 53), none⟩,
           ⟨some 55, .mv (.t 6), none⟩,
           ⟨some 56, .slice false 1 (.t 54) none (some (.t 55)) none, none⟩,
           ⟨some 57, .append 1 (.t 52) (.t 56), none⟩,
           ⟨some 58, .load true 2 (.t 7), none⟩,
           ⟨some 59, .faddr 1 (.t 2), none⟩,
           ⟨some 60, .load false 1 (.t 59), none⟩,
           ⟨some 61, .mv (.t 6), none⟩,
           ⟨some 62, .iaddr 1 (.t 60) (.t 61), none⟩,
           ⟨some 63, .load false 1 (.t 62), none⟩,
           ⟨some 64, .mv (.t 6), none⟩,
           ⟨some 65, .call 53 true [] [(.t 63), (.t 64)], none⟩,
           ⟨some 66, .build [.nil, .nil, .int .i64 0, .int .i64 0, .int .i64 0] [(0, 1, (.t 51)), (1, 1, (.t 57)), (2, 2, (.t 58)), (4, 1, (.t 65))], none⟩,
           ⟨none, .store 5 (.t 4) (.t 66), none⟩,
           ⟨some 5, .mv (.c (.bool true)), none⟩])
          .ret)))))))))⟩
theorem cop61 : copF Try.prog raws [] 61 = some ir61 := by kernel_rfl
/-- tenterhook/stk.Push -/
def ir62 : F := ⟨20, [.t 6, .t 7],
 (.seq (.ops none [⟨some 6, .mv (.c (.nil)), none⟩,
   ⟨some 7, .mv (.c (.int .i64 0)), none⟩])
  (.seq (.seq (.ops none [⟨some 8, .mv (.t 0), none⟩,
     ⟨some 9, .len false (.t 8), none⟩,
     ⟨some 10, .mv (.t 2), none⟩,
     ⟨some 11, .len false (.t 10), none⟩,
     ⟨some 12, .bin .add (.t 9) (.t 11), none⟩,
     ⟨some 13, .mv (.t 1), none⟩,
     ⟨some 14, .bin .gtr (.t 12) (.t 13), none⟩])
    (.cond (.t 14)
     (.seq (.ops none [⟨some 15, .mv (.t 0), none⟩,
       ⟨some 6, .mv (.t 15), none⟩,
       ⟨some 7, .mv (.c (.int .i64 (-3))), none⟩])
      .ret)
     .skip))
   (.seq (.ops none [⟨some 16, .mv (.t 0), none⟩,
     ⟨some 17, .mv (.t 2), none⟩,
     ⟨some 18, .bslice 1 2 [.nil] [(0, (.t 16)), (1, (.t 17))], none⟩,
     ⟨some 19, .call 67 false [] [(.t 18)], none⟩,
     ⟨some 6, .mv (.t 19), none⟩,
     ⟨some 7, .mv (.c (.int .i64 0)), none⟩])
    .ret)))⟩
theorem cop62 : copF Try.prog raws [] 62 = some ir62 := by kernel_rfl
/-- tenterhook/stk.Pop -/
def ir63 : F := ⟨30, [.t 4, .t 5, .t 6],
 (.seq (.ops none [⟨some 4, .mv (.c (.nil)), none⟩,
   ⟨some 5, .mv (.c (.nil)), none⟩,
   ⟨some 6, .mv (.c (.int .i64 0)), none⟩])
  (.seq (.ops none [⟨some 8, .mv (.t 0), none⟩,
    ⟨some 9, .len false (.t 8), none⟩,
    ⟨some 10, .mv (.t 1), none⟩,
    ⟨some 11, .bin .sub (.t 9) (.t 10), none⟩,
    ⟨some 7, .mv (.t 11), none⟩])
   (.seq (.seq (.ops none [⟨some 12, .mv (.t 1), none⟩,
      ⟨some 13, .bin .lss (.t 12) (.c (.int .i64 0)), none⟩,
      ⟨some 14, .mv (.t 13), none⟩,
      ⟨some 15, .mv (.t 7), some (14, false)⟩,
      ⟨some 16, .bin .lss (.t 15) (.c (.int .i64 0)), some (14, false)⟩,
      ⟨some 17, .pick (.t 14) (.c (.bool true)) (.t 16), none⟩])
     (.cond (.t 17)
      (.seq (.ops none [⟨some 18, .mv (.t 0), none⟩,
        ⟨some 4, .mv (.t 18), none⟩,
        ⟨some 5, .mv (.c (.nil)), none⟩,
        ⟨some 6, .mv (.c (.int .i64 (-4))), none⟩])
       .ret)
      .skip))
    (.seq (.ops (some []) [⟨some 19, .mv (.t 0), none⟩,
      ⟨some 20, .mv (.t 7), none⟩,
      ⟨some 21, .mv (.t 7), none⟩,
      ⟨some 22, .slice false 1 (.t 19) none (some (.t 20)) (some (.t 21)), none⟩,
      ⟨some 23, .mv (.t 0), none⟩,
      ⟨some 24, .mv (.t 7), none⟩,
      ⟨some 25, .mv (.t 0), none⟩,
      ⟨some 26, .len false (.t 25), none⟩,
      ⟨some 27, .mv (.t 0), none⟩,
      ⟨some 28, .len false (.t 27), none⟩,
      ⟨some 29, .slice false 1 (.t 23) (some (.t 24)) (some (.t 26)) (some (.t 28)), none⟩,
      ⟨some 4, .mv (.t 22), none⟩,
      ⟨some 5, .mv (.t 29), none⟩,
      ⟨some 6, .mv (.c (.int .i64 0)), none⟩])
     .ret))))⟩
theorem cop63 : copF Try.prog raws [] 63 = some ir63 := by kernel_rfl
/-- tenterhook/tenterhookref13.New -/
def ir64 : F := ⟨6, [.cell 2 true 5],
 (.seq (.ops none [⟨some 1, .box (.t 0), none⟩,
   ⟨some 2, .alloc [.nil, .nil, .int .i64 0, .int .i64 0, .int .i64 0], none⟩])
  (.seq (.ops none [⟨some 3, .bslice 1 1 [.int .i64 0] [(0, (.c (.int .i64 (-2))))], none⟩,
    ⟨some 4, .load true 2 (.t 1), none⟩,
    ⟨some 5, .build [.nil, .nil, .int .i64 0, .int .i64 0, .int .i64 0] [(1, 1, (.t 3)), (2, 2, (.t 4))], none⟩,
    ⟨none, .store 5 (.t 2) (.t 5), none⟩])
   .ret))⟩
theorem cop64 : copF Try.prog raws [] 64 = some ir64 := by kernel_rfl
/-- tenterhook/tenterhookref04.Pick -/
def ir65 : F := ⟨22, [.t 4, .t 5],
 (.seq (.ops none [⟨some 4, .mv (.c (.int .i64 0)), none⟩,
   ⟨some 5, .mv (.c (.int .i64 0)), none⟩])
  (.seq (.seq (.ops none [⟨some 6, .mv (.t 1), none⟩,
     ⟨some 7, .bin .lss (.t 6) (.c (.int .i64 0)), none⟩,
     ⟨some 8, .mv (.t 7), none⟩,
     ⟨some 9, .mv (.t 1), some (8, false)⟩,
     ⟨some 10, .mv (.t 0), some (8, false)⟩,
     ⟨some 11, .len false (.t 10), some (8, false)⟩,
     ⟨some 12, .bin .geq (.t 9) (.t 11), some (8, false)⟩,
     ⟨some 13, .pick (.t 8) (.c (.bool true)) (.t 12), none⟩])
    (.cond (.t 13)
     (.seq (.ops none [⟨some 4, .mv (.c (.int .i64 0)), none⟩,
       ⟨some 5, .mv (.c (.int .i64 (-4))), none⟩])
      .ret)
     .skip))
   (.seq (.ops none [⟨some 14, .mv (.t 0), none⟩,
     ⟨some 15, .mv (.t 0), none⟩,
     ⟨some 16, .len false (.t 15), none⟩,
     ⟨some 17, .bin .sub (.t 16) (.c (.int .i64 1)), none⟩,
     ⟨some 18, .mv (.t 1), none⟩,
     ⟨some 19, .bin .sub (.t 17) (.t 18), none⟩,
     ⟨some 20, .iaddr 1 (.t 14) (.t 19), none⟩,
     ⟨some 21, .load false 1 (.t 20), none⟩,
     ⟨some 4, .mv (.t 21), none⟩,
     ⟨some 5, .mv (.c (.int .i64 0)), none⟩])
    .ret)))⟩
theorem cop65 : copF Try.prog raws [] 65 = some ir65 := by kernel_rfl
/-- tenterhook/tenterhookref13.deep -/
def ir66 : F := ⟨27, [.t 4],
 (.seq (.ops none [⟨some 4, .mv (.c (.nil)), none⟩])
  (.seq (.ops none [⟨some 5, .mv (.c (.nil)), none⟩])
   (.seq (.seq (.ops none [⟨some 6, .mv (.c (.int .i64 0)), none⟩])
     (.block 0 (.loop [0, 1, 5, 6] [(5, none, 1)]
       (.seq (.seq (.ops none [⟨some 7, .mv (.t 6), none⟩,
          ⟨some 8, .mv (.t 1), none⟩,
          ⟨some 9, .bin .lss (.t 7) (.t 8), none⟩])
         (.cond (.t 9)
          .skip
          (.exit 0)))
        (.seq (.block 1 (.seq (.ops none [⟨some 12, .mv (.t 6), none⟩,
            ⟨some 13, .mv (.t 0), none⟩,
            ⟨some 14, .len false (.t 13), none⟩,
            ⟨some 15, .bin .lss (.t 12) (.t 14), none⟩])
           (.cond (.t 15)
            (.ops none [⟨some 16, .mv (.t 5), none⟩,
             ⟨some 17, .mv (.t 0), none⟩,
             ⟨some 18, .mv (.t 6), none⟩,
             ⟨some 19, .iaddr 1 (.t 17) (.t 18), none⟩,
             ⟨some 20, .load false 1 (.t 19), none⟩,
             ⟨some 21, .bslice 1 1 [.int .i64 0] [(0, (.t 20))], none⟩,
             ⟨some 22, .append 1 (.t 16) (.t 21), none⟩,
             ⟨some 5, .mv (.t 22), none⟩])
            (.ops none [⟨some 23, .mv (.t 5), none⟩,
             ⟨some 24, .bslice 1 1 [.int .i64 0] [(0, (.c (.int .i64 0)))], none⟩,
             ⟨some 25, .append 1 (.t 23) (.t 24), none⟩,
             ⟨some 5, .mv (.t 25), none⟩]))))
         (.ops none [⟨some 10, .mv (.t 6), none⟩,
          ⟨some 11, .bin .add (.t 10) (.c (.int .i64 1)), none⟩,
          ⟨some 6, .mv (.t 11), none⟩]))))))
    (.seq (.ops none [⟨some 26, .mv (.t 5), none⟩,
      ⟨some 4, .mv (.t 26), none⟩])
     .ret))))⟩
theorem cop66 : copF Try.prog raws [([0, 1, 5, 6], [(5, none, 1)])] 66 = some ir66 := by kernel_rfl
/-- slices.Concat[[]int,int] -/
def ir67 : F := ⟨36, [.t 2],
 (.seq (.ops none [⟨some 2, .mv (.c (.nil)), none⟩])
  (.seq (.ops none [⟨some 3, .mv (.c (.int .i64 0)), none⟩])
   (.seq (.seq (.ops none [⟨some 9, .mv (.t 0), none⟩,
      ⟨some 10, .len false (.t 9), none⟩,
      ⟨some 11, .mv (.c (.int .i64 0)), none⟩])
     (.block 0 (.loop [0, 3, 9, 10, 11] []
       (.seq (.ops none [⟨some 12, .bin .lss (.t 11) (.t 10), none⟩])
        (.seq (.cond (.t 12)
          .skip
          (.exit 0))
         (.seq (.block 1 (.seq (.ops none [⟨some 13, .iaddr 1 (.t 9) (.t 11), none⟩,
             ⟨some 14, .load false 1 (.t 13), none⟩,
             ⟨some 5, .mv (.t 14), none⟩])
            (.seq (.ops none [⟨some 15, .mv (.t 3), none⟩,
              ⟨some 16, .mv (.t 5), none⟩,
              ⟨some 17, .len false (.t 16), none⟩,
              ⟨some 18, .bin .add (.t 15) (.t 17), none⟩,
              ⟨some 3, .mv (.t 18), none⟩])
             (.seq (.ops none [⟨some 19, .mv (.t 3), none⟩,
               ⟨some 20, .bin .lss (.t 19) (.c (.int .i64 0)), none⟩])
              (.cond (.t 20)
               (.ops none [⟨some 21, .no, none⟩,
                ⟨none, .no, none⟩])
               .skip)))))
          (.ops none [⟨some 22, .bin .add (.t 11) (.c (.int .i64 1)), none⟩,
           ⟨some 11, .mv (.t 22), none⟩])))))))
    (.seq (.ops none [⟨some 23, .mv (.t 3), none⟩,
      ⟨some 24, .call 68 false [] [(.c (.nil)), (.t 23)], none⟩,
      ⟨some 6, .mv (.t 24), none⟩])
     (.seq (.seq (.ops none [⟨some 25, .mv (.t 0), none⟩,
        ⟨some 26, .len false (.t 25), none⟩,
        ⟨some 27, .mv (.c (.int .i64 0)), none⟩])
       (.block 2 (.loop [6, 25, 26, 27] [(6, none, 1)]
         (.seq (.ops none [⟨some 28, .bin .lss (.t 27) (.t 26), none⟩])
          (.seq (.cond (.t 28)
            .skip
            (.exit 2))
           (.seq (.block 3 (.seq (.ops none [⟨some 29, .iaddr 1 (.t 25) (.t 27), none⟩,
               ⟨some 30, .load false 1 (.t 29), none⟩,
               ⟨some 8, .mv (.t 30), none⟩])
              (.ops none [⟨some 31, .mv (.t 6), none⟩,
               ⟨some 32, .mv (.t 8), none⟩,
               ⟨some 33, .append 1 (.t 31) (.t 32), none⟩,
               ⟨some 6, .mv (.t 33), none⟩])))
            (.ops none [⟨some 34, .bin .add (.t 27) (.c (.int .i64 1)), none⟩,
             ⟨some 27, .mv (.t 34), none⟩])))))))
      (.seq (.ops none [⟨some 35, .mv (.t 6), none⟩,
        ⟨some 2, .mv (.t 35), none⟩])
       .ret))))))⟩
theorem cop67 : copF Try.prog raws [([0, 3, 9, 10, 11], []), ([6, 25, 26, 27], [(6, none, 1)])] 67 = some ir67 := by kernel_rfl
/-- slices.Grow[[]int,int] -/
def ir68 : F := ⟨27, [.t 4],
 (.seq (.ops none [⟨some 4, .mv (.c (.nil)), none⟩])
  (.seq (.seq (.ops none [⟨some 5, .mv (.t 1), none⟩,
     ⟨some 6, .bin .lss (.t 5) (.c (.int .i64 0)), none⟩])
    (.cond (.t 6)
     (.ops none [⟨some 7, .no, none⟩,
      ⟨none, .no, none⟩])
     .skip))
   (.seq (.seq (.ops none [⟨some 8, .mv (.t 1), none⟩,
      ⟨some 9, .mv (.t 0), none⟩,
      ⟨some 10, .cap (.t 9), none⟩,
      ⟨some 11, .mv (.t 0), none⟩,
      ⟨some 12, .len false (.t 11), none⟩,
      ⟨some 13, .bin .sub (.t 10) (.t 12), none⟩,
      ⟨some 14, .bin .sub (.t 8) (.t 13), none⟩,
      ⟨some 1, .mv (.t 14), none⟩])
     (.seq (.ops none [⟨some 15, .mv (.t 1), none⟩,
       ⟨some 16, .bin .gtr (.t 15) (.c (.int .i64 0)), none⟩])
      (.cond (.t 16)
       (.ops none [⟨some 17, .mv (.t 0), none⟩,
        ⟨some 18, .mv (.t 0), none⟩,
        ⟨some 19, .cap (.t 18), none⟩,
        ⟨some 20, .slice false 1 (.t 17) none (some (.t 19)) none, none⟩,
        ⟨some 21, .mv (.t 1), none⟩,
        ⟨some 22, .appmk 1 [.int .i64 0] (.t 20) (.t 21), none⟩,
        ⟨some 23, .mv (.t 0), none⟩,
        ⟨some 24, .len false (.t 23), none⟩,
        ⟨some 25, .slice false 1 (.t 22) none (some (.t 24)) none, none⟩,
        ⟨some 0, .mv (.t 25), none⟩])
       .skip)))
    (.seq (.ops none [⟨some 26, .mv (.t 0), none⟩,
      ⟨some 4, .mv (.t 26), none⟩])
     .ret))))⟩
theorem cop68 : copF Try.prog raws [] 68 = some ir68 := by kernel_rfl
def tab : List (Nat × Def) := [(3, .pub ir3), (4, .pub ir4), (5, .pub ir5), (6, .pub ir6), (7, .pub ir7), (8, .pub ir8), (9, .pub ir9), (10, .pub ir10), (11, .pub ir11), (12, .pub ir12), (13, .pub ir13), (14, .pub ir14), (15, .pub ir15), (16, .pub ir16), (17, .pub ir17), (18, .pub ir18), (19, .pub ir19), (20, .pub ir20), (21, .pub ir21), (22, .pub ir22), (23, .pub ir23), (24, .pub ir24), (25, .pub ir25), (26, .pub ir26), (27, .pub ir27), (28, .pub ir28), (29, .pub ir29), (30, .pub ir30), (31, .pub ir31), (32, .pub ir32), (33, .pub ir33), (34, .pub ir34), (35, .pub ir35), (36, .pub ir36), (37, .pub ir37), (38, .pub ir38), (39, .pub ir39), (40, .pub ir40), (41, .pub ir41), (42, .pub ir42), (43, .pub ir43), (44, .body ir44), (45, .pub ir45), (46, .body ir46), (47, .pub ir47), (48, .pub ir48), (49, .pub ir49), (50, .pub ir50), (51, .pub ir51), (52, .pub ir52), (53, .pub ir53), (54, .pub ir54), (55, .pub ir55), (56, .pub ir56), (57, .pub ir57), (58, .pub ir58), (59, .pub ir59), (60, .pub ir60), (61, .pub ir61), (62, .pub ir62), (63, .pub ir63), (64, .pub ir64), (65, .pub ir65), (66, .body ir66), (67, .body ir67), (68, .body ir68)]
def env0 : Env := fun f => tab.lookup f
theorem env0Ok : EnvOk Try.prog raws env0 := envOk_of (tab := tab) (by
  unfold tab
  exact List.forall_mem_cons.2 ⟨⟨_, cop3⟩, List.forall_mem_cons.2 ⟨⟨_, cop4⟩, List.forall_mem_cons.2 ⟨⟨_, cop5⟩, List.forall_mem_cons.2 ⟨⟨_, cop6⟩, List.forall_mem_cons.2 ⟨⟨_, cop7⟩, List.forall_mem_cons.2 ⟨⟨_, cop8⟩, List.forall_mem_cons.2 ⟨⟨_, cop9⟩, List.forall_mem_cons.2 ⟨⟨_, cop10⟩, List.forall_mem_cons.2 ⟨⟨_, cop11⟩, List.forall_mem_cons.2 ⟨⟨_, cop12⟩, List.forall_mem_cons.2 ⟨⟨_, cop13⟩, List.forall_mem_cons.2 ⟨⟨_, cop14⟩, List.forall_mem_cons.2 ⟨⟨_, cop15⟩, List.forall_mem_cons.2 ⟨⟨_, cop16⟩, List.forall_mem_cons.2 ⟨⟨_, cop17⟩, List.forall_mem_cons.2 ⟨⟨_, cop18⟩, List.forall_mem_cons.2 ⟨⟨_, cop19⟩, List.forall_mem_cons.2 ⟨⟨_, cop20⟩, List.forall_mem_cons.2 ⟨⟨_, cop21⟩, List.forall_mem_cons.2 ⟨⟨_, cop22⟩, List.forall_mem_cons.2 ⟨⟨_, cop23⟩, List.forall_mem_cons.2 ⟨⟨_, cop24⟩, List.forall_mem_cons.2 ⟨⟨_, cop25⟩, List.forall_mem_cons.2 ⟨⟨_, cop26⟩, List.forall_mem_cons.2 ⟨⟨_, cop27⟩, List.forall_mem_cons.2 ⟨⟨_, cop28⟩, List.forall_mem_cons.2 ⟨⟨_, cop29⟩, List.forall_mem_cons.2 ⟨⟨_, cop30⟩, List.forall_mem_cons.2 ⟨⟨_, cop31⟩, List.forall_mem_cons.2 ⟨⟨_, cop32⟩, List.forall_mem_cons.2 ⟨⟨_, cop33⟩, List.forall_mem_cons.2 ⟨⟨_, cop34⟩, List.forall_mem_cons.2 ⟨⟨_, cop35⟩, List.forall_mem_cons.2 ⟨⟨_, cop36⟩, List.forall_mem_cons.2 ⟨⟨_, cop37⟩, List.forall_mem_cons.2 ⟨⟨_, cop38⟩, List.forall_mem_cons.2 ⟨⟨_, cop39⟩, List.forall_mem_cons.2 ⟨⟨_, cop40⟩, List.forall_mem_cons.2 ⟨⟨_, cop41⟩, List.forall_mem_cons.2 ⟨⟨_, cop42⟩, List.forall_mem_cons.2 ⟨⟨_, cop43⟩, List.forall_mem_cons.2 ⟨⟨_, cop44⟩, List.forall_mem_cons.2 ⟨⟨_, cop45⟩, List.forall_mem_cons.2 ⟨⟨_, cop46⟩, List.forall_mem_cons.2 ⟨⟨_, cop47⟩, List.forall_mem_cons.2 ⟨⟨_, cop48⟩, List.forall_mem_cons.2 ⟨⟨_, cop49⟩, List.forall_mem_cons.2 ⟨⟨_, cop50⟩, List.forall_mem_cons.2 ⟨⟨_, cop51⟩, List.forall_mem_cons.2 ⟨⟨_, cop52⟩, List.forall_mem_cons.2 ⟨⟨_, cop53⟩, List.forall_mem_cons.2 ⟨⟨_, cop54⟩, List.forall_mem_cons.2 ⟨⟨_, cop55⟩, List.forall_mem_cons.2 ⟨⟨_, cop56⟩, List.forall_mem_cons.2 ⟨⟨_, cop57⟩, List.forall_mem_cons.2 ⟨⟨_, cop58⟩, List.forall_mem_cons.2 ⟨⟨_, cop59⟩, List.forall_mem_cons.2 ⟨⟨_, cop60⟩, List.forall_mem_cons.2 ⟨⟨_, cop61⟩, List.forall_mem_cons.2 ⟨⟨_, cop62⟩, List.forall_mem_cons.2 ⟨⟨_, cop63⟩, List.forall_mem_cons.2 ⟨⟨_, cop64⟩, List.forall_mem_cons.2 ⟨⟨_, cop65⟩, List.forall_mem_cons.2 ⟨⟨_, cop66⟩, List.forall_mem_cons.2 ⟨⟨_, cop67⟩, List.forall_mem_cons.2 ⟨⟨_, cop68⟩, List.forall_mem_nil _⟩⟩⟩⟩⟩⟩⟩⟩⟩⟩⟩⟩⟩⟩⟩⟩⟩⟩⟩⟩⟩⟩⟩⟩⟩⟩⟩⟩⟩⟩⟩⟩⟩⟩⟩⟩⟩⟩⟩⟩⟩⟩⟩⟩⟩⟩⟩⟩⟩⟩⟩⟩⟩⟩⟩⟩⟩⟩⟩⟩⟩⟩⟩⟩⟩⟩)
section
open Go.RowKit
set_option maxHeartbeats 4000000
set_option maxRecDepth 100000
theorem cl46n (cap : Nat) (w : World) : Calls Try.prog 46 #[.slice none 0 cap] w (fun e w' => e = .returned (.slice none 0 0) ∧ w' = w) := by
  have heq : ∀ (n c : Nat) (W : World), (binOp .eql 22 (.slice none n c) (.slice none 0 0)).run Try.prog W = .ok (.bool true) W := fun n c W => Go.Lib.run_eql_slice_nil W 22 3 none n c 0 0 Try.underlying22
  go_enter Try.func46, Try.ntmps46
  go_wp2
  go_ret
  exact ⟨rfl, rfl⟩
theorem cl46e (a : Addr) (cap : Nat) (w : World) : Calls Try.prog 46 #[.slice (some a) 0 cap] w (fun e w' => e = .returned (.slice (some ⟨w.heap.size, 0, none⟩) 0 0) ∧ w' = w.alloc (.cells #[] 3)) := by
  have heq : ∀ (n c : Nat) (W : World), (binOp .eql 22 (.slice (some a) n c) (.slice none 0 0)).run Try.prog W = .ok (.bool false) W := fun n c W => Go.Lib.run_eql_slice_nil W 22 3 (some a) n c 0 0 Try.underlying22
  go_enter Try.func46, Try.ntmps46
  go_wp2
  go_ret
  exact ⟨rfl, rfl⟩
end
noncomputable def env : Env := fun n => if n = 46 then some (.prim (cloneG 1 (ev env0) 46)) else env0 n
theorem envOk : EnvOk Try.prog raws env := envOk_prim env0Ok ⟨Try.f46, _, Try.func46, rfl, by decide⟩ (clone_ok cl46n cl46e (ev_sound env0Ok))
theorem envP46 : env 46 = some (.prim (cloneG 1 (ev env0) 46)) := rfl
theorem envZ46 : env0 46 = some (.body ir46) := by kernel_rfl
theorem env3 : env 3 = some (.pub ir3) := by kernel_rfl
theorem env4 : env 4 = some (.pub ir4) := by kernel_rfl
theorem env5 : env 5 = some (.pub ir5) := by kernel_rfl
theorem env6 : env 6 = some (.pub ir6) := by kernel_rfl
theorem env7 : env 7 = some (.pub ir7) := by kernel_rfl
theorem env8 : env 8 = some (.pub ir8) := by kernel_rfl
theorem env9 : env 9 = some (.pub ir9) := by kernel_rfl
theorem env10 : env 10 = some (.pub ir10) := by kernel_rfl
theorem env11 : env 11 = some (.pub ir11) := by kernel_rfl
theorem env12 : env 12 = some (.pub ir12) := by kernel_rfl
theorem env13 : env 13 = some (.pub ir13) := by kernel_rfl
theorem env14 : env 14 = some (.pub ir14) := by kernel_rfl
theorem env15 : env 15 = some (.pub ir15) := by kernel_rfl
theorem env16 : env 16 = some (.pub ir16) := by kernel_rfl
theorem env17 : env 17 = some (.pub ir17) := by kernel_rfl
theorem env18 : env 18 = some (.pub ir18) := by kernel_rfl
theorem env19 : env 19 = some (.pub ir19) := by kernel_rfl
theorem env20 : env 20 = some (.pub ir20) := by kernel_rfl
theorem env21 : env 21 = some (.pub ir21) := by kernel_rfl
theorem env22 : env 22 = some (.pub ir22) := by kernel_rfl
theorem env23 : env 23 = some (.pub ir23) := by kernel_rfl
theorem env24 : env 24 = some (.pub ir24) := by kernel_rfl
theorem env25 : env 25 = some (.pub ir25) := by kernel_rfl
theorem env26 : env 26 = some (.pub ir26) := by kernel_rfl
theorem env27 : env 27 = some (.pub ir27) := by kernel_rfl
theorem env28 : env 28 = some (.pub ir28) := by kernel_rfl
theorem env29 : env 29 = some (.pub ir29) := by kernel_rfl
theorem env30 : env 30 = some (.pub ir30) := by kernel_rfl
theorem env31 : env 31 = some (.pub ir31) := by kernel_rfl
theorem env32 : env 32 = some (.pub ir32) := by kernel_rfl
theorem env33 : env 33 = some (.pub ir33) := by kernel_rfl
theorem env34 : env 34 = some (.pub ir34) := by kernel_rfl
theorem env35 : env 35 = some (.pub ir35) := by kernel_rfl
theorem env36 : env 36 = some (.pub ir36) := by kernel_rfl
theorem env37 : env 37 = some (.pub ir37) := by kernel_rfl
theorem env38 : env 38 = some (.pub ir38) := by kernel_rfl
theorem env39 : env 39 = some (.pub ir39) := by kernel_rfl
theorem env40 : env 40 = some (.pub ir40) := by kernel_rfl
theorem env41 : env 41 = some (.pub ir41) := by kernel_rfl
theorem env42 : env 42 = some (.pub ir42) := by kernel_rfl
theorem env43 : env 43 = some (.pub ir43) := by kernel_rfl
theorem env44 : env 44 = some (.body ir44) := by kernel_rfl
theorem env45 : env 45 = some (.pub ir45) := by kernel_rfl
theorem env47 : env 47 = some (.pub ir47) := by kernel_rfl
theorem env48 : env 48 = some (.pub ir48) := by kernel_rfl
theorem env49 : env 49 = some (.pub ir49) := by kernel_rfl
theorem env50 : env 50 = some (.pub ir50) := by kernel_rfl
theorem env51 : env 51 = some (.pub ir51) := by kernel_rfl
theorem env52 : env 52 = some (.pub ir52) := by kernel_rfl
theorem env53 : env 53 = some (.pub ir53) := by kernel_rfl
theorem env54 : env 54 = some (.pub ir54) := by kernel_rfl
theorem env55 : env 55 = some (.pub ir55) := by kernel_rfl
theorem env56 : env 56 = some (.pub ir56) := by kernel_rfl
theorem env57 : env 57 = some (.pub ir57) := by kernel_rfl
theorem env58 : env 58 = some (.pub ir58) := by kernel_rfl
theorem env59 : env 59 = some (.pub ir59) := by kernel_rfl
theorem env60 : env 60 = some (.pub ir60) := by kernel_rfl
theorem env61 : env 61 = some (.pub ir61) := by kernel_rfl
theorem env62 : env 62 = some (.pub ir62) := by kernel_rfl
theorem env63 : env 63 = some (.pub ir63) := by kernel_rfl
theorem env64 : env 64 = some (.pub ir64) := by kernel_rfl
theorem env65 : env 65 = some (.pub ir65) := by kernel_rfl
theorem env66 : env 66 = some (.body ir66) := by kernel_rfl
theorem env67 : env 67 = some (.body ir67) := by kernel_rfl
theorem env68 : env 68 = some (.body ir68) := by kernel_rfl
end Go.Proofs.YtklanpanmndakaaR
