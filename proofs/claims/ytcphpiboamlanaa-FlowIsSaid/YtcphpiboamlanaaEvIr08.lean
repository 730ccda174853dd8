/- EvIr08: a part of the proof. -/
import Derived.Test.YtcphpiboamlanaaEv5
import Derived.Test.YtcphpiboamlanaaEv6
import Derived.Test.YtcphpiboamlanaaEvCln2
import Derived.Test.YtcphpiboamlanaaEvOwn
import Derived.WalkKit
import Derived.WalkSpells
import Derived.Test.YtcphpiboamlanaaRows
import Derived.KernelRfl
set_option linter.unusedVariables false
set_option linter.unusedSimpArgs false
set_option maxRecDepth 20000
namespace Go.Proofs.YtcphpiboamlanaaR
open Go Go.Proofs.YtcphpiboamlanaaEv Go.Proofs
def raws : Nat → List Bool := fun f => ([(27, [true, false]), (28, [true, false]), (34, [false]), (47, [true]), (48, [true]), (49, [true]), (50, [true]), (51, [true]), (52, [true]), (53, [true]), (54, [true]), (55, [true]), (56, [true]), (57, [true]), (58, [true]), (59, [true]), (63, [true, true]), (69, [true, false, false, false]), (70, [false, false, false]), (71, [true, false]), (72, [true, false]), (73, [true, false, false]), (74, [true, false, false]), (75, [true, false]), (76, [true, false]), (78, [true, false])] : List (Nat × List Bool)).lookup f |>.getD []
/-- tenterhook/tenterhooklaw08.FlowPairs -/
def ir3 : F := ⟨126, [.t 2],
 (.seq (.ops none [⟨some 2, .mv (.c (.bool false)), none⟩])
  (.seq (.ops none [⟨some 25, .call 9 true [] [], none⟩,
    ⟨some 3, .mv (.t 25), none⟩])
   (.seq (.seq (.ops none [⟨some 26, .mv (.t 0), none⟩,
      ⟨some 27, .len false (.t 26), none⟩,
      ⟨some 28, .bin .gtr (.t 27) (.c (.int .i64 20)), none⟩])
     (.cond (.t 28)
      (.seq (.ops none [⟨some 29, .mv (.t 3), none⟩,
        ⟨some 2, .mv (.t 29), none⟩])
       .ret)
      .skip))
    (.seq (.ops none [⟨some 30, .bslice 1 6 [.str ⟨#[]⟩] [(0, (.c (.str ⟨#[105, 102]⟩))), (1, (.c (.str ⟨#[98, 101, 103, 105, 110]⟩))), (2, (.c (.str ⟨#[100, 111]⟩))), (3, (.c (.str ⟨#[63, 100, 111]⟩))), (4, (.c (.str ⟨#[98, 101, 103, 105, 110]⟩))), (5, (.c (.str ⟨#[105, 102]⟩)))], none⟩,
      ⟨some 4, .mv (.t 30), none⟩])
     (.seq (.ops none [⟨some 31, .bslice 1 6 [.str ⟨#[]⟩] [(0, (.c (.str ⟨#[101, 108, 115, 101]⟩))), (1, (.c (.str ⟨#[]⟩))), (2, (.c (.str ⟨#[108, 101, 97, 118, 101]⟩))), (3, (.c (.str ⟨#[]⟩))), (4, (.c (.str ⟨#[119, 104, 105, 108, 101]⟩))), (5, (.c (.str ⟨#[]⟩)))], none⟩,
       ⟨some 5, .mv (.t 31), none⟩])
      (.seq (.ops none [⟨some 32, .bslice 1 6 [.str ⟨#[]⟩] [(0, (.c (.str ⟨#[116, 104, 101, 110]⟩))), (1, (.c (.str ⟨#[117, 110, 116, 105, 108]⟩))), (2, (.c (.str ⟨#[108, 111, 111, 112]⟩))), (3, (.c (.str ⟨#[43, 108, 111, 111, 112]⟩))), (4, (.c (.str ⟨#[114, 101, 112, 101, 97, 116]⟩))), (5, (.c (.str ⟨#[116, 104, 101, 110]⟩)))], none⟩,
        ⟨some 6, .mv (.t 32), none⟩])
       (.seq (.ops none [⟨some 33, .build [.nil, .nil, .nil] [], none⟩,
         ⟨some 7, .alloc [.nil, .nil, .nil], none⟩,
         ⟨none, .store 3 (.t 7) (.t 33), none⟩])
        (.seq (.seq (.ops none [⟨some 8, .mv (.c (.int .i64 0)), none⟩])
          (.block 0 (.loop [0, 3, 4, 5, 6, 7, 8] []
            (.seq (.seq (.ops none [⟨some 34, .mv (.t 8), none⟩,
               ⟨some 35, .mv (.t 0), none⟩,
               ⟨some 36, .len false (.t 35), none⟩,
               ⟨some 37, .bin .lss (.t 34) (.t 36), none⟩])
              (.cond (.t 37)
               .skip
               (.exit 0)))
             (.seq (.block 1 (.seq (.ops none [⟨some 40, .mv (.t 0), none⟩,
                 ⟨some 41, .mv (.t 8), none⟩,
                 ⟨some 42, .iaddr 1 (.t 40) (.t 41), none⟩,
                 ⟨some 43, .load false 1 (.t 42), none⟩,
                 ⟨some 44, .bin .and (.t 43) (.c (.int .i64 255)), none⟩,
                 ⟨some 45, .bin .rem (.t 44) (.c (.int .i64 6)), none⟩,
                 ⟨some 9, .mv (.t 45), none⟩])
                (.seq (.ops (some [(0, 10), (4, 10), (5, 10)]) [⟨some 47, .load true 3 (.t 7), none⟩,
                  ⟨some 48, .mv (.t 4), none⟩,
                  ⟨some 49, .mv (.t 9), none⟩,
                  ⟨some 50, .iaddr 1 (.t 48) (.t 49), none⟩,
                  ⟨some 51, .load false 1 (.t 50), none⟩,
                  ⟨some 52, .call 10 false [] [(.t 47), (.t 51)], none⟩,
                  ⟨some 46, .mv (.t 52), none⟩,
                  ⟨some 53, .ext (.t 46) 0, none⟩,
                  ⟨some 54, .ext (.t 46) 1, none⟩,
                  ⟨some 55, .ext (.t 46) 2, none⟩,
                  ⟨some 10, .alloc [.nil, .nil, .nil], none⟩,
                  ⟨none, .store 3 (.t 10) (.t 53), none⟩,
                  ⟨some 11, .mv (.t 54), none⟩,
                  ⟨some 12, .mv (.t 55), none⟩])
                 (.seq (.ops (some [(0, 10), (4, 10), (5, 10)]) [⟨some 57, .load true 3 (.t 10), none⟩,
                   ⟨some 58, .mv (.t 5), none⟩,
                   ⟨some 59, .mv (.t 9), none⟩,
                   ⟨some 60, .iaddr 1 (.t 58) (.t 59), none⟩,
                   ⟨some 61, .load false 1 (.t 60), none⟩,
                   ⟨some 62, .call 10 false [] [(.t 57), (.t 61)], none⟩,
                   ⟨some 56, .mv (.t 62), none⟩,
                   ⟨some 63, .ext (.t 56) 0, none⟩,
                   ⟨some 64, .ext (.t 56) 1, none⟩,
                   ⟨some 65, .ext (.t 56) 2, none⟩,
                   ⟨some 13, .alloc [.nil, .nil, .nil], none⟩,
                   ⟨none, .store 3 (.t 13) (.t 63), none⟩,
                   ⟨some 14, .mv (.t 64), none⟩,
                   ⟨some 15, .mv (.t 65), none⟩])
                  (.seq (.seq (.ops none [⟨some 66, .mv (.t 12), none⟩,
                     ⟨some 67, .bin .neq (.t 66) (.c (.int .i64 0)), none⟩,
                     ⟨some 68, .mv (.t 67), none⟩,
                     ⟨some 69, .mv (.t 15), some (68, false)⟩,
                     ⟨some 70, .bin .neq (.t 69) (.c (.int .i64 0)), some (68, false)⟩,
                     ⟨some 71, .pick (.t 68) (.c (.bool true)) (.t 70), none⟩])
                    (.cond (.t 71)
                     (.seq (.ops none [⟨some 2, .mv (.c (.bool false)), none⟩])
                      .ret)
                     .skip))
                   (.ops none [⟨some 72, .load true 3 (.t 13), none⟩,
                    ⟨none, .store 3 (.t 7) (.t 72), none⟩]))))))
              (.ops none [⟨some 38, .mv (.t 8), none⟩,
               ⟨some 39, .bin .add (.t 38) (.c (.int .i64 1)), none⟩,
               ⟨some 8, .mv (.t 39), none⟩]))))))
         (.seq (.seq (.ops none [⟨some 73, .mv (.t 0), none⟩,
            ⟨some 74, .len false (.t 73), none⟩,
            ⟨some 75, .bin .sub (.t 74) (.c (.int .i64 1)), none⟩,
            ⟨some 16, .mv (.t 75), none⟩])
           (.block 2 (.loop [0, 3, 6, 7, 16] []
             (.seq (.seq (.ops none [⟨some 76, .mv (.t 16), none⟩,
                ⟨some 77, .bin .geq (.t 76) (.c (.int .i64 0)), none⟩])
               (.cond (.t 77)
                .skip
                (.exit 2)))
              (.seq (.block 3 (.seq (.ops none [⟨some 80, .mv (.t 0), none⟩,
                  ⟨some 81, .mv (.t 16), none⟩,
                  ⟨some 82, .iaddr 1 (.t 80) (.t 81), none⟩,
                  ⟨some 83, .load false 1 (.t 82), none⟩,
                  ⟨some 84, .bin .and (.t 83) (.c (.int .i64 255)), none⟩,
                  ⟨some 85, .bin .rem (.t 84) (.c (.int .i64 6)), none⟩,
                  ⟨some 17, .mv (.t 85), none⟩])
                 (.seq (.ops none [⟨some 87, .load true 3 (.t 7), none⟩,
                   ⟨some 88, .call 11 false [] [(.t 87)], none⟩,
                   ⟨some 86, .mv (.t 88), none⟩,
                   ⟨some 89, .ext (.t 86) 0, none⟩,
                   ⟨some 90, .ext (.t 86) 1, none⟩,
                   ⟨some 18, .mv (.t 89), none⟩,
                   ⟨some 19, .mv (.t 90), none⟩])
                  (.seq (.ops (some [(0, 10), (4, 10), (5, 10)]) [⟨some 92, .load true 3 (.t 7), none⟩,
                    ⟨some 93, .mv (.t 6), none⟩,
                    ⟨some 94, .mv (.t 17), none⟩,
                    ⟨some 95, .iaddr 1 (.t 93) (.t 94), none⟩,
                    ⟨some 96, .load false 1 (.t 95), none⟩,
                    ⟨some 97, .call 10 false [] [(.t 92), (.t 96)], none⟩,
                    ⟨some 91, .mv (.t 97), none⟩,
                    ⟨some 98, .ext (.t 91) 0, none⟩,
                    ⟨some 99, .ext (.t 91) 1, none⟩,
                    ⟨some 100, .ext (.t 91) 2, none⟩,
                    ⟨some 20, .alloc [.nil, .nil, .nil], none⟩,
                    ⟨none, .store 3 (.t 20) (.t 98), none⟩,
                    ⟨some 21, .mv (.t 99), none⟩,
                    ⟨some 22, .mv (.t 100), none⟩])
                   (.seq (.seq (.ops none [⟨some 101, .mv (.t 21), none⟩,
                      ⟨some 102, .un .not (.t 101), none⟩,
                      ⟨some 103, .mv (.t 102), none⟩,
                      ⟨some 104, .mv (.t 22), some (103, false)⟩,
                      ⟨some 105, .bin .neq (.t 104) (.c (.int .i64 0)), some (103, false)⟩,
                      ⟨some 106, .pick (.t 103) (.c (.bool true)) (.t 105), none⟩,
                      ⟨some 107, .mv (.t 106), none⟩,
                      ⟨some 108, .mv (.t 19), some (107, false)⟩,
                      ⟨some 109, .bin .neq (.t 108) (.c (.int .i64 (-22))), some (107, false)⟩,
                      ⟨some 110, .pick (.t 107) (.c (.bool true)) (.t 109), none⟩])
                     (.cond (.t 110)
                      (.seq (.ops none [⟨some 2, .mv (.c (.bool false)), none⟩])
                       .ret)
                      .skip))
                    (.ops none [⟨some 111, .load true 3 (.t 20), none⟩,
                     ⟨none, .store 3 (.t 7) (.t 111), none⟩]))))))
               (.ops none [⟨some 78, .mv (.t 16), none⟩,
                ⟨some 79, .bin .sub (.t 78) (.c (.int .i64 1)), none⟩,
                ⟨some 16, .mv (.t 79), none⟩]))))))
          (.seq (.ops none [⟨some 113, .load true 3 (.t 7), none⟩,
            ⟨some 114, .call 11 false [] [(.t 113)], none⟩,
            ⟨some 112, .mv (.t 114), none⟩,
            ⟨some 115, .ext (.t 112) 0, none⟩,
            ⟨some 116, .ext (.t 112) 1, none⟩,
            ⟨some 23, .mv (.t 115), none⟩,
            ⟨some 24, .mv (.t 116), none⟩])
           (.seq (.ops none [⟨some 117, .mv (.t 3), none⟩,
             ⟨some 118, .mv (.t 117), none⟩,
             ⟨some 119, .mv (.t 24), some (118, true)⟩,
             ⟨some 120, .bin .eql (.t 119) (.c (.int .i64 0)), some (118, true)⟩,
             ⟨some 121, .pick (.t 118) (.t 120) (.c (.bool false)), none⟩,
             ⟨some 122, .mv (.t 121), none⟩,
             ⟨some 123, .mv (.t 23), some (122, true)⟩,
             ⟨some 124, .call 12 true [] [(.t 123)], some (122, true)⟩,
             ⟨some 125, .pick (.t 122) (.t 124) (.c (.bool false)), none⟩,
             ⟨some 2, .mv (.t 125), none⟩])
            .ret)))))))))))⟩
theorem cop3 : copF Try.prog raws [([0, 3, 4, 5, 6, 7, 8], []), ([0, 3, 6, 7, 16], [])] 3 = some ir3 := by kernel_rfl
/-- tenterhook/tenterhooklaw08.FlowWrong -/
def ir4 : F := ⟨137, [.t 4],
 (.seq (.ops none [⟨some 2, .box (.t 0), none⟩,
   ⟨some 4, .mv (.c (.bool false)), none⟩])
  (.seq (.ops none [⟨some 23, .call 9 true [] [], none⟩,
    ⟨some 5, .mv (.t 23), none⟩])
   (.seq (.seq (.ops none [⟨some 24, .load true 3 (.t 2), none⟩,
      ⟨some 25, .call 13 true [] [(.t 24)], none⟩,
      ⟨some 26, .un .not (.t 25), none⟩,
      ⟨some 27, .mv (.t 26), none⟩,
      ⟨some 28, .mv (.t 1), some (27, false)⟩,
      ⟨some 29, .len true (.t 28), some (27, false)⟩,
      ⟨some 30, .bin .gtr (.t 29) (.c (.int .i64 100)), some (27, false)⟩,
      ⟨some 31, .pick (.t 27) (.c (.bool true)) (.t 30), none⟩,
      ⟨some 32, .mv (.t 31), none⟩,
      ⟨some 33, .load true 3 (.t 2), some (32, false)⟩,
      ⟨some 34, .call 15 false [] [(.t 33)], some (32, false)⟩,
      ⟨some 35, .call 14 true [] [(.t 34)], some (32, false)⟩,
      ⟨some 36, .un .not (.t 35), some (32, false)⟩,
      ⟨some 37, .pick (.t 32) (.c (.bool true)) (.t 36), none⟩])
     (.cond (.t 37)
      (.seq (.ops none [⟨some 38, .mv (.t 5), none⟩,
        ⟨some 4, .mv (.t 38), none⟩])
       .ret)
      .skip))
    (.seq (.ops none [⟨some 39, .faddr 1 (.t 2), none⟩,
      ⟨some 40, .load false 1 (.t 39), none⟩,
      ⟨some 41, .len false (.t 40), none⟩,
      ⟨some 6, .mv (.t 41), none⟩])
     (.seq (.ops none [⟨some 7, .mv (.c (.int .i64 0)), none⟩])
      (.seq (.seq (.ops none [⟨some 42, .mv (.t 6), none⟩,
         ⟨some 43, .bin .gtr (.t 42) (.c (.int .i64 0)), none⟩])
        (.cond (.t 43)
         (.ops none [⟨some 44, .faddr 1 (.t 2), none⟩,
          ⟨some 45, .load false 1 (.t 44), none⟩,
          ⟨some 46, .mv (.t 6), none⟩,
          ⟨some 47, .bin .sub (.t 46) (.c (.int .i64 1)), none⟩,
          ⟨some 48, .iaddr 2 (.t 45) (.t 47), none⟩,
          ⟨some 49, .faddr 0 (.t 48), none⟩,
          ⟨some 50, .load false 1 (.t 49), none⟩,
          ⟨some 7, .mv (.t 50), none⟩])
         .skip))
       (.seq (.ops none [⟨some 52, .load true 3 (.t 2), none⟩,
         ⟨some 53, .call 15 false [] [(.t 52)], none⟩,
         ⟨some 54, .call 10 false [] [(.t 53), (.c (.str ⟨#[84, 72, 69, 78]⟩))], none⟩,
         ⟨some 51, .mv (.t 54), none⟩,
         ⟨some 55, .ext (.t 51) 0, none⟩,
         ⟨some 56, .ext (.t 51) 1, none⟩,
         ⟨some 57, .ext (.t 51) 2, none⟩,
         ⟨some 8, .alloc [.nil, .nil, .nil], none⟩,
         ⟨none, .store 3 (.t 8) (.t 55), none⟩,
         ⟨some 9, .mv (.t 56), none⟩,
         ⟨some 10, .mv (.t 57), none⟩])
        (.seq (.ops none [⟨some 59, .load true 3 (.t 2), none⟩,
          ⟨some 60, .call 15 false [] [(.t 59)], none⟩,
          ⟨some 61, .call 10 false [] [(.t 60), (.c (.str ⟨#[85, 78, 84, 73, 76]⟩))], none⟩,
          ⟨some 58, .mv (.t 61), none⟩,
          ⟨some 62, .ext (.t 58) 0, none⟩,
          ⟨some 63, .ext (.t 58) 1, none⟩,
          ⟨some 64, .ext (.t 58) 2, none⟩,
          ⟨some 11, .alloc [.nil, .nil, .nil], none⟩,
          ⟨none, .store 3 (.t 11) (.t 62), none⟩,
          ⟨some 12, .mv (.t 63), none⟩,
          ⟨some 13, .mv (.t 64), none⟩])
         (.seq (.ops none [⟨some 66, .load true 3 (.t 2), none⟩,
           ⟨some 67, .call 15 false [] [(.t 66)], none⟩,
           ⟨some 68, .call 10 false [] [(.t 67), (.c (.str ⟨#[76, 79, 79, 80]⟩))], none⟩,
           ⟨some 65, .mv (.t 68), none⟩,
           ⟨some 69, .ext (.t 65) 0, none⟩,
           ⟨some 70, .ext (.t 65) 1, none⟩,
           ⟨some 71, .ext (.t 65) 2, none⟩,
           ⟨some 14, .alloc [.nil, .nil, .nil], none⟩,
           ⟨none, .store 3 (.t 14) (.t 69), none⟩,
           ⟨some 15, .mv (.t 70), none⟩,
           ⟨some 16, .mv (.t 71), none⟩])
          (.seq (.ops none [⟨some 73, .load true 3 (.t 2), none⟩,
            ⟨some 74, .call 15 false [] [(.t 73)], none⟩,
            ⟨some 75, .call 10 false [] [(.t 74), (.c (.str ⟨#[76, 69, 65, 86, 69]⟩))], none⟩,
            ⟨some 72, .mv (.t 75), none⟩,
            ⟨some 76, .ext (.t 72) 0, none⟩,
            ⟨some 77, .ext (.t 72) 1, none⟩,
            ⟨some 78, .ext (.t 72) 2, none⟩,
            ⟨some 17, .alloc [.nil, .nil, .nil], none⟩,
            ⟨none, .store 3 (.t 17) (.t 76), none⟩,
            ⟨some 18, .mv (.t 77), none⟩,
            ⟨some 19, .mv (.t 78), none⟩])
           (.seq (.ops none [⟨some 80, .load true 3 (.t 2), none⟩,
             ⟨some 81, .call 15 false [] [(.t 80)], none⟩,
             ⟨some 82, .mv (.t 1), none⟩,
             ⟨some 83, .call 10 false [] [(.t 81), (.t 82)], none⟩,
             ⟨some 79, .mv (.t 83), none⟩,
             ⟨some 84, .ext (.t 79) 0, none⟩,
             ⟨some 85, .ext (.t 79) 1, none⟩,
             ⟨some 86, .ext (.t 79) 2, none⟩,
             ⟨some 20, .alloc [.nil, .nil, .nil], none⟩,
             ⟨none, .store 3 (.t 20) (.t 84), none⟩,
             ⟨some 21, .mv (.t 85), none⟩,
             ⟨some 22, .mv (.t 86), none⟩])
            (.seq (.ops (some [(45, 46)]) [⟨some 87, .mv (.t 5), none⟩,
              ⟨some 88, .mv (.t 87), none⟩,
              ⟨some 89, .mv (.t 10), some (88, true)⟩,
              ⟨some 90, .bin .eql (.t 89) (.c (.int .i64 (-22))), some (88, true)⟩,
              ⟨some 91, .mv (.t 7), some (88, true)⟩,
              ⟨some 92, .bin .neq (.t 91) (.c (.int .i64 1)), some (88, true)⟩,
              ⟨some 93, .eqB false (.t 90) (.t 92), some (88, true)⟩,
              ⟨some 94, .pick (.t 88) (.t 93) (.c (.bool false)), none⟩,
              ⟨some 95, .mv (.t 94), none⟩,
              ⟨some 96, .mv (.t 13), some (95, true)⟩,
              ⟨some 97, .bin .eql (.t 96) (.c (.int .i64 (-22))), some (95, true)⟩,
              ⟨some 98, .mv (.t 7), some (95, true)⟩,
              ⟨some 99, .bin .neq (.t 98) (.c (.int .i64 2)), some (95, true)⟩,
              ⟨some 100, .eqB false (.t 97) (.t 99), some (95, true)⟩,
              ⟨some 101, .pick (.t 95) (.t 100) (.c (.bool false)), none⟩,
              ⟨some 102, .mv (.t 101), none⟩,
              ⟨some 103, .mv (.t 16), some (102, true)⟩,
              ⟨some 104, .bin .eql (.t 103) (.c (.int .i64 (-22))), some (102, true)⟩,
              ⟨some 105, .mv (.t 7), some (102, true)⟩,
              ⟨some 106, .bin .neq (.t 105) (.c (.int .i64 3)), some (102, true)⟩,
              ⟨some 107, .eqB false (.t 104) (.t 106), some (102, true)⟩,
              ⟨some 108, .pick (.t 102) (.t 107) (.c (.bool false)), none⟩,
              ⟨some 109, .mv (.t 108), none⟩,
              ⟨some 110, .mv (.t 19), some (109, true)⟩,
              ⟨some 111, .bin .eql (.t 110) (.c (.int .i64 (-22))), some (109, true)⟩,
              ⟨some 112, .load true 3 (.t 2), some (109, true)⟩,
              ⟨some 113, .call 16 true [] [(.t 112)], some (109, true)⟩,
              ⟨some 114, .bin .eql (.t 113) (.c (.int .i64 0)), some (109, true)⟩,
              ⟨some 115, .eqB false (.t 111) (.t 114), some (109, true)⟩,
              ⟨some 116, .pick (.t 109) (.t 115) (.c (.bool false)), none⟩,
              ⟨some 117, .mv (.t 116), none⟩,
              ⟨some 118, .mv (.t 21), some (117, true)⟩,
              ⟨some 119, .mv (.t 118), some (117, true)⟩,
              ⟨some 120, .mv (.t 22), some (119, false)⟩,
              ⟨some 121, .bin .eql (.t 120) (.c (.int .i64 0)), some (119, false)⟩,
              ⟨some 122, .pick (.t 119) (.c (.bool true)) (.t 121), some (117, true)⟩,
              ⟨some 123, .pick (.t 117) (.t 122) (.c (.bool false)), none⟩,
              ⟨some 124, .mv (.t 123), none⟩,
              ⟨some 125, .mv (.t 21), some (124, true)⟩,
              ⟨some 126, .mv (.t 125), some (124, true)⟩,
              ⟨some 127, .mv (.t 22), some (126, true)⟩,
              ⟨some 128, .bin .eql (.t 127) (.c (.int .i64 0)), some (126, true)⟩,
              ⟨some 129, .pick (.t 126) (.t 128) (.c (.bool false)), some (124, true)⟩,
              ⟨some 130, .mv (.t 129), some (124, true)⟩,
              ⟨some 131, .load true 3 (.t 20), some (130, false)⟩,
              ⟨some 132, .call 18 false [] [(.t 131)], some (130, false)⟩,
              ⟨some 133, .load true 3 (.t 2), some (130, false)⟩,
              ⟨some 134, .call 17 true [] [(.t 132), (.t 133)], some (130, false)⟩,
              ⟨some 135, .pick (.t 130) (.c (.bool true)) (.t 134), some (124, true)⟩,
              ⟨some 136, .pick (.t 124) (.t 135) (.c (.bool false)), none⟩,
              ⟨some 4, .mv (.t 136), none⟩])
             .ret))))))))))))⟩
theorem cop4 : copF Try.prog raws [] 4 = some ir4 := by kernel_rfl
/-- tenterhook/tenterhooklaw08.FlowGrows -/
def ir5 : F := ⟨113, [.t 4],
 (.seq (.ops none [⟨some 2, .box (.t 0), none⟩,
   ⟨some 4, .mv (.c (.bool false)), none⟩])
  (.seq (.ops none [⟨some 11, .call 9 true [] [], none⟩,
    ⟨some 5, .mv (.t 11), none⟩])
   (.seq (.seq (.ops none [⟨some 12, .load true 3 (.t 2), none⟩,
      ⟨some 13, .call 13 true [] [(.t 12)], none⟩,
      ⟨some 14, .un .not (.t 13), none⟩,
      ⟨some 15, .mv (.t 14), none⟩,
      ⟨some 16, .mv (.t 1), some (15, false)⟩,
      ⟨some 17, .len true (.t 16), some (15, false)⟩,
      ⟨some 18, .bin .gtr (.t 17) (.c (.int .i64 100)), some (15, false)⟩,
      ⟨some 19, .pick (.t 15) (.c (.bool true)) (.t 18), none⟩,
      ⟨some 20, .mv (.t 19), none⟩,
      ⟨some 21, .load true 3 (.t 2), some (20, false)⟩,
      ⟨some 22, .call 15 false [] [(.t 21)], some (20, false)⟩,
      ⟨some 23, .call 14 true [] [(.t 22)], some (20, false)⟩,
      ⟨some 24, .un .not (.t 23), some (20, false)⟩,
      ⟨some 25, .pick (.t 20) (.c (.bool true)) (.t 24), none⟩])
     (.cond (.t 25)
      (.seq (.ops none [⟨some 26, .mv (.t 5), none⟩,
        ⟨some 4, .mv (.t 26), none⟩])
       .ret)
      .skip))
    (.seq (.ops none [⟨some 28, .load true 3 (.t 2), none⟩,
      ⟨some 29, .call 15 false [] [(.t 28)], none⟩,
      ⟨some 30, .mv (.t 1), none⟩,
      ⟨some 31, .call 10 false [] [(.t 29), (.t 30)], none⟩,
      ⟨some 27, .mv (.t 31), none⟩,
      ⟨some 32, .ext (.t 27) 0, none⟩,
      ⟨some 33, .ext (.t 27) 1, none⟩,
      ⟨some 34, .ext (.t 27) 2, none⟩,
      ⟨some 6, .alloc [.nil, .nil, .nil], none⟩,
      ⟨none, .store 3 (.t 6) (.t 32), none⟩,
      ⟨some 7, .mv (.t 33), none⟩,
      ⟨some 8, .mv (.t 34), none⟩])
     (.seq (.ops none [⟨some 35, .faddr 0 (.t 6), none⟩,
       ⟨some 36, .load false 1 (.t 35), none⟩,
       ⟨some 37, .len false (.t 36), none⟩,
       ⟨some 38, .faddr 0 (.t 2), none⟩,
       ⟨some 39, .load false 1 (.t 38), none⟩,
       ⟨some 40, .len false (.t 39), none⟩,
       ⟨some 41, .bin .sub (.t 37) (.t 40), none⟩,
       ⟨some 9, .mv (.t 41), none⟩])
      (.seq (.seq (.ops none [⟨some 42, .mv (.t 7), none⟩,
         ⟨some 43, .un .not (.t 42), none⟩,
         ⟨some 44, .mv (.t 43), none⟩,
         ⟨some 45, .mv (.t 8), some (44, false)⟩,
         ⟨some 46, .bin .neq (.t 45) (.c (.int .i64 0)), some (44, false)⟩,
         ⟨some 47, .pick (.t 44) (.c (.bool true)) (.t 46), none⟩])
        (.cond (.t 47)
         (.seq (.ops none [⟨some 48, .mv (.t 5), none⟩,
           ⟨some 49, .mv (.t 48), none⟩,
           ⟨some 50, .mv (.t 9), some (49, true)⟩,
           ⟨some 51, .bin .eql (.t 50) (.c (.int .i64 0)), some (49, true)⟩,
           ⟨some 52, .pick (.t 49) (.t 51) (.c (.bool false)), none⟩,
           ⟨some 4, .mv (.t 52), none⟩])
          .ret)
         .skip))
       (.seq (.seq (.ops none [⟨some 10, .mv (.c (.int .i64 0)), none⟩])
         (.block 0 (.loop [2, 5, 6, 9, 10] []
           (.seq (.seq (.ops none [⟨some 53, .mv (.t 10), none⟩,
              ⟨some 54, .faddr 0 (.t 2), none⟩,
              ⟨some 55, .load false 1 (.t 54), none⟩,
              ⟨some 56, .len false (.t 55), none⟩,
              ⟨some 57, .bin .lss (.t 53) (.t 56), none⟩,
              ⟨some 58, .mv (.t 57), none⟩,
              ⟨some 59, .mv (.t 10), some (58, true)⟩,
              ⟨some 60, .faddr 0 (.t 6), some (58, true)⟩,
              ⟨some 61, .load false 1 (.t 60), some (58, true)⟩,
              ⟨some 62, .len false (.t 61), some (58, true)⟩,
              ⟨some 63, .bin .lss (.t 59) (.t 62), some (58, true)⟩,
              ⟨some 64, .pick (.t 58) (.t 63) (.c (.bool false)), none⟩])
             (.cond (.t 64)
              .skip
              (.exit 0)))
            (.seq (.block 1 (.seq (.ops (some []) [⟨some 67, .faddr 0 (.t 6), none⟩,
                ⟨some 68, .load false 1 (.t 67), none⟩,
                ⟨some 69, .mv (.t 10), none⟩,
                ⟨some 70, .iaddr 2 (.t 68) (.t 69), none⟩,
                ⟨some 71, .faddr 0 (.t 70), none⟩,
                ⟨some 72, .load false 1 (.t 71), none⟩,
                ⟨some 73, .faddr 0 (.t 2), none⟩,
                ⟨some 74, .load false 1 (.t 73), none⟩,
                ⟨some 75, .mv (.t 10), none⟩,
                ⟨some 76, .iaddr 2 (.t 74) (.t 75), none⟩,
                ⟨some 77, .faddr 0 (.t 76), none⟩,
                ⟨some 78, .load false 1 (.t 77), none⟩,
                ⟨some 79, .bin .neq (.t 72) (.t 78), none⟩])
               (.cond (.t 79)
                (.seq (.ops none [⟨some 4, .mv (.c (.bool false)), none⟩])
                 .ret)
                .skip)))
             (.ops none [⟨some 65, .mv (.t 10), none⟩,
              ⟨some 66, .bin .add (.t 65) (.c (.int .i64 1)), none⟩,
              ⟨some 10, .mv (.t 66), none⟩]))))))
        (.seq (.ops none [⟨some 80, .mv (.t 5), none⟩,
          ⟨some 81, .mv (.t 80), none⟩,
          ⟨some 82, .mv (.t 9), some (81, true)⟩,
          ⟨some 83, .bin .geq (.t 82) (.c (.int .i64 0)), some (81, true)⟩,
          ⟨some 84, .pick (.t 81) (.t 83) (.c (.bool false)), none⟩,
          ⟨some 85, .mv (.t 84), none⟩,
          ⟨some 86, .mv (.t 9), some (85, true)⟩,
          ⟨some 87, .bin .leq (.t 86) (.c (.int .i64 2)), some (85, true)⟩,
          ⟨some 88, .pick (.t 85) (.t 87) (.c (.bool false)), none⟩,
          ⟨some 89, .mv (.t 88), none⟩,
          ⟨some 90, .load true 3 (.t 6), some (89, true)⟩,
          ⟨some 91, .call 14 true [] [(.t 90)], some (89, true)⟩,
          ⟨some 92, .pick (.t 89) (.t 91) (.c (.bool false)), none⟩,
          ⟨some 93, .mv (.t 92), none⟩,
          ⟨some 94, .faddr 1 (.t 6), some (93, true)⟩,
          ⟨some 95, .load false 1 (.t 94), some (93, true)⟩,
          ⟨some 96, .len false (.t 95), some (93, true)⟩,
          ⟨some 97, .faddr 1 (.t 2), some (93, true)⟩,
          ⟨some 98, .load false 1 (.t 97), some (93, true)⟩,
          ⟨some 99, .len false (.t 98), some (93, true)⟩,
          ⟨some 100, .bin .add (.t 99) (.c (.int .i64 1)), some (93, true)⟩,
          ⟨some 101, .bin .leq (.t 96) (.t 100), some (93, true)⟩,
          ⟨some 102, .pick (.t 93) (.t 101) (.c (.bool false)), none⟩,
          ⟨some 103, .mv (.t 102), none⟩,
          ⟨some 104, .faddr 1 (.t 6), some (103, true)⟩,
          ⟨some 105, .load false 1 (.t 104), some (103, true)⟩,
          ⟨some 106, .len false (.t 105), some (103, true)⟩,
          ⟨some 107, .bin .add (.t 106) (.c (.int .i64 2)), some (103, true)⟩,
          ⟨some 108, .faddr 1 (.t 2), some (103, true)⟩,
          ⟨some 109, .load false 1 (.t 108), some (103, true)⟩,
          ⟨some 110, .len false (.t 109), some (103, true)⟩,
          ⟨some 111, .bin .geq (.t 107) (.t 110), some (103, true)⟩,
          ⟨some 112, .pick (.t 103) (.t 111) (.c (.bool false)), none⟩,
          ⟨some 4, .mv (.t 112), none⟩])
         .ret))))))))⟩
theorem cop5 : copF Try.prog raws [([2, 5, 6, 9, 10], [])] 5 = some ir5 := by kernel_rfl
/-- tenterhook/tenterhooklaw08.FlowIs -/
def ir6 : F := ⟨129, [.t 6],
 (.seq (.ops none [⟨some 3, .box (.t 0), none⟩,
   ⟨some 6, .mv (.c (.bool false)), none⟩])
  (.seq (.ops none [⟨some 22, .call 9 true [] [], none⟩,
    ⟨some 7, .mv (.t 22), none⟩])
   (.seq (.seq (.ops none [⟨some 23, .load true 3 (.t 3), none⟩,
      ⟨some 24, .call 13 true [] [(.t 23)], none⟩,
      ⟨some 25, .un .not (.t 24), none⟩,
      ⟨some 26, .mv (.t 25), none⟩,
      ⟨some 27, .mv (.t 1), some (26, false)⟩,
      ⟨some 28, .len false (.t 27), some (26, false)⟩,
      ⟨some 29, .bin .gtr (.t 28) (.c (.int .i64 200)), some (26, false)⟩,
      ⟨some 30, .pick (.t 26) (.c (.bool true)) (.t 29), none⟩,
      ⟨some 31, .mv (.t 30), none⟩,
      ⟨some 32, .mv (.t 2), some (31, false)⟩,
      ⟨some 33, .len true (.t 32), some (31, false)⟩,
      ⟨some 34, .bin .gtr (.t 33) (.c (.int .i64 100)), some (31, false)⟩,
      ⟨some 35, .pick (.t 31) (.c (.bool true)) (.t 34), none⟩])
     (.cond (.t 35)
      (.seq (.ops none [⟨some 36, .mv (.t 7), none⟩,
        ⟨some 6, .mv (.t 36), none⟩])
       .ret)
      .skip))
    (.seq (.ops none [⟨some 38, .load true 3 (.t 3), none⟩,
      ⟨some 39, .call 15 false [] [(.t 38)], none⟩,
      ⟨some 40, .mv (.t 1), none⟩,
      ⟨some 41, .call 19 false [] [(.t 39), (.t 40)], none⟩,
      ⟨some 37, .mv (.t 41), none⟩,
      ⟨some 42, .ext (.t 37) 0, none⟩,
      ⟨some 43, .ext (.t 37) 1, none⟩,
      ⟨some 8, .alloc [.nil, .nil, .nil], none⟩,
      ⟨none, .store 3 (.t 8) (.t 42), none⟩,
      ⟨some 9, .mv (.t 43), none⟩])
     (.seq (.ops none [⟨some 45, .load true 3 (.t 3), none⟩,
       ⟨some 46, .mv (.t 1), none⟩,
       ⟨some 47, .call 20 false [] [(.t 45), (.t 46)], none⟩,
       ⟨some 44, .mv (.t 47), none⟩,
       ⟨some 48, .ext (.t 44) 0, none⟩,
       ⟨some 49, .ext (.t 44) 1, none⟩,
       ⟨some 10, .alloc [.nil, .nil, .nil], none⟩,
       ⟨none, .store 3 (.t 10) (.t 48), none⟩,
       ⟨some 11, .mv (.t 49), none⟩])
      (.seq (.ops none [⟨some 51, .load true 3 (.t 3), none⟩,
        ⟨some 52, .call 15 false [] [(.t 51)], none⟩,
        ⟨some 53, .mv (.t 2), none⟩,
        ⟨some 54, .call 10 false [] [(.t 52), (.t 53)], none⟩,
        ⟨some 50, .mv (.t 54), none⟩,
        ⟨some 55, .ext (.t 50) 0, none⟩,
        ⟨some 56, .ext (.t 50) 1, none⟩,
        ⟨some 57, .ext (.t 50) 2, none⟩,
        ⟨some 12, .alloc [.nil, .nil, .nil], none⟩,
        ⟨none, .store 3 (.t 12) (.t 55), none⟩,
        ⟨some 13, .mv (.t 56), none⟩,
        ⟨some 14, .mv (.t 57), none⟩])
       (.seq (.ops none [⟨some 59, .load true 3 (.t 3), none⟩,
         ⟨some 60, .mv (.t 2), none⟩,
         ⟨some 61, .call 21 false [] [(.t 59), (.t 60)], none⟩,
         ⟨some 58, .mv (.t 61), none⟩,
         ⟨some 62, .ext (.t 58) 0, none⟩,
         ⟨some 63, .ext (.t 58) 1, none⟩,
         ⟨some 64, .ext (.t 58) 2, none⟩,
         ⟨some 15, .alloc [.nil, .nil, .nil], none⟩,
         ⟨none, .store 3 (.t 15) (.t 62), none⟩,
         ⟨some 16, .mv (.t 63), none⟩,
         ⟨some 17, .mv (.t 64), none⟩])
        (.seq (.ops none [⟨some 66, .load true 3 (.t 3), none⟩,
          ⟨some 67, .call 15 false [] [(.t 66)], none⟩,
          ⟨some 68, .call 11 false [] [(.t 67)], none⟩,
          ⟨some 65, .mv (.t 68), none⟩,
          ⟨some 69, .ext (.t 65) 0, none⟩,
          ⟨some 70, .ext (.t 65) 1, none⟩,
          ⟨some 18, .mv (.t 69), none⟩,
          ⟨some 19, .mv (.t 70), none⟩])
         (.seq (.ops none [⟨some 72, .load true 3 (.t 3), none⟩,
           ⟨some 73, .call 22 false [] [(.t 72)], none⟩,
           ⟨some 71, .mv (.t 73), none⟩,
           ⟨some 74, .ext (.t 71) 0, none⟩,
           ⟨some 75, .ext (.t 71) 1, none⟩,
           ⟨some 20, .mv (.t 74), none⟩,
           ⟨some 21, .mv (.t 75), none⟩])
          (.seq (.ops (some [(3, 4), (14, 15), (40, 42)]) [⟨some 76, .mv (.t 7), none⟩,
            ⟨some 77, .mv (.t 76), none⟩,
            ⟨some 78, .load true 3 (.t 8), some (77, true)⟩,
            ⟨some 79, .call 18 false [] [(.t 78)], some (77, true)⟩,
            ⟨some 80, .load true 3 (.t 10), some (77, true)⟩,
            ⟨some 81, .call 17 true [] [(.t 79), (.t 80)], some (77, true)⟩,
            ⟨some 82, .pick (.t 77) (.t 81) (.c (.bool false)), none⟩,
            ⟨some 83, .mv (.t 82), none⟩,
            ⟨some 84, .mv (.t 9), some (83, true)⟩,
            ⟨some 85, .mv (.t 11), some (83, true)⟩,
            ⟨some 86, .bin .eql (.t 84) (.t 85), some (83, true)⟩,
            ⟨some 87, .pick (.t 83) (.t 86) (.c (.bool false)), none⟩,
            ⟨some 88, .mv (.t 87), none⟩,
            ⟨some 89, .load true 3 (.t 12), some (88, true)⟩,
            ⟨some 90, .call 18 false [] [(.t 89)], some (88, true)⟩,
            ⟨some 91, .load true 3 (.t 15), some (88, true)⟩,
            ⟨some 92, .call 17 true [] [(.t 90), (.t 91)], some (88, true)⟩,
            ⟨some 93, .pick (.t 88) (.t 92) (.c (.bool false)), none⟩,
            ⟨some 94, .mv (.t 93), none⟩,
            ⟨some 95, .mv (.t 13), some (94, true)⟩,
            ⟨some 96, .mv (.t 16), some (94, true)⟩,
            ⟨some 97, .eqB false (.t 95) (.t 96), some (94, true)⟩,
            ⟨some 98, .pick (.t 94) (.t 97) (.c (.bool false)), none⟩,
            ⟨some 99, .mv (.t 98), none⟩,
            ⟨some 100, .mv (.t 14), some (99, true)⟩,
            ⟨some 101, .mv (.t 17), some (99, true)⟩,
            ⟨some 102, .bin .eql (.t 100) (.t 101), some (99, true)⟩,
            ⟨some 103, .pick (.t 99) (.t 102) (.c (.bool false)), none⟩,
            ⟨some 104, .mv (.t 103), none⟩,
            ⟨some 105, .mv (.t 18), some (104, true)⟩,
            ⟨some 106, .mv (.t 20), some (104, true)⟩,
            ⟨some 107, .call 23 true [] [(.t 105), (.t 106)], some (104, true)⟩,
            ⟨some 108, .pick (.t 104) (.t 107) (.c (.bool false)), none⟩,
            ⟨some 109, .mv (.t 108), none⟩,
            ⟨some 110, .mv (.t 19), some (109, true)⟩,
            ⟨some 111, .mv (.t 21), some (109, true)⟩,
            ⟨some 112, .bin .eql (.t 110) (.t 111), some (109, true)⟩,
            ⟨some 113, .pick (.t 109) (.t 112) (.c (.bool false)), none⟩,
            ⟨some 114, .mv (.t 113), none⟩,
            ⟨some 115, .load true 3 (.t 3), some (114, true)⟩,
            ⟨some 116, .call 15 false [] [(.t 115)], some (114, true)⟩,
            ⟨some 117, .call 14 true [] [(.t 116)], some (114, true)⟩,
            ⟨some 118, .load true 3 (.t 3), some (114, true)⟩,
            ⟨some 119, .call 24 true [] [(.t 118)], some (114, true)⟩,
            ⟨some 120, .eqB false (.t 117) (.t 119), some (114, true)⟩,
            ⟨some 121, .pick (.t 114) (.t 120) (.c (.bool false)), none⟩,
            ⟨some 122, .mv (.t 121), none⟩,
            ⟨some 123, .mv (.t 1), some (122, true)⟩,
            ⟨some 124, .call 12 true [] [(.t 123)], some (122, true)⟩,
            ⟨some 125, .mv (.t 1), some (122, true)⟩,
            ⟨some 126, .call 25 true [] [(.t 125)], some (122, true)⟩,
            ⟨some 127, .eqB false (.t 124) (.t 126), some (122, true)⟩,
            ⟨some 128, .pick (.t 122) (.t 127) (.c (.bool false)), none⟩,
            ⟨some 6, .mv (.t 128), none⟩])
           .ret))))))))))⟩
theorem cop6 : copF Try.prog raws [] 6 = some ir6 := by kernel_rfl
/-- tenterhook/tenterhooklaw08.FlowWhole -/
def ir7 : F := ⟨134, [.t 4],
 (.seq (.ops none [⟨some 4, .mv (.c (.bool false)), none⟩])
  (.seq (.ops none [⟨some 13, .call 9 true [] [], none⟩,
    ⟨some 5, .mv (.t 13), none⟩])
   (.seq (.seq (.ops none [⟨some 14, .mv (.t 0), none⟩,
      ⟨some 15, .len false (.t 14), none⟩,
      ⟨some 16, .bin .gtr (.t 15) (.c (.int .i64 60)), none⟩,
      ⟨some 17, .mv (.t 16), none⟩,
      ⟨some 18, .mv (.t 1), some (17, false)⟩,
      ⟨some 19, .len false (.t 18), some (17, false)⟩,
      ⟨some 20, .bin .gtr (.t 19) (.c (.int .i64 60)), some (17, false)⟩,
      ⟨some 21, .pick (.t 17) (.c (.bool true)) (.t 20), none⟩])
     (.cond (.t 21)
      (.seq (.ops none [⟨some 22, .mv (.t 5), none⟩,
        ⟨some 4, .mv (.t 22), none⟩])
       .ret)
      .skip))
    (.seq (.ops none [⟨some 23, .build [.nil, .nil, .nil] [], none⟩,
      ⟨some 6, .alloc [.nil, .nil, .nil], none⟩,
      ⟨none, .store 3 (.t 6) (.t 23), none⟩])
     (.seq (.seq (.ops none [⟨some 7, .mv (.c (.int .i64 0)), none⟩])
       (.block 0 (.loop [0, 1, 5, 6, 7] []
         (.seq (.seq (.ops none [⟨some 24, .mv (.t 7), none⟩,
            ⟨some 25, .mv (.t 0), none⟩,
            ⟨some 26, .len false (.t 25), none⟩,
            ⟨some 27, .bin .lss (.t 24) (.t 26), none⟩])
           (.cond (.t 27)
            .skip
            (.exit 0)))
          (.seq (.block 1 (.seq (.seq (.ops none [⟨some 30, .mv (.t 0), none⟩,
               ⟨some 31, .mv (.t 7), none⟩,
               ⟨some 32, .iaddr 1 (.t 30) (.t 31), none⟩,
               ⟨some 33, .load false 1 (.t 32), none⟩,
               ⟨some 34, .len true (.t 33), none⟩,
               ⟨some 35, .bin .gtr (.t 34) (.c (.int .i64 100)), none⟩])
              (.cond (.t 35)
               (.seq (.ops none [⟨some 36, .mv (.t 5), none⟩,
                 ⟨some 4, .mv (.t 36), none⟩])
                .ret)
               .skip))
             (.seq (.ops (some [(0, 10), (4, 10), (5, 10)]) [⟨some 38, .load true 3 (.t 6), none⟩,
               ⟨some 39, .mv (.t 0), none⟩,
               ⟨some 40, .mv (.t 7), none⟩,
               ⟨some 41, .iaddr 1 (.t 39) (.t 40), none⟩,
               ⟨some 42, .load false 1 (.t 41), none⟩,
               ⟨some 43, .call 10 false [] [(.t 38), (.t 42)], none⟩,
               ⟨some 37, .mv (.t 43), none⟩,
               ⟨some 44, .ext (.t 37) 0, none⟩,
               ⟨some 45, .ext (.t 37) 1, none⟩,
               ⟨some 46, .ext (.t 37) 2, none⟩,
               ⟨some 8, .alloc [.nil, .nil, .nil], none⟩,
               ⟨none, .store 3 (.t 8) (.t 44), none⟩,
               ⟨some 9, .mv (.t 45), none⟩,
               ⟨some 10, .mv (.t 46), none⟩])
              (.seq (.seq (.ops none [⟨some 47, .mv (.t 9), none⟩,
                 ⟨some 48, .un .not (.t 47), none⟩,
                 ⟨some 49, .mv (.t 48), none⟩,
                 ⟨some 50, .mv (.t 7), some (49, true)⟩,
                 ⟨some 51, .mv (.t 1), some (49, true)⟩,
                 ⟨some 52, .len false (.t 51), some (49, true)⟩,
                 ⟨some 53, .bin .lss (.t 50) (.t 52), some (49, true)⟩,
                 ⟨some 54, .pick (.t 49) (.t 53) (.c (.bool false)), none⟩])
                (.cond (.t 54)
                 (.ops (some [(0, 6)]) [⟨some 56, .load true 3 (.t 6), none⟩,
                  ⟨some 57, .mv (.t 1), none⟩,
                  ⟨some 58, .mv (.t 7), none⟩,
                  ⟨some 59, .iaddr 1 (.t 57) (.t 58), none⟩,
                  ⟨some 60, .load false 1 (.t 59), none⟩,
                  ⟨some 61, .build [.int .i64 0, .int .i64 0] [(0, 1, (.c (.int .i64 0))), (1, 1, (.t 60))], none⟩,
                  ⟨some 62, .bslice 2 1 [.int .i64 0, .int .i64 0] [(0, (.t 61))], none⟩,
                  ⟨some 63, .call 19 false [] [(.t 56), (.t 62)], none⟩,
                  ⟨some 55, .mv (.t 63), none⟩,
                  ⟨some 64, .ext (.t 55) 0, none⟩,
                  ⟨some 65, .ext (.t 55) 1, none⟩,
                  ⟨none, .store 3 (.t 8) (.t 64), none⟩,
                  ⟨some 10, .mv (.t 65), none⟩])
                 .skip))
               (.seq (.seq (.ops (some [(4, 5)]) [⟨some 66, .mv (.t 10), none⟩,
                  ⟨some 67, .bin .neq (.t 66) (.c (.int .i64 0)), none⟩,
                  ⟨some 68, .mv (.t 67), none⟩,
                  ⟨some 69, .load true 3 (.t 8), some (68, true)⟩,
                  ⟨some 70, .call 18 false [] [(.t 69)], some (68, true)⟩,
                  ⟨some 71, .load true 3 (.t 6), some (68, true)⟩,
                  ⟨some 72, .call 18 false [] [(.t 71)], some (68, true)⟩,
                  ⟨some 73, .call 17 true [] [(.t 70), (.t 72)], some (68, true)⟩,
                  ⟨some 74, .un .not (.t 73), some (68, true)⟩,
                  ⟨some 75, .pick (.t 68) (.t 74) (.c (.bool false)), none⟩,
                  ⟨some 76, .mv (.t 75), none⟩,
                  ⟨some 77, .load true 3 (.t 8), some (76, false)⟩,
                  ⟨some 78, .call 14 true [] [(.t 77)], some (76, false)⟩,
                  ⟨some 79, .un .not (.t 78), some (76, false)⟩,
                  ⟨some 80, .pick (.t 76) (.c (.bool true)) (.t 79), none⟩,
                  ⟨some 81, .mv (.t 80), none⟩,
                  ⟨some 82, .faddr 0 (.t 8), some (81, false)⟩,
                  ⟨some 83, .load false 1 (.t 82), some (81, false)⟩,
                  ⟨some 84, .len false (.t 83), some (81, false)⟩,
                  ⟨some 85, .faddr 0 (.t 6), some (81, false)⟩,
                  ⟨some 86, .load false 1 (.t 85), some (81, false)⟩,
                  ⟨some 87, .len false (.t 86), some (81, false)⟩,
                  ⟨some 88, .bin .lss (.t 84) (.t 87), some (81, false)⟩,
                  ⟨some 89, .pick (.t 81) (.c (.bool true)) (.t 88), none⟩])
                 (.cond (.t 89)
                  (.seq (.ops none [⟨some 4, .mv (.c (.bool false)), none⟩])
                   .ret)
                  .skip))
                (.ops none [⟨some 90, .load true 3 (.t 8), none⟩,
                 ⟨none, .store 3 (.t 6) (.t 90), none⟩]))))))
           (.ops none [⟨some 28, .mv (.t 7), none⟩,
            ⟨some 29, .bin .add (.t 28) (.c (.int .i64 1)), none⟩,
            ⟨some 7, .mv (.t 29), none⟩]))))))
      (.seq (.ops none [⟨some 92, .load true 3 (.t 6), none⟩,
        ⟨some 93, .call 11 false [] [(.t 92)], none⟩,
        ⟨some 91, .mv (.t 93), none⟩,
        ⟨some 94, .ext (.t 91) 0, none⟩,
        ⟨some 95, .ext (.t 91) 1, none⟩,
        ⟨some 11, .mv (.t 94), none⟩,
        ⟨some 12, .mv (.t 95), none⟩])
       (.seq (.seq (.ops none [⟨some 96, .mv (.t 12), none⟩,
          ⟨some 97, .bin .neq (.t 96) (.c (.int .i64 0)), none⟩])
         (.cond (.t 97)
          (.seq (.ops none [⟨some 98, .mv (.t 5), none⟩,
            ⟨some 99, .mv (.t 98), none⟩,
            ⟨some 100, .mv (.t 12), some (99, true)⟩,
            ⟨some 101, .bin .eql (.t 100) (.c (.int .i64 (-22))), some (99, true)⟩,
            ⟨some 102, .pick (.t 99) (.t 101) (.c (.bool false)), none⟩,
            ⟨some 103, .mv (.t 102), none⟩,
            ⟨some 104, .faddr 1 (.t 6), some (103, true)⟩,
            ⟨some 105, .load false 1 (.t 104), some (103, true)⟩,
            ⟨some 106, .len false (.t 105), some (103, true)⟩,
            ⟨some 107, .bin .gtr (.t 106) (.c (.int .i64 0)), some (103, true)⟩,
            ⟨some 108, .pick (.t 103) (.t 107) (.c (.bool false)), none⟩,
            ⟨some 109, .mv (.t 108), none⟩,
            ⟨some 110, .mv (.t 11), some (109, true)⟩,
            ⟨some 111, .len false (.t 110), some (109, true)⟩,
            ⟨some 112, .bin .eql (.t 111) (.c (.int .i64 0)), some (109, true)⟩,
            ⟨some 113, .pick (.t 109) (.t 112) (.c (.bool false)), none⟩,
            ⟨some 4, .mv (.t 113), none⟩])
           .ret)
          .skip))
        (.seq (.ops none [⟨some 114, .mv (.t 5), none⟩,
          ⟨some 115, .mv (.t 114), none⟩,
          ⟨some 116, .mv (.t 11), some (115, true)⟩,
          ⟨some 117, .call 12 true [] [(.t 116)], some (115, true)⟩,
          ⟨some 118, .pick (.t 115) (.t 117) (.c (.bool false)), none⟩,
          ⟨some 119, .mv (.t 118), none⟩,
          ⟨some 120, .mv (.t 11), some (119, true)⟩,
          ⟨some 121, .len false (.t 120), some (119, true)⟩,
          ⟨some 122, .faddr 0 (.t 6), some (119, true)⟩,
          ⟨some 123, .load false 1 (.t 122), some (119, true)⟩,
          ⟨some 124, .len false (.t 123), some (119, true)⟩,
          ⟨some 125, .bin .add (.t 124) (.c (.int .i64 1)), some (119, true)⟩,
          ⟨some 126, .bin .eql (.t 121) (.t 125), some (119, true)⟩,
          ⟨some 127, .pick (.t 119) (.t 126) (.c (.bool false)), none⟩,
          ⟨some 128, .mv (.t 127), none⟩,
          ⟨some 129, .faddr 2 (.t 6), some (128, true)⟩,
          ⟨some 130, .load false 1 (.t 129), some (128, true)⟩,
          ⟨some 131, .len false (.t 130), some (128, true)⟩,
          ⟨some 132, .bin .eql (.t 131) (.c (.int .i64 0)), some (128, true)⟩,
          ⟨some 133, .pick (.t 128) (.t 132) (.c (.bool false)), none⟩,
          ⟨some 4, .mv (.t 133), none⟩])
         .ret))))))))⟩
theorem cop7 : copF Try.prog raws [([0, 1, 5, 6, 7], [])] 7 = some ir7 := by kernel_rfl
/-- tenterhook/tenterhooklaw08.FlowRows -/
def ir8 : F := ⟨92, [.t 4],
 (.seq (.ops none [⟨some 4, .mv (.c (.bool false)), none⟩])
  (.seq (.ops none [⟨some 15, .call 9 true [] [], none⟩,
    ⟨some 5, .mv (.t 15), none⟩])
   (.seq (.seq (.ops none [⟨some 16, .mv (.t 0), none⟩,
      ⟨some 17, .len false (.t 16), none⟩,
      ⟨some 18, .bin .gtr (.t 17) (.c (.int .i64 300)), none⟩,
      ⟨some 19, .mv (.t 18), none⟩,
      ⟨some 20, .mv (.t 1), some (19, false)⟩,
      ⟨some 21, .len false (.t 20), some (19, false)⟩,
      ⟨some 22, .bin .gtr (.t 21) (.c (.int .i64 300)), some (19, false)⟩,
      ⟨some 23, .pick (.t 19) (.c (.bool true)) (.t 22), none⟩])
     (.cond (.t 23)
      (.seq (.ops none [⟨some 24, .mv (.t 5), none⟩,
        ⟨some 4, .mv (.t 24), none⟩])
       .ret)
      .skip))
    (.seq (.ops none [⟨some 26, .build [.nil, .nil, .nil] [], none⟩,
      ⟨some 27, .mv (.t 0), none⟩,
      ⟨some 28, .call 19 false [] [(.t 26), (.t 27)], none⟩,
      ⟨some 25, .mv (.t 28), none⟩,
      ⟨some 29, .ext (.t 25) 0, none⟩,
      ⟨some 30, .ext (.t 25) 1, none⟩,
      ⟨some 6, .alloc [.nil, .nil, .nil], none⟩,
      ⟨none, .store 3 (.t 6) (.t 29), none⟩,
      ⟨some 7, .mv (.t 30), none⟩])
     (.seq (.ops none [⟨some 32, .load true 3 (.t 6), none⟩,
       ⟨some 33, .mv (.t 1), none⟩,
       ⟨some 34, .call 19 false [] [(.t 32), (.t 33)], none⟩,
       ⟨some 31, .mv (.t 34), none⟩,
       ⟨some 35, .ext (.t 31) 0, none⟩,
       ⟨some 36, .ext (.t 31) 1, none⟩,
       ⟨some 8, .alloc [.nil, .nil, .nil], none⟩,
       ⟨none, .store 3 (.t 8) (.t 35), none⟩,
       ⟨some 9, .mv (.t 36), none⟩])
      (.seq (.ops none [⟨some 37, .bslice 2 0 [.int .i64 0, .int .i64 0] [], none⟩,
        ⟨some 38, .mv (.t 0), none⟩,
        ⟨some 39, .append 2 (.t 37) (.t 38), none⟩,
        ⟨some 10, .mv (.t 39), none⟩])
       (.seq (.ops none [⟨some 40, .mv (.t 10), none⟩,
         ⟨some 41, .mv (.t 1), none⟩,
         ⟨some 42, .append 2 (.t 40) (.t 41), none⟩,
         ⟨some 10, .mv (.t 42), none⟩])
        (.seq (.ops none [⟨some 44, .build [.nil, .nil, .nil] [], none⟩,
          ⟨some 45, .mv (.t 10), none⟩,
          ⟨some 46, .call 19 false [] [(.t 44), (.t 45)], none⟩,
          ⟨some 43, .mv (.t 46), none⟩,
          ⟨some 47, .ext (.t 43) 0, none⟩,
          ⟨some 48, .ext (.t 43) 1, none⟩,
          ⟨some 11, .alloc [.nil, .nil, .nil], none⟩,
          ⟨none, .store 3 (.t 11) (.t 47), none⟩,
          ⟨some 12, .mv (.t 48), none⟩])
         (.seq (.ops none [⟨some 50, .load true 3 (.t 8), none⟩,
           ⟨some 51, .call 11 false [] [(.t 50)], none⟩,
           ⟨some 49, .mv (.t 51), none⟩,
           ⟨some 52, .ext (.t 49) 0, none⟩,
           ⟨some 53, .ext (.t 49) 1, none⟩,
           ⟨some 13, .mv (.t 52), none⟩,
           ⟨some 14, .mv (.t 53), none⟩])
          (.seq (.seq (.ops none [⟨some 54, .mv (.t 7), none⟩,
             ⟨some 55, .bin .neq (.t 54) (.c (.int .i64 0)), none⟩,
             ⟨some 56, .mv (.t 55), none⟩,
             ⟨some 57, .mv (.t 9), some (56, false)⟩,
             ⟨some 58, .bin .neq (.t 57) (.c (.int .i64 0)), some (56, false)⟩,
             ⟨some 59, .pick (.t 56) (.c (.bool true)) (.t 58), none⟩,
             ⟨some 60, .mv (.t 59), none⟩,
             ⟨some 61, .mv (.t 12), some (60, false)⟩,
             ⟨some 62, .bin .neq (.t 61) (.c (.int .i64 0)), some (60, false)⟩,
             ⟨some 63, .pick (.t 60) (.c (.bool true)) (.t 62), none⟩,
             ⟨some 64, .mv (.t 63), none⟩,
             ⟨some 65, .mv (.t 14), some (64, false)⟩,
             ⟨some 66, .bin .neq (.t 65) (.c (.int .i64 0)), some (64, false)⟩,
             ⟨some 67, .pick (.t 64) (.c (.bool true)) (.t 66), none⟩,
             ⟨some 68, .mv (.t 67), none⟩,
             ⟨some 69, .mv (.t 13), some (68, false)⟩,
             ⟨some 70, .len false (.t 69), some (68, false)⟩,
             ⟨some 71, .mv (.t 10), some (68, false)⟩,
             ⟨some 72, .len false (.t 71), some (68, false)⟩,
             ⟨some 73, .bin .add (.t 72) (.c (.int .i64 1)), some (68, false)⟩,
             ⟨some 74, .bin .neq (.t 70) (.t 73), some (68, false)⟩,
             ⟨some 75, .pick (.t 68) (.c (.bool true)) (.t 74), none⟩])
            (.cond (.t 75)
             (.seq (.ops none [⟨some 4, .mv (.c (.bool false)), none⟩])
              .ret)
             .skip))
           (.seq (.ops (some [(3, 4)]) [⟨some 76, .mv (.t 5), none⟩,
             ⟨some 77, .mv (.t 76), none⟩,
             ⟨some 78, .load true 3 (.t 8), some (77, true)⟩,
             ⟨some 79, .call 18 false [] [(.t 78)], some (77, true)⟩,
             ⟨some 80, .load true 3 (.t 11), some (77, true)⟩,
             ⟨some 81, .call 18 false [] [(.t 80)], some (77, true)⟩,
             ⟨some 82, .call 17 true [] [(.t 79), (.t 81)], some (77, true)⟩,
             ⟨some 83, .pick (.t 77) (.t 82) (.c (.bool false)), none⟩,
             ⟨some 84, .mv (.t 83), none⟩,
             ⟨some 85, .mv (.t 13), some (84, true)⟩,
             ⟨some 86, .mv (.t 10), some (84, true)⟩,
             ⟨some 87, .len false (.t 86), some (84, true)⟩,
             ⟨some 88, .slice false 2 (.t 85) none (some (.t 87)) none, some (84, true)⟩,
             ⟨some 89, .mv (.t 10), some (84, true)⟩,
             ⟨some 90, .call 23 true [] [(.t 88), (.t 89)], some (84, true)⟩,
             ⟨some 91, .pick (.t 84) (.t 90) (.c (.bool false)), none⟩,
             ⟨some 4, .mv (.t 91), none⟩])
            .ret)))))))))))⟩
theorem cop8 : copF Try.prog raws [] 8 = some ir8 := by kernel_rfl
/-- tenterhook/tenterhooklaw08.awake -/
def ir9 : F := ⟨65, [.t 0],
 (.seq (.ops none [⟨some 0, .mv (.c (.bool false)), none⟩])
  (.seq (.ops none [⟨some 10, .build [.nil, .nil, .nil] [], none⟩,
    ⟨some 11, .call 10 false [] [(.t 10), (.c (.str ⟨#[105, 102]⟩))], none⟩,
    ⟨some 9, .mv (.t 11), none⟩,
    ⟨some 12, .ext (.t 9) 0, none⟩,
    ⟨some 13, .ext (.t 9) 1, none⟩,
    ⟨some 14, .ext (.t 9) 2, none⟩,
    ⟨some 1, .alloc [.nil, .nil, .nil], none⟩,
    ⟨none, .store 3 (.t 1) (.t 12), none⟩,
    ⟨some 2, .mv (.t 13), none⟩,
    ⟨some 3, .mv (.t 14), none⟩])
   (.seq (.ops none [⟨some 16, .load true 3 (.t 1), none⟩,
     ⟨some 17, .call 10 false [] [(.t 16), (.c (.str ⟨#[116, 104, 101, 110]⟩))], none⟩,
     ⟨some 15, .mv (.t 17), none⟩,
     ⟨some 18, .ext (.t 15) 0, none⟩,
     ⟨some 19, .ext (.t 15) 1, none⟩,
     ⟨some 20, .ext (.t 15) 2, none⟩,
     ⟨some 4, .alloc [.nil, .nil, .nil], none⟩,
     ⟨none, .store 3 (.t 4) (.t 18), none⟩,
     ⟨some 5, .mv (.t 19), none⟩,
     ⟨some 6, .mv (.t 20), none⟩])
    (.seq (.ops none [⟨some 22, .load true 3 (.t 4), none⟩,
      ⟨some 23, .call 11 false [] [(.t 22)], none⟩,
      ⟨some 21, .mv (.t 23), none⟩,
      ⟨some 24, .ext (.t 21) 0, none⟩,
      ⟨some 25, .ext (.t 21) 1, none⟩,
      ⟨some 7, .mv (.t 24), none⟩,
      ⟨some 8, .mv (.t 25), none⟩])
     (.seq (.ops none [⟨some 26, .mv (.t 2), none⟩,
       ⟨some 27, .mv (.t 26), none⟩,
       ⟨some 28, .mv (.t 5), some (27, true)⟩,
       ⟨some 29, .pick (.t 27) (.t 28) (.c (.bool false)), none⟩,
       ⟨some 30, .mv (.t 29), none⟩,
       ⟨some 31, .mv (.t 3), some (30, true)⟩,
       ⟨some 32, .bin .eql (.t 31) (.c (.int .i64 0)), some (30, true)⟩,
       ⟨some 33, .pick (.t 30) (.t 32) (.c (.bool false)), none⟩,
       ⟨some 34, .mv (.t 33), none⟩,
       ⟨some 35, .mv (.t 6), some (34, true)⟩,
       ⟨some 36, .bin .eql (.t 35) (.c (.int .i64 0)), some (34, true)⟩,
       ⟨some 37, .pick (.t 34) (.t 36) (.c (.bool false)), none⟩,
       ⟨some 38, .mv (.t 37), none⟩,
       ⟨some 39, .mv (.t 8), some (38, true)⟩,
       ⟨some 40, .bin .eql (.t 39) (.c (.int .i64 0)), some (38, true)⟩,
       ⟨some 41, .pick (.t 38) (.t 40) (.c (.bool false)), none⟩,
       ⟨some 42, .mv (.t 41), none⟩,
       ⟨some 43, .mv (.t 7), some (42, true)⟩,
       ⟨some 44, .len false (.t 43), some (42, true)⟩,
       ⟨some 45, .bin .eql (.t 44) (.c (.int .i64 2)), some (42, true)⟩,
       ⟨some 46, .pick (.t 42) (.t 45) (.c (.bool false)), none⟩,
       ⟨some 47, .mv (.t 46), none⟩,
       ⟨some 48, .mv (.t 7), some (47, true)⟩,
       ⟨some 49, .iaddr 2 (.t 48) (.c (.int .i64 0)), some (47, true)⟩,
       ⟨some 50, .load true 2 (.t 49), some (47, true)⟩,
       ⟨some 51, .build [.int .i64 0, .int .i64 0] [(0, 1, (.c (.int .i64 2))), (1, 1, (.c (.int .i64 1)))], some (47, true)⟩,
       ⟨some 52, .eqS false [0, 0] (.t 50) (.t 51), some (47, true)⟩,
       ⟨some 53, .pick (.t 47) (.t 52) (.c (.bool false)), none⟩,
       ⟨some 54, .mv (.t 53), none⟩,
       ⟨some 55, .mv (.t 7), some (54, true)⟩,
       ⟨some 56, .iaddr 2 (.t 55) (.c (.int .i64 1)), some (54, true)⟩,
       ⟨some 57, .load true 2 (.t 56), some (54, true)⟩,
       ⟨some 58, .build [.int .i64 0, .int .i64 0] [(0, 1, (.c (.int .i64 4)))], some (54, true)⟩,
       ⟨some 59, .eqS false [0, 0] (.t 57) (.t 58), some (54, true)⟩,
       ⟨some 60, .pick (.t 54) (.t 59) (.c (.bool false)), none⟩,
       ⟨some 61, .mv (.t 60), none⟩,
       ⟨some 62, .mv (.t 7), some (61, true)⟩,
       ⟨some 63, .call 12 true [] [(.t 62)], some (61, true)⟩,
       ⟨some 64, .pick (.t 61) (.t 63) (.c (.bool false)), none⟩,
       ⟨some 0, .mv (.t 64), none⟩])
      .ret)))))⟩
theorem cop9 : copF Try.prog raws [] 9 = some ir9 := by kernel_rfl
/-- tenterhook/flow.Word -/
def ir10 : F := ⟨32, [.cell 4 true 3, .t 5, .t 6],
 (.seq (.ops none [⟨some 2, .box (.t 0), none⟩,
   ⟨some 4, .alloc [.nil, .nil, .nil], none⟩,
   ⟨some 5, .mv (.c (.bool false)), none⟩,
   ⟨some 6, .mv (.c (.int .i64 0)), none⟩])
  (.seq (.ops none [⟨some 10, .load true 3 (.t 2), none⟩,
    ⟨some 11, .call 26 false [] [(.t 10)], none⟩,
    ⟨some 7, .mv (.t 11), none⟩])
   (.seq (.ops none [⟨some 12, .mv (.t 7), none⟩,
     ⟨some 13, .mv (.t 1), none⟩,
     ⟨some 14, .call 27 false [true, false] [(.t 12), (.t 13)], none⟩,
     ⟨some 8, .mv (.t 14), none⟩])
    (.seq (.seq (.ops none [⟨some 15, .mv (.t 8), none⟩,
       ⟨some 16, .eqNil true false (.t 15), none⟩])
      (.cond (.t 16)
       (.seq (.ops none [⟨some 17, .mv (.t 7), none⟩,
         ⟨some 18, .nilck (.t 17), none⟩,
         ⟨some 19, .load true 3 (.t 18), none⟩,
         ⟨none, .store 3 (.t 4) (.t 19), none⟩,
         ⟨some 5, .mv (.c (.bool false)), none⟩,
         ⟨some 6, .mv (.c (.int .i64 0)), none⟩])
        .ret)
       .skip))
     (.seq (.seq (.ops none [⟨some 20, .mv (.t 8), none⟩,
        ⟨some 21, .callv false [] (.t 20) [], none⟩,
        ⟨some 9, .mv (.t 21), none⟩])
       (.seq (.ops none [⟨some 22, .mv (.t 9), none⟩,
         ⟨some 23, .bin .neq (.t 22) (.c (.int .i64 0)), none⟩])
        (.cond (.t 23)
         (.seq (.ops none [⟨some 24, .load true 3 (.t 2), none⟩,
           ⟨some 25, .call 26 false [] [(.t 24)], none⟩,
           ⟨some 26, .nilck (.t 25), none⟩,
           ⟨some 27, .load true 3 (.t 26), none⟩,
           ⟨some 28, .mv (.t 9), none⟩,
           ⟨none, .store 3 (.t 4) (.t 27), none⟩,
           ⟨some 5, .mv (.c (.bool true)), none⟩,
           ⟨some 6, .mv (.t 28), none⟩])
          .ret)
         .skip)))
      (.seq (.ops none [⟨some 29, .mv (.t 7), none⟩,
        ⟨some 30, .nilck (.t 29), none⟩,
        ⟨some 31, .load true 3 (.t 30), none⟩,
        ⟨none, .store 3 (.t 4) (.t 31), none⟩,
        ⟨some 5, .mv (.c (.bool true)), none⟩,
        ⟨some 6, .mv (.c (.int .i64 0)), none⟩])
       .ret))))))⟩
theorem cop10 : copF Try.prog raws [] 10 = some ir10 := by kernel_rfl
/-- tenterhook/flow.End -/
def ir11 : F := ⟨25, [.t 2, .t 3],
 (.seq (.ops none [⟨some 1, .box (.t 0), none⟩,
   ⟨some 2, .mv (.c (.nil)), none⟩,
   ⟨some 3, .mv (.c (.int .i64 0)), none⟩])
  (.seq (.ops none [⟨some 6, .load true 3 (.t 1), none⟩,
    ⟨some 7, .call 26 false [] [(.t 6)], none⟩,
    ⟨some 4, .mv (.t 7), none⟩])
   (.seq (.seq (.ops none [⟨some 8, .mv (.t 4), none⟩,
      ⟨some 9, .nilck (.t 8), none⟩,
      ⟨some 10, .faddr 1 (.t 9), none⟩,
      ⟨some 11, .load false 1 (.t 10), none⟩,
      ⟨some 12, .len false (.t 11), none⟩,
      ⟨some 13, .bin .gtr (.t 12) (.c (.int .i64 0)), none⟩])
     (.cond (.t 13)
      (.seq (.ops none [⟨some 2, .mv (.c (.nil)), none⟩,
        ⟨some 3, .mv (.c (.int .i64 (-22))), none⟩])
       .ret)
      .skip))
    (.seq (.seq (.ops none [⟨some 14, .mv (.t 4), none⟩,
       ⟨some 15, .build [.int .i64 0, .int .i64 0] [(0, 1, (.c (.int .i64 4)))], none⟩,
       ⟨some 16, .bslice 2 1 [.int .i64 0, .int .i64 0] [(0, (.t 15))], none⟩,
       ⟨some 17, .call 28 false [true, false] [(.t 14), (.t 16)], none⟩,
       ⟨some 5, .mv (.t 17), none⟩])
      (.seq (.ops none [⟨some 18, .mv (.t 5), none⟩,
        ⟨some 19, .bin .neq (.t 18) (.c (.int .i64 0)), none⟩])
       (.cond (.t 19)
        (.seq (.ops none [⟨some 20, .mv (.t 5), none⟩,
          ⟨some 2, .mv (.c (.nil)), none⟩,
          ⟨some 3, .mv (.t 20), none⟩])
         .ret)
        .skip)))
     (.seq (.ops none [⟨some 21, .mv (.t 4), none⟩,
       ⟨some 22, .nilck (.t 21), none⟩,
       ⟨some 23, .faddr 0 (.t 22), none⟩,
       ⟨some 24, .load false 1 (.t 23), none⟩,
       ⟨some 2, .mv (.t 24), none⟩,
       ⟨some 3, .mv (.c (.int .i64 0)), none⟩])
      .ret)))))⟩
theorem cop11 : copF Try.prog raws [] 11 = some ir11 := by kernel_rfl
/-- tenterhook/flow.Whole -/
def ir12 : F := ⟨25, [.t 2],
 (.seq (.ops none [⟨some 2, .mv (.c (.bool false)), none⟩])
  (.seq (.ops none [⟨some 5, .mv (.t 0), none⟩,
    ⟨some 6, .len false (.t 5), none⟩,
    ⟨some 3, .alloc [.int .i64 0], none⟩,
    ⟨none, .store 1 (.t 3) (.t 6), none⟩])
   (.seq (.ops none [⟨some 7, .mkfunc 29 [] [(.t 3)], none⟩,
     ⟨some 4, .mv (.t 7), none⟩])
    (.seq (.ops none [⟨some 8, .load false 1 (.t 3), none⟩,
      ⟨some 9, .bin .gtr (.t 8) (.c (.int .i64 0)), none⟩,
      ⟨some 10, .mv (.t 9), none⟩,
      ⟨some 11, .mv (.t 0), some (10, true)⟩,
      ⟨some 12, .load false 1 (.t 3), some (10, true)⟩,
      ⟨some 13, .bin .sub (.t 12) (.c (.int .i64 1)), some (10, true)⟩,
      ⟨some 14, .iaddr 2 (.t 11) (.t 13), some (10, true)⟩,
      ⟨some 15, .faddr 0 (.t 14), some (10, true)⟩,
      ⟨some 16, .load false 1 (.t 15), some (10, true)⟩,
      ⟨some 17, .bin .eql (.t 16) (.c (.int .i64 4)), some (10, true)⟩,
      ⟨some 18, .pick (.t 10) (.t 17) (.c (.bool false)), none⟩,
      ⟨some 19, .mv (.t 18), none⟩,
      ⟨some 20, .mv (.t 0), some (19, true)⟩,
      ⟨some 21, .mv (.t 4), some (19, true)⟩,
      ⟨some 22, .call 31 true [] [(.t 20), (.t 21)], some (19, true)⟩,
      ⟨some 23, .un .not (.t 22), some (19, true)⟩,
      ⟨some 24, .pick (.t 19) (.t 23) (.c (.bool false)), none⟩,
      ⟨some 2, .mv (.t 24), none⟩])
     .ret))))⟩
theorem cop12 : copF Try.prog raws [] 12 = some ir12 := by kernel_rfl
/-- tenterhook/tenterhooklaw08.few -/
def ir13 : F := ⟨19, [.t 2],
 (.seq (.ops none [⟨some 1, .box (.t 0), none⟩,
   ⟨some 2, .mv (.c (.bool false)), none⟩])
  (.seq (.ops none [⟨some 3, .faddr 0 (.t 1), none⟩,
    ⟨some 4, .load false 1 (.t 3), none⟩,
    ⟨some 5, .len false (.t 4), none⟩,
    ⟨some 6, .bin .leq (.t 5) (.c (.int .i64 200)), none⟩,
    ⟨some 7, .mv (.t 6), none⟩,
    ⟨some 8, .faddr 1 (.t 1), some (7, true)⟩,
    ⟨some 9, .load false 1 (.t 8), some (7, true)⟩,
    ⟨some 10, .len false (.t 9), some (7, true)⟩,
    ⟨some 11, .bin .leq (.t 10) (.c (.int .i64 50)), some (7, true)⟩,
    ⟨some 12, .pick (.t 7) (.t 11) (.c (.bool false)), none⟩,
    ⟨some 13, .mv (.t 12), none⟩,
    ⟨some 14, .faddr 2 (.t 1), some (13, true)⟩,
    ⟨some 15, .load false 1 (.t 14), some (13, true)⟩,
    ⟨some 16, .len false (.t 15), some (13, true)⟩,
    ⟨some 17, .bin .leq (.t 16) (.c (.int .i64 50)), some (13, true)⟩,
    ⟨some 18, .pick (.t 13) (.t 17) (.c (.bool false)), none⟩,
    ⟨some 2, .mv (.t 18), none⟩])
   .ret))⟩
theorem cop13 : copF Try.prog raws [] 13 = some ir13 := by kernel_rfl
/-- tenterhook/flow.Sane -/
def ir14 : F := ⟨27, [.t 2],
 (.seq (.ops none [⟨some 1, .box (.t 0), none⟩,
   ⟨some 2, .mv (.c (.bool false)), none⟩])
  (.seq (.ops none [⟨some 6, .faddr 0 (.t 1), none⟩,
    ⟨some 7, .load false 1 (.t 6), none⟩,
    ⟨some 8, .len false (.t 7), none⟩,
    ⟨some 3, .alloc [.int .i64 0], none⟩,
    ⟨none, .store 1 (.t 3) (.t 8), none⟩])
   (.seq (.ops none [⟨some 9, .mkfunc 32 [] [(.t 3)], none⟩,
     ⟨some 4, .mv (.t 9), none⟩])
    (.seq (.ops none [⟨some 10, .mkfunc 33 [] [(.t 1), (.t 3)], none⟩,
      ⟨some 5, .mv (.t 10), none⟩])
     (.seq (.ops none [⟨some 11, .load false 1 (.t 3), none⟩,
       ⟨some 12, .bin .leq (.t 11) (.c (.int .i64 4096)), none⟩,
       ⟨some 13, .mv (.t 12), none⟩,
       ⟨some 14, .faddr 1 (.t 1), some (13, true)⟩,
       ⟨some 15, .load false 1 (.t 14), some (13, true)⟩,
       ⟨some 16, .mv (.t 4), some (13, true)⟩,
       ⟨some 17, .call 35 true [] [(.t 15), (.t 16)], some (13, true)⟩,
       ⟨some 18, .un .not (.t 17), some (13, true)⟩,
       ⟨some 19, .pick (.t 13) (.t 18) (.c (.bool false)), none⟩,
       ⟨some 20, .mv (.t 19), none⟩,
       ⟨some 21, .faddr 2 (.t 1), some (20, true)⟩,
       ⟨some 22, .load false 1 (.t 21), some (20, true)⟩,
       ⟨some 23, .mv (.t 5), some (20, true)⟩,
       ⟨some 24, .call 35 true [] [(.t 22), (.t 23)], some (20, true)⟩,
       ⟨some 25, .un .not (.t 24), some (20, true)⟩,
       ⟨some 26, .pick (.t 20) (.t 25) (.c (.bool false)), none⟩,
       ⟨some 2, .mv (.t 26), none⟩])
      .ret)))))⟩
theorem cop14 : copF Try.prog raws [] 14 = some ir14 := by kernel_rfl
/-- tenterhook/tenterhooklaw08.ours -/
def ir15 : F := ⟨60, [.cell 2 true 3],
 (.seq (.ops none [⟨some 1, .box (.t 0), none⟩,
   ⟨some 2, .alloc [.nil, .nil, .nil], none⟩])
  (.seq (.ops none [⟨some 6, .faddr 0 (.t 1), none⟩,
    ⟨some 7, .load false 1 (.t 6), none⟩,
    ⟨some 8, .build [.nil, .nil, .nil] [(0, 1, (.t 7))], none⟩,
    ⟨some 3, .alloc [.nil, .nil, .nil], none⟩,
    ⟨none, .store 3 (.t 3) (.t 8), none⟩])
   (.seq (.seq (.ops none [⟨some 4, .mv (.c (.int .i64 0)), none⟩])
     (.block 0 (.loop [1, 2, 3, 4] [(3, some 1, 2)]
       (.seq (.seq (.ops none [⟨some 9, .mv (.t 4), none⟩,
          ⟨some 10, .faddr 1 (.t 1), none⟩,
          ⟨some 11, .load false 1 (.t 10), none⟩,
          ⟨some 12, .len false (.t 11), none⟩,
          ⟨some 13, .bin .lss (.t 9) (.t 12), none⟩])
         (.cond (.t 13)
          .skip
          (.exit 0)))
        (.seq (.block 1 (.ops (some [(1, 15)]) [⟨some 16, .faddr 1 (.t 3), none⟩,
           ⟨some 17, .load false 1 (.t 16), none⟩,
           ⟨some 18, .faddr 1 (.t 1), none⟩,
           ⟨some 19, .load false 1 (.t 18), none⟩,
           ⟨some 20, .mv (.t 4), none⟩,
           ⟨some 21, .iaddr 2 (.t 19) (.t 20), none⟩,
           ⟨some 22, .faddr 0 (.t 21), none⟩,
           ⟨some 23, .load false 1 (.t 22), none⟩,
           ⟨some 24, .faddr 1 (.t 1), none⟩,
           ⟨some 25, .load false 1 (.t 24), none⟩,
           ⟨some 26, .mv (.t 4), none⟩,
           ⟨some 27, .iaddr 2 (.t 25) (.t 26), none⟩,
           ⟨some 28, .faddr 1 (.t 27), none⟩,
           ⟨some 29, .load false 1 (.t 28), none⟩,
           ⟨some 30, .build [.int .i64 0, .int .i64 0] [(0, 1, (.t 23)), (1, 1, (.t 29))], none⟩,
           ⟨some 31, .bslice 2 1 [.int .i64 0, .int .i64 0] [(0, (.t 30))], none⟩,
           ⟨some 32, .append 2 (.t 17) (.t 31), none⟩,
           ⟨some 33, .faddr 1 (.t 3), none⟩,
           ⟨none, .store 1 (.t 33) (.t 32), none⟩]))
         (.ops none [⟨some 14, .mv (.t 4), none⟩,
          ⟨some 15, .bin .add (.t 14) (.c (.int .i64 1)), none⟩,
          ⟨some 4, .mv (.t 15), none⟩]))))))
    (.seq (.seq (.ops none [⟨some 5, .mv (.c (.int .i64 0)), none⟩])
      (.block 2 (.loop [1, 2, 3, 5] [(3, some 2, 2)]
        (.seq (.seq (.ops none [⟨some 34, .mv (.t 5), none⟩,
           ⟨some 35, .faddr 2 (.t 1), none⟩,
           ⟨some 36, .load false 1 (.t 35), none⟩,
           ⟨some 37, .len false (.t 36), none⟩,
           ⟨some 38, .bin .lss (.t 34) (.t 37), none⟩])
          (.cond (.t 38)
           .skip
           (.exit 2)))
         (.seq (.block 3 (.ops (some [(1, 15)]) [⟨some 41, .faddr 2 (.t 3), none⟩,
            ⟨some 42, .load false 1 (.t 41), none⟩,
            ⟨some 43, .faddr 2 (.t 1), none⟩,
            ⟨some 44, .load false 1 (.t 43), none⟩,
            ⟨some 45, .mv (.t 5), none⟩,
            ⟨some 46, .iaddr 2 (.t 44) (.t 45), none⟩,
            ⟨some 47, .faddr 0 (.t 46), none⟩,
            ⟨some 48, .load false 1 (.t 47), none⟩,
            ⟨some 49, .faddr 2 (.t 1), none⟩,
            ⟨some 50, .load false 1 (.t 49), none⟩,
            ⟨some 51, .mv (.t 5), none⟩,
            ⟨some 52, .iaddr 2 (.t 50) (.t 51), none⟩,
            ⟨some 53, .faddr 1 (.t 52), none⟩,
            ⟨some 54, .load false 1 (.t 53), none⟩,
            ⟨some 55, .build [.int .i64 0, .int .i64 0] [(0, 1, (.t 48)), (1, 1, (.t 54))], none⟩,
            ⟨some 56, .bslice 2 1 [.int .i64 0, .int .i64 0] [(0, (.t 55))], none⟩,
            ⟨some 57, .append 2 (.t 42) (.t 56), none⟩,
            ⟨some 58, .faddr 2 (.t 3), none⟩,
            ⟨none, .store 1 (.t 58) (.t 57), none⟩]))
          (.ops none [⟨some 39, .mv (.t 5), none⟩,
           ⟨some 40, .bin .add (.t 39) (.c (.int .i64 1)), none⟩,
           ⟨some 5, .mv (.t 40), none⟩]))))))
     (.seq (.ops none [⟨some 59, .load true 3 (.t 3), none⟩,
       ⟨none, .store 3 (.t 2) (.t 59), none⟩])
      .ret)))))⟩
theorem cop15 : copF Try.prog raws [([1, 2, 3, 4], [(3, some 1, 2)]), ([1, 2, 3, 5], [(3, some 2, 2)])] 15 = some ir15 := by kernel_rfl
/-- tenterhook/tenterhookref08.Deep -/
def ir16 : F := ⟨22, [.t 2],
 (.seq (.ops none [⟨some 1, .box (.t 0), none⟩,
   ⟨some 2, .mv (.c (.int .i64 0)), none⟩])
  (.seq (.ops none [⟨some 3, .mv (.c (.int .i64 0)), none⟩])
   (.seq (.seq (.ops none [⟨some 4, .mv (.c (.int .i64 0)), none⟩])
     (.block 0 (.loop [1, 3, 4] []
       (.seq (.seq (.ops none [⟨some 5, .mv (.t 4), none⟩,
          ⟨some 6, .faddr 1 (.t 1), none⟩,
          ⟨some 7, .load false 1 (.t 6), none⟩,
          ⟨some 8, .len false (.t 7), none⟩,
          ⟨some 9, .bin .lss (.t 5) (.t 8), none⟩])
         (.cond (.t 9)
          .skip
          (.exit 0)))
        (.seq (.block 1 (.seq (.ops none [⟨some 12, .faddr 1 (.t 1), none⟩,
            ⟨some 13, .load false 1 (.t 12), none⟩,
            ⟨some 14, .mv (.t 4), none⟩,
            ⟨some 15, .iaddr 2 (.t 13) (.t 14), none⟩,
            ⟨some 16, .faddr 0 (.t 15), none⟩,
            ⟨some 17, .load false 1 (.t 16), none⟩,
            ⟨some 18, .bin .eql (.t 17) (.c (.int .i64 3)), none⟩])
           (.cond (.t 18)
            (.ops none [⟨some 19, .mv (.t 3), none⟩,
             ⟨some 20, .bin .add (.t 19) (.c (.int .i64 1)), none⟩,
             ⟨some 3, .mv (.t 20), none⟩])
            .skip)))
         (.ops none [⟨some 10, .mv (.t 4), none⟩,
          ⟨some 11, .bin .add (.t 10) (.c (.int .i64 1)), none⟩,
          ⟨some 4, .mv (.t 11), none⟩]))))))
    (.seq (.ops none [⟨some 21, .mv (.t 3), none⟩,
      ⟨some 2, .mv (.t 21), none⟩])
     .ret))))⟩
theorem cop16 : copF Try.prog raws [([1, 3, 4], [])] 16 = some ir16 := by kernel_rfl
/-- tenterhook/tenterhookref08.Same -/
def ir17 : F := ⟨24, [.t 4],
 (.seq (.ops none [⟨some 2, .box (.t 0), none⟩,
   ⟨some 3, .box (.t 1), none⟩,
   ⟨some 4, .mv (.c (.bool false)), none⟩])
  (.seq (.ops none [⟨some 5, .faddr 0 (.t 2), none⟩,
    ⟨some 6, .load false 1 (.t 5), none⟩,
    ⟨some 7, .faddr 0 (.t 3), none⟩,
    ⟨some 8, .load false 1 (.t 7), none⟩,
    ⟨some 9, .call 23 true [] [(.t 6), (.t 8)], none⟩,
    ⟨some 10, .mv (.t 9), none⟩,
    ⟨some 11, .faddr 1 (.t 2), some (10, true)⟩,
    ⟨some 12, .load false 1 (.t 11), some (10, true)⟩,
    ⟨some 13, .faddr 1 (.t 3), some (10, true)⟩,
    ⟨some 14, .load false 1 (.t 13), some (10, true)⟩,
    ⟨some 15, .call 36 true [] [(.t 12), (.t 14)], some (10, true)⟩,
    ⟨some 16, .pick (.t 10) (.t 15) (.c (.bool false)), none⟩,
    ⟨some 17, .mv (.t 16), none⟩,
    ⟨some 18, .faddr 2 (.t 2), some (17, true)⟩,
    ⟨some 19, .load false 1 (.t 18), some (17, true)⟩,
    ⟨some 20, .faddr 2 (.t 3), some (17, true)⟩,
    ⟨some 21, .load false 1 (.t 20), some (17, true)⟩,
    ⟨some 22, .call 36 true [] [(.t 19), (.t 21)], some (17, true)⟩,
    ⟨some 23, .pick (.t 17) (.t 22) (.c (.bool false)), none⟩,
    ⟨some 4, .mv (.t 23), none⟩])
   .ret))⟩
theorem cop17 : copF Try.prog raws [] 17 = some ir17 := by kernel_rfl
/-- tenterhook/tenterhooklaw08.theirs -/
def ir18 : F := ⟨60, [.cell 2 true 3],
 (.seq (.ops none [⟨some 1, .box (.t 0), none⟩,
   ⟨some 2, .alloc [.nil, .nil, .nil], none⟩])
  (.seq (.ops none [⟨some 6, .faddr 0 (.t 1), none⟩,
    ⟨some 7, .load false 1 (.t 6), none⟩,
    ⟨some 8, .build [.nil, .nil, .nil] [(0, 1, (.t 7))], none⟩,
    ⟨some 3, .alloc [.nil, .nil, .nil], none⟩,
    ⟨none, .store 3 (.t 3) (.t 8), none⟩])
   (.seq (.seq (.ops none [⟨some 4, .mv (.c (.int .i64 0)), none⟩])
     (.block 0 (.loop [1, 2, 3, 4] [(3, some 1, 2)]
       (.seq (.seq (.ops none [⟨some 9, .mv (.t 4), none⟩,
          ⟨some 10, .faddr 1 (.t 1), none⟩,
          ⟨some 11, .load false 1 (.t 10), none⟩,
          ⟨some 12, .len false (.t 11), none⟩,
          ⟨some 13, .bin .lss (.t 9) (.t 12), none⟩])
         (.cond (.t 13)
          .skip
          (.exit 0)))
        (.seq (.block 1 (.ops (some [(1, 15)]) [⟨some 16, .faddr 1 (.t 3), none⟩,
           ⟨some 17, .load false 1 (.t 16), none⟩,
           ⟨some 18, .faddr 1 (.t 1), none⟩,
           ⟨some 19, .load false 1 (.t 18), none⟩,
           ⟨some 20, .mv (.t 4), none⟩,
           ⟨some 21, .iaddr 2 (.t 19) (.t 20), none⟩,
           ⟨some 22, .faddr 0 (.t 21), none⟩,
           ⟨some 23, .load false 1 (.t 22), none⟩,
           ⟨some 24, .faddr 1 (.t 1), none⟩,
           ⟨some 25, .load false 1 (.t 24), none⟩,
           ⟨some 26, .mv (.t 4), none⟩,
           ⟨some 27, .iaddr 2 (.t 25) (.t 26), none⟩,
           ⟨some 28, .faddr 1 (.t 27), none⟩,
           ⟨some 29, .load false 1 (.t 28), none⟩,
           ⟨some 30, .build [.int .i64 0, .int .i64 0] [(0, 1, (.t 23)), (1, 1, (.t 29))], none⟩,
           ⟨some 31, .bslice 2 1 [.int .i64 0, .int .i64 0] [(0, (.t 30))], none⟩,
           ⟨some 32, .append 2 (.t 17) (.t 31), none⟩,
           ⟨some 33, .faddr 1 (.t 3), none⟩,
           ⟨none, .store 1 (.t 33) (.t 32), none⟩]))
         (.ops none [⟨some 14, .mv (.t 4), none⟩,
          ⟨some 15, .bin .add (.t 14) (.c (.int .i64 1)), none⟩,
          ⟨some 4, .mv (.t 15), none⟩]))))))
    (.seq (.seq (.ops none [⟨some 5, .mv (.c (.int .i64 0)), none⟩])
      (.block 2 (.loop [1, 2, 3, 5] [(3, some 2, 2)]
        (.seq (.seq (.ops none [⟨some 34, .mv (.t 5), none⟩,
           ⟨some 35, .faddr 2 (.t 1), none⟩,
           ⟨some 36, .load false 1 (.t 35), none⟩,
           ⟨some 37, .len false (.t 36), none⟩,
           ⟨some 38, .bin .lss (.t 34) (.t 37), none⟩])
          (.cond (.t 38)
           .skip
           (.exit 2)))
         (.seq (.block 3 (.ops (some [(1, 15)]) [⟨some 41, .faddr 2 (.t 3), none⟩,
            ⟨some 42, .load false 1 (.t 41), none⟩,
            ⟨some 43, .faddr 2 (.t 1), none⟩,
            ⟨some 44, .load false 1 (.t 43), none⟩,
            ⟨some 45, .mv (.t 5), none⟩,
            ⟨some 46, .iaddr 2 (.t 44) (.t 45), none⟩,
            ⟨some 47, .faddr 0 (.t 46), none⟩,
            ⟨some 48, .load false 1 (.t 47), none⟩,
            ⟨some 49, .faddr 2 (.t 1), none⟩,
            ⟨some 50, .load false 1 (.t 49), none⟩,
            ⟨some 51, .mv (.t 5), none⟩,
            ⟨some 52, .iaddr 2 (.t 50) (.t 51), none⟩,
            ⟨some 53, .faddr 1 (.t 52), none⟩,
            ⟨some 54, .load false 1 (.t 53), none⟩,
            ⟨some 55, .build [.int .i64 0, .int .i64 0] [(0, 1, (.t 48)), (1, 1, (.t 54))], none⟩,
            ⟨some 56, .bslice 2 1 [.int .i64 0, .int .i64 0] [(0, (.t 55))], none⟩,
            ⟨some 57, .append 2 (.t 42) (.t 56), none⟩,
            ⟨some 58, .faddr 2 (.t 3), none⟩,
            ⟨none, .store 1 (.t 58) (.t 57), none⟩]))
          (.ops none [⟨some 39, .mv (.t 5), none⟩,
           ⟨some 40, .bin .add (.t 39) (.c (.int .i64 1)), none⟩,
           ⟨some 5, .mv (.t 40), none⟩]))))))
     (.seq (.ops none [⟨some 59, .load true 3 (.t 3), none⟩,
       ⟨none, .store 3 (.t 2) (.t 59), none⟩])
      .ret)))))⟩
theorem cop18 : copF Try.prog raws [([1, 2, 3, 4], [(3, some 1, 2)]), ([1, 2, 3, 5], [(3, some 2, 2)])] 18 = some ir18 := by kernel_rfl
/-- tenterhook/flow.Emit -/
def ir19 : F := ⟨17, [.cell 4 true 3, .t 5],
 (.seq (.ops none [⟨some 2, .box (.t 0), none⟩,
   ⟨some 4, .alloc [.nil, .nil, .nil], none⟩,
   ⟨some 5, .mv (.c (.int .i64 0)), none⟩])
  (.seq (.ops none [⟨some 8, .load true 3 (.t 2), none⟩,
    ⟨some 9, .call 26 false [] [(.t 8)], none⟩,
    ⟨some 6, .mv (.t 9), none⟩])
   (.seq (.ops none [⟨some 10, .mv (.t 6), none⟩,
     ⟨some 11, .mv (.t 1), none⟩,
     ⟨some 12, .call 28 false [true, false] [(.t 10), (.t 11)], none⟩,
     ⟨some 7, .mv (.t 12), none⟩])
    (.seq (.ops none [⟨some 13, .mv (.t 6), none⟩,
      ⟨some 14, .nilck (.t 13), none⟩,
      ⟨some 15, .load true 3 (.t 14), none⟩,
      ⟨some 16, .mv (.t 7), none⟩,
      ⟨none, .store 3 (.t 4) (.t 15), none⟩,
      ⟨some 5, .mv (.t 16), none⟩])
     .ret))))⟩
theorem cop19 : copF Try.prog raws [] 19 = some ir19 := by kernel_rfl
/-- tenterhook/tenterhookref08.Emit -/
def ir20 : F := ⟨30, [.cell 4 true 3, .t 5],
 (.seq (.ops none [⟨some 2, .box (.t 0), none⟩,
   ⟨some 4, .alloc [.nil, .nil, .nil], none⟩,
   ⟨some 5, .mv (.c (.int .i64 0)), none⟩])
  (.seq (.ops none [⟨some 7, .load true 3 (.t 2), none⟩,
    ⟨some 8, .call 37 false [] [(.t 7)], none⟩,
    ⟨none, .store 3 (.t 2) (.t 8), none⟩])
   (.seq (.seq (.ops none [⟨some 9, .faddr 0 (.t 2), none⟩,
      ⟨some 10, .load false 1 (.t 9), none⟩,
      ⟨some 11, .len false (.t 10), none⟩,
      ⟨some 12, .mv (.t 1), none⟩,
      ⟨some 13, .len false (.t 12), none⟩,
      ⟨some 14, .bin .add (.t 11) (.t 13), none⟩,
      ⟨some 15, .bin .gtr (.t 14) (.c (.int .i64 4096)), none⟩])
     (.cond (.t 15)
      (.seq (.ops none [⟨some 16, .load true 3 (.t 2), none⟩,
        ⟨none, .store 3 (.t 4) (.t 16), none⟩,
        ⟨some 5, .mv (.c (.int .i64 (-8))), none⟩])
       .ret)
      .skip))
    (.seq (.ops none [⟨some 17, .bslice 2 0 [.int .i64 0, .int .i64 0] [], none⟩,
      ⟨some 18, .faddr 0 (.t 2), none⟩,
      ⟨some 19, .load false 1 (.t 18), none⟩,
      ⟨some 20, .append 2 (.t 17) (.t 19), none⟩,
      ⟨some 6, .mv (.t 20), none⟩])
     (.seq (.ops none [⟨some 21, .mv (.t 6), none⟩,
       ⟨some 22, .mv (.t 1), none⟩,
       ⟨some 23, .append 2 (.t 21) (.t 22), none⟩,
       ⟨some 6, .mv (.t 23), none⟩])
      (.seq (.ops none [⟨some 24, .mv (.t 6), none⟩,
        ⟨some 25, .faddr 1 (.t 2), none⟩,
        ⟨some 26, .load false 1 (.t 25), none⟩,
        ⟨some 27, .faddr 2 (.t 2), none⟩,
        ⟨some 28, .load false 1 (.t 27), none⟩,
        ⟨some 29, .build [.nil, .nil, .nil] [(0, 1, (.t 24)), (1, 1, (.t 26)), (2, 1, (.t 28))], none⟩,
        ⟨none, .store 3 (.t 4) (.t 29), none⟩,
        ⟨some 5, .mv (.c (.int .i64 0)), none⟩])
       .ret))))))⟩
theorem cop20 : copF Try.prog raws [] 20 = some ir20 := by kernel_rfl
/-- tenterhook/tenterhookref08.Word -/
def ir21 : F := ⟨71, [.cell 4 true 3, .t 5, .t 6],
 (.seq (.ops none [⟨some 2, .box (.t 0), none⟩,
   ⟨some 4, .alloc [.nil, .nil, .nil], none⟩,
   ⟨some 5, .mv (.c (.bool false)), none⟩,
   ⟨some 6, .mv (.c (.int .i64 0)), none⟩])
  (.seq (.ops none [⟨some 10, .load true 3 (.t 2), none⟩,
    ⟨some 11, .call 37 false [] [(.t 10)], none⟩,
    ⟨none, .store 3 (.t 2) (.t 11), none⟩])
   (.seq (.ops none [⟨some 12, .mv (.t 1), none⟩,
     ⟨some 13, .call 38 true [] [(.t 12)], none⟩,
     ⟨some 7, .mv (.t 13), none⟩])
    (.seq (.ops none [⟨some 14, .load true 3 (.t 2), none⟩,
      ⟨some 8, .alloc [.nil, .nil, .nil], none⟩,
      ⟨none, .store 3 (.t 8) (.t 14), none⟩])
     (.seq (.ops none [⟨some 9, .mv (.c (.int .i64 0)), none⟩])
      (.seq (.seq (.ops none [⟨some 15, .mv (.t 7), none⟩])
        (.block 0 (.seq (.seq (.ops none [⟨some 18, .bin .eql (.t 15) (.c (.str ⟨#[73, 70]⟩)), none⟩,
            ⟨some 17, .mv (.t 18), none⟩])
           (.cond (.t 17)
            .skip
            (.seq (.ops none [⟨some 19, .bin .eql (.t 15) (.c (.str ⟨#[66, 69, 71, 73, 78]⟩)), none⟩,
              ⟨some 17, .mv (.t 19), none⟩])
             (.cond (.t 17)
              .skip
              (.seq (.ops none [⟨some 20, .bin .eql (.t 15) (.c (.str ⟨#[68, 79]⟩)), none⟩,
                ⟨some 17, .mv (.t 20), none⟩])
               (.cond (.t 17)
                .skip
                (.ops none [⟨some 21, .bin .eql (.t 15) (.c (.str ⟨#[63, 68, 79]⟩)), none⟩,
                 ⟨some 17, .mv (.t 21), none⟩])))))))
          (.cond (.t 17)
           (.ops none [⟨some 23, .load true 3 (.t 2), none⟩,
            ⟨some 24, .mv (.t 7), none⟩,
            ⟨some 25, .call 39 false [] [(.t 23), (.t 24)], none⟩,
            ⟨some 22, .mv (.t 25), none⟩,
            ⟨some 26, .ext (.t 22) 0, none⟩,
            ⟨some 27, .ext (.t 22) 1, none⟩,
            ⟨none, .store 3 (.t 8) (.t 26), none⟩,
            ⟨some 9, .mv (.t 27), none⟩])
           (.seq (.seq (.ops none [⟨some 29, .bin .eql (.t 15) (.c (.str ⟨#[69, 76, 83, 69]⟩)), none⟩,
              ⟨some 28, .mv (.t 29), none⟩])
             (.cond (.t 28)
              .skip
              (.ops none [⟨some 30, .bin .eql (.t 15) (.c (.str ⟨#[84, 72, 69, 78]⟩)), none⟩,
               ⟨some 28, .mv (.t 30), none⟩])))
            (.cond (.t 28)
             (.ops none [⟨some 32, .load true 3 (.t 2), none⟩,
              ⟨some 33, .mv (.t 7), none⟩,
              ⟨some 34, .call 40 false [] [(.t 32), (.t 33)], none⟩,
              ⟨some 31, .mv (.t 34), none⟩,
              ⟨some 35, .ext (.t 31) 0, none⟩,
              ⟨some 36, .ext (.t 31) 1, none⟩,
              ⟨none, .store 3 (.t 8) (.t 35), none⟩,
              ⟨some 9, .mv (.t 36), none⟩])
             (.seq (.seq (.ops none [⟨some 38, .bin .eql (.t 15) (.c (.str ⟨#[65, 71, 65, 73, 78]⟩)), none⟩,
                ⟨some 37, .mv (.t 38), none⟩])
               (.cond (.t 37)
                .skip
                (.seq (.ops none [⟨some 39, .bin .eql (.t 15) (.c (.str ⟨#[85, 78, 84, 73, 76]⟩)), none⟩,
                  ⟨some 37, .mv (.t 39), none⟩])
                 (.cond (.t 37)
                  .skip
                  (.seq (.ops none [⟨some 40, .bin .eql (.t 15) (.c (.str ⟨#[87, 72, 73, 76, 69]⟩)), none⟩,
                    ⟨some 37, .mv (.t 40), none⟩])
                   (.cond (.t 37)
                    .skip
                    (.ops none [⟨some 41, .bin .eql (.t 15) (.c (.str ⟨#[82, 69, 80, 69, 65, 84]⟩)), none⟩,
                     ⟨some 37, .mv (.t 41), none⟩])))))))
              (.cond (.t 37)
               (.ops none [⟨some 43, .load true 3 (.t 2), none⟩,
                ⟨some 44, .mv (.t 7), none⟩,
                ⟨some 45, .call 41 false [] [(.t 43), (.t 44)], none⟩,
                ⟨some 42, .mv (.t 45), none⟩,
                ⟨some 46, .ext (.t 42) 0, none⟩,
                ⟨some 47, .ext (.t 42) 1, none⟩,
                ⟨none, .store 3 (.t 8) (.t 46), none⟩,
                ⟨some 9, .mv (.t 47), none⟩])
               (.seq (.ops none [⟨some 49, .bin .eql (.t 15) (.c (.str ⟨#[76, 79, 79, 80]⟩)), none⟩,
                 ⟨some 48, .mv (.t 49), none⟩])
                (.cond (.t 48)
                 (.ops none [⟨some 51, .load true 3 (.t 2), none⟩,
                  ⟨some 52, .call 42 false [] [(.t 51), (.c (.int .i64 7))], none⟩,
                  ⟨some 50, .mv (.t 52), none⟩,
                  ⟨some 53, .ext (.t 50) 0, none⟩,
                  ⟨some 54, .ext (.t 50) 1, none⟩,
                  ⟨none, .store 3 (.t 8) (.t 53), none⟩,
                  ⟨some 9, .mv (.t 54), none⟩])
                 (.seq (.ops none [⟨some 56, .bin .eql (.t 15) (.c (.str ⟨#[43, 76, 79, 79, 80]⟩)), none⟩,
                   ⟨some 55, .mv (.t 56), none⟩])
                  (.cond (.t 55)
                   (.ops none [⟨some 58, .load true 3 (.t 2), none⟩,
                    ⟨some 59, .call 42 false [] [(.t 58), (.c (.int .i64 8))], none⟩,
                    ⟨some 57, .mv (.t 59), none⟩,
                    ⟨some 60, .ext (.t 57) 0, none⟩,
                    ⟨some 61, .ext (.t 57) 1, none⟩,
                    ⟨none, .store 3 (.t 8) (.t 60), none⟩,
                    ⟨some 9, .mv (.t 61), none⟩])
                   (.seq (.ops none [⟨some 63, .bin .eql (.t 15) (.c (.str ⟨#[76, 69, 65, 86, 69]⟩)), none⟩,
                     ⟨some 62, .mv (.t 63), none⟩])
                    (.cond (.t 62)
                     (.ops none [⟨some 65, .load true 3 (.t 2), none⟩,
                      ⟨some 66, .call 43 false [] [(.t 65)], none⟩,
                      ⟨some 64, .mv (.t 66), none⟩,
                      ⟨some 67, .ext (.t 64) 0, none⟩,
                      ⟨some 68, .ext (.t 64) 1, none⟩,
                      ⟨none, .store 3 (.t 8) (.t 67), none⟩,
                      ⟨some 9, .mv (.t 68), none⟩])
                     (.seq (.ops none [⟨some 16, .load true 3 (.t 2), none⟩,
                       ⟨none, .store 3 (.t 4) (.t 16), none⟩,
                       ⟨some 5, .mv (.c (.bool false)), none⟩,
                       ⟨some 6, .mv (.c (.int .i64 0)), none⟩])
                      .ret)))))))))))))))
       (.seq (.ops none [⟨some 69, .load true 3 (.t 8), none⟩,
         ⟨some 70, .mv (.t 9), none⟩,
         ⟨none, .store 3 (.t 4) (.t 69), none⟩,
         ⟨some 5, .mv (.c (.bool true)), none⟩,
         ⟨some 6, .mv (.t 70), none⟩])
        .ret)))))))⟩
theorem cop21 : copF Try.prog raws [] 21 = some ir21 := by kernel_rfl
/-- tenterhook/tenterhookref08.End -/
def ir22 : F := ⟨22, [.t 2, .t 3],
 (.seq (.ops none [⟨some 1, .box (.t 0), none⟩,
   ⟨some 2, .mv (.c (.nil)), none⟩,
   ⟨some 3, .mv (.c (.int .i64 0)), none⟩])
  (.seq (.ops none [⟨some 6, .load true 3 (.t 1), none⟩,
    ⟨some 7, .call 37 false [] [(.t 6)], none⟩,
    ⟨none, .store 3 (.t 1) (.t 7), none⟩])
   (.seq (.seq (.ops none [⟨some 8, .faddr 1 (.t 1), none⟩,
      ⟨some 9, .load false 1 (.t 8), none⟩,
      ⟨some 10, .len false (.t 9), none⟩,
      ⟨some 11, .bin .gtr (.t 10) (.c (.int .i64 0)), none⟩])
     (.cond (.t 11)
      (.seq (.ops none [⟨some 2, .mv (.c (.nil)), none⟩,
        ⟨some 3, .mv (.c (.int .i64 (-22))), none⟩])
       .ret)
      .skip))
    (.seq (.ops none [⟨some 13, .load true 3 (.t 1), none⟩,
      ⟨some 14, .call 44 false [] [(.t 13), (.c (.int .i64 4)), (.c (.int .i64 0))], none⟩,
      ⟨some 12, .mv (.t 14), none⟩,
      ⟨some 15, .ext (.t 12) 0, none⟩,
      ⟨some 16, .ext (.t 12) 1, none⟩,
      ⟨some 4, .alloc [.nil, .nil, .nil], none⟩,
      ⟨none, .store 3 (.t 4) (.t 15), none⟩,
      ⟨some 5, .mv (.t 16), none⟩])
     (.seq (.seq (.ops none [⟨some 17, .mv (.t 5), none⟩,
        ⟨some 18, .bin .neq (.t 17) (.c (.int .i64 0)), none⟩])
       (.cond (.t 18)
        (.seq (.ops none [⟨some 19, .mv (.t 5), none⟩,
          ⟨some 2, .mv (.c (.nil)), none⟩,
          ⟨some 3, .mv (.t 19), none⟩])
         .ret)
        .skip))
      (.seq (.ops none [⟨some 20, .faddr 0 (.t 4), none⟩,
        ⟨some 21, .load false 1 (.t 20), none⟩,
        ⟨some 2, .mv (.t 21), none⟩,
        ⟨some 3, .mv (.c (.int .i64 0)), none⟩])
       .ret))))))⟩
theorem cop22 : copF Try.prog raws [] 22 = some ir22 := by kernel_rfl
/-- tenterhook/tenterhookref08.Code -/
def ir23 : F := ⟨26, [.t 4],
 (.seq (.ops none [⟨some 4, .mv (.c (.bool false)), none⟩])
  (.seq (.seq (.ops none [⟨some 6, .mv (.t 0), none⟩,
     ⟨some 7, .len false (.t 6), none⟩,
     ⟨some 8, .mv (.t 1), none⟩,
     ⟨some 9, .len false (.t 8), none⟩,
     ⟨some 10, .bin .neq (.t 7) (.t 9), none⟩])
    (.cond (.t 10)
     (.seq (.ops none [⟨some 4, .mv (.c (.bool false)), none⟩])
      .ret)
     .skip))
   (.seq (.seq (.ops none [⟨some 5, .mv (.c (.int .i64 0)), none⟩])
     (.block 0 (.loop [0, 1, 5] []
       (.seq (.seq (.ops none [⟨some 11, .mv (.t 5), none⟩,
          ⟨some 12, .mv (.t 0), none⟩,
          ⟨some 13, .len false (.t 12), none⟩,
          ⟨some 14, .bin .lss (.t 11) (.t 13), none⟩])
         (.cond (.t 14)
          .skip
          (.exit 0)))
        (.seq (.block 1 (.seq (.ops (some []) [⟨some 17, .mv (.t 0), none⟩,
            ⟨some 18, .mv (.t 5), none⟩,
            ⟨some 19, .iaddr 2 (.t 17) (.t 18), none⟩,
            ⟨some 20, .load true 2 (.t 19), none⟩,
            ⟨some 21, .mv (.t 1), none⟩,
            ⟨some 22, .mv (.t 5), none⟩,
            ⟨some 23, .iaddr 2 (.t 21) (.t 22), none⟩,
            ⟨some 24, .load true 2 (.t 23), none⟩,
            ⟨some 25, .eqS true [0, 0] (.t 20) (.t 24), none⟩])
           (.cond (.t 25)
            (.seq (.ops none [⟨some 4, .mv (.c (.bool false)), none⟩])
             .ret)
            .skip)))
         (.ops none [⟨some 15, .mv (.t 5), none⟩,
          ⟨some 16, .bin .add (.t 15) (.c (.int .i64 1)), none⟩,
          ⟨some 5, .mv (.t 16), none⟩]))))))
    (.seq (.ops none [⟨some 4, .mv (.c (.bool true)), none⟩])
     .ret))))⟩
theorem cop23 : copF Try.prog raws [([0, 1, 5], [])] 23 = some ir23 := by kernel_rfl
/-- tenterhook/tenterhookref08.Sane -/
def ir24 : F := ⟨88, [.t 2],
 (.seq (.ops none [⟨some 1, .box (.t 0), none⟩,
   ⟨some 2, .mv (.c (.bool false)), none⟩])
  (.seq (.ops none [⟨some 8, .faddr 0 (.t 1), none⟩,
    ⟨some 9, .load false 1 (.t 8), none⟩,
    ⟨some 10, .len false (.t 9), none⟩,
    ⟨some 3, .mv (.t 10), none⟩])
   (.seq (.seq (.ops none [⟨some 4, .mv (.c (.int .i64 0)), none⟩])
     (.block 0 (.loop [1, 3, 4] []
       (.seq (.seq (.ops none [⟨some 11, .mv (.t 4), none⟩,
          ⟨some 12, .faddr 1 (.t 1), none⟩,
          ⟨some 13, .load false 1 (.t 12), none⟩,
          ⟨some 14, .len false (.t 13), none⟩,
          ⟨some 15, .bin .lss (.t 11) (.t 14), none⟩])
         (.cond (.t 15)
          .skip
          (.exit 0)))
        (.seq (.block 1 (.seq (.ops none [⟨some 18, .faddr 1 (.t 1), none⟩,
            ⟨some 19, .load false 1 (.t 18), none⟩,
            ⟨some 20, .mv (.t 4), none⟩,
            ⟨some 21, .iaddr 2 (.t 19) (.t 20), none⟩,
            ⟨some 22, .load true 2 (.t 21), none⟩,
            ⟨some 5, .alloc [.int .i64 0, .int .i64 0], none⟩,
            ⟨none, .store 2 (.t 5) (.t 22), none⟩])
           (.seq (.ops none [⟨some 23, .faddr 0 (.t 5), none⟩,
             ⟨some 24, .load false 1 (.t 23), none⟩,
             ⟨some 25, .bin .lss (.t 24) (.c (.int .i64 1)), none⟩,
             ⟨some 26, .mv (.t 25), none⟩,
             ⟨some 27, .faddr 0 (.t 5), some (26, false)⟩,
             ⟨some 28, .load false 1 (.t 27), some (26, false)⟩,
             ⟨some 29, .bin .gtr (.t 28) (.c (.int .i64 3)), some (26, false)⟩,
             ⟨some 30, .pick (.t 26) (.c (.bool true)) (.t 29), none⟩,
             ⟨some 31, .mv (.t 30), none⟩,
             ⟨some 32, .faddr 1 (.t 5), some (31, false)⟩,
             ⟨some 33, .load false 1 (.t 32), some (31, false)⟩,
             ⟨some 34, .bin .lss (.t 33) (.c (.int .i64 0)), some (31, false)⟩,
             ⟨some 35, .pick (.t 31) (.c (.bool true)) (.t 34), none⟩,
             ⟨some 36, .mv (.t 35), none⟩,
             ⟨some 37, .faddr 1 (.t 5), some (36, false)⟩,
             ⟨some 38, .load false 1 (.t 37), some (36, false)⟩,
             ⟨some 39, .mv (.t 3), some (36, false)⟩,
             ⟨some 40, .bin .gtr (.t 38) (.t 39), some (36, false)⟩,
             ⟨some 41, .pick (.t 36) (.c (.bool true)) (.t 40), none⟩,
             ⟨some 42, .mv (.t 41), none⟩,
             ⟨some 43, .faddr 0 (.t 5), some (42, false)⟩,
             ⟨some 44, .load false 1 (.t 43), some (42, false)⟩,
             ⟨some 45, .bin .eql (.t 44) (.c (.int .i64 1)), some (42, false)⟩,
             ⟨some 46, .mv (.t 45), some (42, false)⟩,
             ⟨some 47, .faddr 1 (.t 5), some (46, true)⟩,
             ⟨some 48, .load false 1 (.t 47), some (46, true)⟩,
             ⟨some 49, .mv (.t 3), some (46, true)⟩,
             ⟨some 50, .bin .eql (.t 48) (.t 49), some (46, true)⟩,
             ⟨some 51, .pick (.t 46) (.t 50) (.c (.bool false)), some (42, false)⟩,
             ⟨some 52, .pick (.t 42) (.c (.bool true)) (.t 51), none⟩])
            (.cond (.t 52)
             (.seq (.ops none [⟨some 2, .mv (.c (.bool false)), none⟩])
              .ret)
             .skip))))
         (.ops none [⟨some 16, .mv (.t 4), none⟩,
          ⟨some 17, .bin .add (.t 16) (.c (.int .i64 1)), none⟩,
          ⟨some 4, .mv (.t 17), none⟩]))))))
    (.seq (.seq (.ops none [⟨some 6, .mv (.c (.int .i64 0)), none⟩])
      (.block 2 (.loop [1, 3, 6] []
        (.seq (.seq (.ops none [⟨some 53, .mv (.t 6), none⟩,
           ⟨some 54, .faddr 2 (.t 1), none⟩,
           ⟨some 55, .load false 1 (.t 54), none⟩,
           ⟨some 56, .len false (.t 55), none⟩,
           ⟨some 57, .bin .lss (.t 53) (.t 56), none⟩])
          (.cond (.t 57)
           .skip
           (.exit 2)))
         (.seq (.block 3 (.seq (.ops none [⟨some 60, .faddr 2 (.t 1), none⟩,
             ⟨some 61, .load false 1 (.t 60), none⟩,
             ⟨some 62, .mv (.t 6), none⟩,
             ⟨some 63, .iaddr 2 (.t 61) (.t 62), none⟩,
             ⟨some 64, .load true 2 (.t 63), none⟩,
             ⟨some 7, .alloc [.int .i64 0, .int .i64 0], none⟩,
             ⟨none, .store 2 (.t 7) (.t 64), none⟩])
            (.seq (.ops (some []) [⟨some 65, .faddr 0 (.t 7), none⟩,
              ⟨some 66, .load false 1 (.t 65), none⟩,
              ⟨some 67, .bin .lss (.t 66) (.c (.int .i64 1)), none⟩,
              ⟨some 68, .mv (.t 67), none⟩,
              ⟨some 69, .faddr 0 (.t 7), some (68, false)⟩,
              ⟨some 70, .load false 1 (.t 69), some (68, false)⟩,
              ⟨some 71, .load true 3 (.t 1), some (68, false)⟩,
              ⟨some 72, .call 16 true [] [(.t 71)], some (68, false)⟩,
              ⟨some 73, .bin .gtr (.t 70) (.t 72), some (68, false)⟩,
              ⟨some 74, .pick (.t 68) (.c (.bool true)) (.t 73), none⟩,
              ⟨some 75, .mv (.t 74), none⟩,
              ⟨some 76, .faddr 1 (.t 7), some (75, false)⟩,
              ⟨some 77, .load false 1 (.t 76), some (75, false)⟩,
              ⟨some 78, .bin .lss (.t 77) (.c (.int .i64 0)), some (75, false)⟩,
              ⟨some 79, .pick (.t 75) (.c (.bool true)) (.t 78), none⟩,
              ⟨some 80, .mv (.t 79), none⟩,
              ⟨some 81, .faddr 1 (.t 7), some (80, false)⟩,
              ⟨some 82, .load false 1 (.t 81), some (80, false)⟩,
              ⟨some 83, .mv (.t 3), some (80, false)⟩,
              ⟨some 84, .bin .geq (.t 82) (.t 83), some (80, false)⟩,
              ⟨some 85, .pick (.t 80) (.c (.bool true)) (.t 84), none⟩])
             (.cond (.t 85)
              (.seq (.ops none [⟨some 2, .mv (.c (.bool false)), none⟩])
               .ret)
              .skip))))
          (.ops none [⟨some 58, .mv (.t 6), none⟩,
           ⟨some 59, .bin .add (.t 58) (.c (.int .i64 1)), none⟩,
           ⟨some 6, .mv (.t 59), none⟩]))))))
     (.seq (.ops none [⟨some 86, .mv (.t 3), none⟩,
       ⟨some 87, .bin .leq (.t 86) (.c (.int .i64 4096)), none⟩,
       ⟨some 2, .mv (.t 87), none⟩])
      .ret)))))⟩
theorem cop24 : copF Try.prog raws [([1, 3, 4], []), ([1, 3, 6], [])] 24 = some ir24 := by kernel_rfl
/-- tenterhook/tenterhookref08.Whole -/
def ir25 : F := ⟨64, [.t 2],
 (.seq (.ops none [⟨some 2, .mv (.c (.bool false)), none⟩])
  (.seq (.ops none [⟨some 6, .mv (.t 0), none⟩,
    ⟨some 7, .len false (.t 6), none⟩,
    ⟨some 3, .mv (.t 7), none⟩])
   (.seq (.seq (.ops none [⟨some 4, .mv (.c (.int .i64 0)), none⟩])
     (.block 0 (.loop [0, 3, 4] []
       (.seq (.seq (.ops none [⟨some 8, .mv (.t 4), none⟩,
          ⟨some 9, .mv (.t 3), none⟩,
          ⟨some 10, .bin .lss (.t 8) (.t 9), none⟩])
         (.cond (.t 10)
          .skip
          (.exit 0)))
        (.seq (.block 1 (.seq (.ops none [⟨some 13, .mv (.t 0), none⟩,
            ⟨some 14, .mv (.t 4), none⟩,
            ⟨some 15, .iaddr 2 (.t 13) (.t 14), none⟩,
            ⟨some 16, .faddr 0 (.t 15), none⟩,
            ⟨some 17, .load false 1 (.t 16), none⟩,
            ⟨some 5, .mv (.t 17), none⟩])
           (.seq (.ops none [⟨some 18, .mv (.t 5), none⟩,
             ⟨some 19, .bin .eql (.t 18) (.c (.int .i64 1)), none⟩,
             ⟨some 20, .mv (.t 19), none⟩,
             ⟨some 21, .mv (.t 5), some (20, false)⟩,
             ⟨some 22, .bin .eql (.t 21) (.c (.int .i64 2)), some (20, false)⟩,
             ⟨some 23, .pick (.t 20) (.c (.bool true)) (.t 22), none⟩,
             ⟨some 24, .mv (.t 23), none⟩,
             ⟨some 25, .mv (.t 5), some (24, false)⟩,
             ⟨some 26, .bin .eql (.t 25) (.c (.int .i64 6)), some (24, false)⟩,
             ⟨some 27, .pick (.t 24) (.c (.bool true)) (.t 26), none⟩,
             ⟨some 28, .mv (.t 27), none⟩,
             ⟨some 29, .mv (.t 5), some (28, false)⟩,
             ⟨some 30, .bin .eql (.t 29) (.c (.int .i64 7)), some (28, false)⟩,
             ⟨some 31, .pick (.t 28) (.c (.bool true)) (.t 30), none⟩,
             ⟨some 32, .mv (.t 31), none⟩,
             ⟨some 33, .mv (.t 5), some (32, false)⟩,
             ⟨some 34, .bin .eql (.t 33) (.c (.int .i64 8)), some (32, false)⟩,
             ⟨some 35, .pick (.t 32) (.c (.bool true)) (.t 34), none⟩,
             ⟨some 36, .mv (.t 35), none⟩,
             ⟨some 37, .mv (.t 0), some (36, true)⟩,
             ⟨some 38, .mv (.t 4), some (36, true)⟩,
             ⟨some 39, .iaddr 2 (.t 37) (.t 38), some (36, true)⟩,
             ⟨some 40, .faddr 1 (.t 39), some (36, true)⟩,
             ⟨some 41, .load false 1 (.t 40), some (36, true)⟩,
             ⟨some 42, .bin .lss (.t 41) (.c (.int .i64 0)), some (36, true)⟩,
             ⟨some 43, .mv (.t 42), some (36, true)⟩,
             ⟨some 44, .mv (.t 0), some (43, false)⟩,
             ⟨some 45, .mv (.t 4), some (43, false)⟩,
             ⟨some 46, .iaddr 2 (.t 44) (.t 45), some (43, false)⟩,
             ⟨some 47, .faddr 1 (.t 46), some (43, false)⟩,
             ⟨some 48, .load false 1 (.t 47), some (43, false)⟩,
             ⟨some 49, .mv (.t 3), some (43, false)⟩,
             ⟨some 50, .bin .geq (.t 48) (.t 49), some (43, false)⟩,
             ⟨some 51, .pick (.t 43) (.c (.bool true)) (.t 50), some (36, true)⟩,
             ⟨some 52, .pick (.t 36) (.t 51) (.c (.bool false)), none⟩])
            (.cond (.t 52)
             (.seq (.ops none [⟨some 2, .mv (.c (.bool false)), none⟩])
              .ret)
             .skip))))
         (.ops none [⟨some 11, .mv (.t 4), none⟩,
          ⟨some 12, .bin .add (.t 11) (.c (.int .i64 1)), none⟩,
          ⟨some 4, .mv (.t 12), none⟩]))))))
    (.seq (.ops none [⟨some 53, .mv (.t 3), none⟩,
      ⟨some 54, .bin .gtr (.t 53) (.c (.int .i64 0)), none⟩,
      ⟨some 55, .mv (.t 54), none⟩,
      ⟨some 56, .mv (.t 0), some (55, true)⟩,
      ⟨some 57, .mv (.t 3), some (55, true)⟩,
      ⟨some 58, .bin .sub (.t 57) (.c (.int .i64 1)), some (55, true)⟩,
      ⟨some 59, .iaddr 2 (.t 56) (.t 58), some (55, true)⟩,
      ⟨some 60, .faddr 0 (.t 59), some (55, true)⟩,
      ⟨some 61, .load false 1 (.t 60), some (55, true)⟩,
      ⟨some 62, .bin .eql (.t 61) (.c (.int .i64 4)), some (55, true)⟩,
      ⟨some 63, .pick (.t 55) (.t 62) (.c (.bool false)), none⟩,
      ⟨some 2, .mv (.t 63), none⟩])
     .ret))))⟩
theorem cop25 : copF Try.prog raws [([0, 3, 4], [])] 25 = some ir25 := by kernel_rfl
/-- tenterhook/flow.own -/
def ir26 : F := ⟨19, [.t 2],
 (.seq (.ops none [⟨some 1, .box (.t 0), none⟩,
   ⟨some 2, .mv (.c (.nilp)), none⟩])
  (.seq (.seq (.ops none [⟨some 3, .load true 3 (.t 1), none⟩,
     ⟨some 4, .call 14 true [] [(.t 3)], none⟩,
     ⟨some 5, .un .not (.t 4), none⟩])
    (.cond (.t 5)
     (.seq (.ops none [⟨some 6, .build [.nil, .nil, .nil] [], none⟩,
       ⟨some 7, .box (.t 6), none⟩,
       ⟨some 2, .mv (.t 7), none⟩])
      .ret)
     .skip))
   (.seq (.ops (some [(2, 4), (2, 7), (5, 7)]) [⟨some 8, .faddr 0 (.t 1), none⟩,
     ⟨some 9, .load false 1 (.t 8), none⟩,
     ⟨some 10, .call 45 false [] [(.t 9)], none⟩,
     ⟨some 11, .faddr 1 (.t 1), none⟩,
     ⟨some 12, .load false 1 (.t 11), none⟩,
     ⟨some 13, .call 46 false [] [(.t 12)], none⟩,
     ⟨some 14, .faddr 2 (.t 1), none⟩,
     ⟨some 15, .load false 1 (.t 14), none⟩,
     ⟨some 16, .call 46 false [] [(.t 15)], none⟩,
     ⟨some 17, .build [.nil, .nil, .nil] [(0, 1, (.t 10)), (1, 1, (.t 13)), (2, 1, (.t 16))], none⟩,
     ⟨some 18, .box (.t 17), none⟩,
     ⟨some 2, .mv (.t 18), none⟩])
    .ret)))⟩
theorem cop26 : copF Try.prog raws [] 26 = some ir26 := by kernel_rfl
/-- (*tenterhook/flow.Build).does -/
def ir27 : F := ⟨46, [.t 4],
 (.seq (.ops none [⟨some 4, .mv (.c (.nilfn)), none⟩])
  (.seq (.ops none [⟨some 8, .bslice 1 13 [.str ⟨#[]⟩] [(0, (.c (.str ⟨#[73, 70]⟩))), (1, (.c (.str ⟨#[69, 76, 83, 69]⟩))), (2, (.c (.str ⟨#[84, 72, 69, 78]⟩))), (3, (.c (.str ⟨#[66, 69, 71, 73, 78]⟩))), (4, (.c (.str ⟨#[65, 71, 65, 73, 78]⟩))), (5, (.c (.str ⟨#[85, 78, 84, 73, 76]⟩))), (6, (.c (.str ⟨#[87, 72, 73, 76, 69]⟩))), (7, (.c (.str ⟨#[82, 69, 80, 69, 65, 84]⟩))), (8, (.c (.str ⟨#[68, 79]⟩))), (9, (.c (.str ⟨#[63, 68, 79]⟩))), (10, (.c (.str ⟨#[76, 79, 79, 80]⟩))), (11, (.c (.str ⟨#[43, 76, 79, 79, 80]⟩))), (12, (.c (.str ⟨#[76, 69, 65, 86, 69]⟩)))], none⟩,
    ⟨some 5, .mv (.t 8), none⟩])
   (.seq (.ops none [⟨some 9, .mv (.t 0), none⟩,
     ⟨some 10, .mkfunc 47 [(.t 9)] [], none⟩,
     ⟨some 11, .mv (.t 0), none⟩,
     ⟨some 12, .mkfunc 48 [(.t 11)] [], none⟩,
     ⟨some 13, .mv (.t 0), none⟩,
     ⟨some 14, .mkfunc 49 [(.t 13)] [], none⟩,
     ⟨some 15, .mv (.t 0), none⟩,
     ⟨some 16, .mkfunc 50 [(.t 15)] [], none⟩,
     ⟨some 17, .mv (.t 0), none⟩,
     ⟨some 18, .mkfunc 51 [(.t 17)] [], none⟩,
     ⟨some 19, .mv (.t 0), none⟩,
     ⟨some 20, .mkfunc 52 [(.t 19)] [], none⟩,
     ⟨some 21, .mv (.t 0), none⟩,
     ⟨some 22, .mkfunc 53 [(.t 21)] [], none⟩,
     ⟨some 23, .mv (.t 0), none⟩,
     ⟨some 24, .mkfunc 54 [(.t 23)] [], none⟩,
     ⟨some 25, .mv (.t 0), none⟩,
     ⟨some 26, .mkfunc 55 [(.t 25)] [], none⟩,
     ⟨some 27, .mv (.t 0), none⟩,
     ⟨some 28, .mkfunc 56 [(.t 27)] [], none⟩,
     ⟨some 29, .mv (.t 0), none⟩,
     ⟨some 30, .mkfunc 57 [(.t 29)] [], none⟩,
     ⟨some 31, .mv (.t 0), none⟩,
     ⟨some 32, .mkfunc 58 [(.t 31)] [], none⟩,
     ⟨some 33, .mv (.t 0), none⟩,
     ⟨some 34, .mkfunc 59 [(.t 33)] [], none⟩,
     ⟨some 35, .bslice 1 13 [.nilfn] [(0, (.t 10)), (1, (.t 12)), (2, (.t 14)), (3, (.t 16)), (4, (.t 18)), (5, (.t 20)), (6, (.t 22)), (7, (.t 24)), (8, (.t 26)), (9, (.t 28)), (10, (.t 30)), (11, (.t 32)), (12, (.t 34))], none⟩,
     ⟨some 6, .mv (.t 35), none⟩])
    (.seq (.seq (.ops none [⟨some 36, .mv (.t 5), none⟩,
       ⟨some 37, .mv (.t 1), none⟩,
       ⟨some 38, .call 61 true [] [(.t 37)], none⟩,
       ⟨some 39, .call 60 true [] [(.t 36), (.t 38)], none⟩,
       ⟨some 7, .mv (.t 39), none⟩])
      (.seq (.ops none [⟨some 40, .mv (.t 7), none⟩,
        ⟨some 41, .bin .geq (.t 40) (.c (.int .i64 0)), none⟩])
       (.cond (.t 41)
        (.seq (.ops none [⟨some 42, .mv (.t 6), none⟩,
          ⟨some 43, .mv (.t 7), none⟩,
          ⟨some 44, .iaddr 1 (.t 42) (.t 43), none⟩,
          ⟨some 45, .load false 1 (.t 44), none⟩,
          ⟨some 4, .mv (.t 45), none⟩])
         .ret)
        .skip)))
     (.seq (.ops none [⟨some 4, .mv (.c (.nilfn)), none⟩])
      .ret)))))⟩
theorem cop27 : copF Try.prog raws [] 27 = some ir27 := by kernel_rfl
/-- (*tenterhook/flow.Build).lay -/
def ir28 : F := ⟨23, [.t 4],
 (.seq (.ops none [⟨some 4, .mv (.c (.int .i64 0)), none⟩])
  (.seq (.seq (.ops none [⟨some 5, .mv (.t 0), none⟩,
     ⟨some 6, .nilck (.t 5), none⟩,
     ⟨some 7, .faddr 0 (.t 6), none⟩,
     ⟨some 8, .load false 1 (.t 7), none⟩,
     ⟨some 9, .len false (.t 8), none⟩,
     ⟨some 10, .mv (.t 1), none⟩,
     ⟨some 11, .len false (.t 10), none⟩,
     ⟨some 12, .bin .add (.t 9) (.t 11), none⟩,
     ⟨some 13, .bin .gtr (.t 12) (.c (.int .i64 4096)), none⟩])
    (.cond (.t 13)
     (.seq (.ops none [⟨some 4, .mv (.c (.int .i64 (-8))), none⟩])
      .ret)
     .skip))
   (.seq (.ops none [⟨some 14, .mv (.t 0), none⟩,
     ⟨some 15, .mv (.t 0), none⟩,
     ⟨some 16, .nilck (.t 15), none⟩,
     ⟨some 17, .faddr 0 (.t 16), none⟩,
     ⟨some 18, .load false 1 (.t 17), none⟩,
     ⟨some 19, .mv (.t 1), none⟩,
     ⟨some 20, .append 2 (.t 18) (.t 19), none⟩,
     ⟨some 21, .nilck (.t 14), none⟩,
     ⟨some 22, .faddr 0 (.t 21), none⟩,
     ⟨none, .store 1 (.t 22) (.t 20), none⟩])
    (.seq (.ops none [⟨some 4, .mv (.c (.int .i64 0)), none⟩])
     .ret))))⟩
theorem cop28 : copF Try.prog raws [] 28 = some ir28 := by kernel_rfl
/-- tenterhook/flow.Whole$1 -/
def ir29 : F := ⟨18, [.t 3],
 (.seq (.ops none [⟨some 2, .box (.t 0), none⟩,
   ⟨some 3, .mv (.c (.bool false)), none⟩])
  (.seq (.ops none [⟨some 4, .faddr 0 (.t 2), none⟩,
    ⟨some 5, .load false 1 (.t 4), none⟩,
    ⟨some 6, .call 30 true [] [(.t 5)], none⟩,
    ⟨some 7, .mv (.t 6), none⟩,
    ⟨some 8, .faddr 1 (.t 2), some (7, true)⟩,
    ⟨some 9, .load false 1 (.t 8), some (7, true)⟩,
    ⟨some 10, .bin .lss (.t 9) (.c (.int .i64 0)), some (7, true)⟩,
    ⟨some 11, .mv (.t 10), some (7, true)⟩,
    ⟨some 12, .faddr 1 (.t 2), some (11, false)⟩,
    ⟨some 13, .load false 1 (.t 12), some (11, false)⟩,
    ⟨some 14, .load false 1 (.t 1), some (11, false)⟩,
    ⟨some 15, .bin .geq (.t 13) (.t 14), some (11, false)⟩,
    ⟨some 16, .pick (.t 11) (.c (.bool true)) (.t 15), some (7, true)⟩,
    ⟨some 17, .pick (.t 7) (.t 16) (.c (.bool false)), none⟩,
    ⟨some 3, .mv (.t 17), none⟩])
   .ret))⟩
theorem cop29 : copF Try.prog raws [] 29 = some ir29 := by kernel_rfl
/-- tenterhook/flow.leads -/
def ir30 : F := ⟨21, [.t 2],
 (.seq (.ops none [⟨some 2, .mv (.c (.bool false)), none⟩])
  (.seq (.ops none [⟨some 3, .mv (.t 0), none⟩,
    ⟨some 4, .bin .eql (.t 3) (.c (.int .i64 1)), none⟩,
    ⟨some 5, .mv (.t 4), none⟩,
    ⟨some 6, .mv (.t 0), some (5, false)⟩,
    ⟨some 7, .bin .eql (.t 6) (.c (.int .i64 2)), some (5, false)⟩,
    ⟨some 8, .pick (.t 5) (.c (.bool true)) (.t 7), none⟩,
    ⟨some 9, .mv (.t 8), none⟩,
    ⟨some 10, .mv (.t 0), some (9, false)⟩,
    ⟨some 11, .bin .eql (.t 10) (.c (.int .i64 6)), some (9, false)⟩,
    ⟨some 12, .pick (.t 9) (.c (.bool true)) (.t 11), none⟩,
    ⟨some 13, .mv (.t 12), none⟩,
    ⟨some 14, .mv (.t 0), some (13, false)⟩,
    ⟨some 15, .bin .eql (.t 14) (.c (.int .i64 7)), some (13, false)⟩,
    ⟨some 16, .pick (.t 13) (.c (.bool true)) (.t 15), none⟩,
    ⟨some 17, .mv (.t 16), none⟩,
    ⟨some 18, .mv (.t 0), some (17, false)⟩,
    ⟨some 19, .bin .eql (.t 18) (.c (.int .i64 8)), some (17, false)⟩,
    ⟨some 20, .pick (.t 17) (.c (.bool true)) (.t 19), none⟩,
    ⟨some 2, .mv (.t 20), none⟩])
   .ret))⟩
theorem cop30 : copF Try.prog raws [] 30 = some ir30 := by kernel_rfl
/-- slices.ContainsFunc[[]tenterhook/api.Ins,tenterhook/api.Ins] -/
def ir31 : F := ⟨9, [.t 4],
 (.seq (.ops none [⟨some 4, .mv (.c (.bool false)), none⟩])
  (.seq (.ops none [⟨some 5, .mv (.t 0), none⟩,
    ⟨some 6, .mv (.t 1), none⟩,
    ⟨some 7, .call 62 true [] [(.t 5), (.t 6)], none⟩,
    ⟨some 8, .bin .geq (.t 7) (.c (.int .i64 0)), none⟩,
    ⟨some 4, .mv (.t 8), none⟩])
   .ret))⟩
theorem cop31 : copF Try.prog raws [] 31 = some ir31 := by kernel_rfl
/-- tenterhook/flow.Sane$1 -/
def ir32 : F := ⟨34, [.t 3],
 (.seq (.ops none [⟨some 2, .box (.t 0), none⟩,
   ⟨some 3, .mv (.c (.bool false)), none⟩])
  (.seq (.ops none [⟨some 4, .faddr 0 (.t 2), none⟩,
    ⟨some 5, .load false 1 (.t 4), none⟩,
    ⟨some 6, .bin .lss (.t 5) (.c (.int .i64 1)), none⟩,
    ⟨some 7, .mv (.t 6), none⟩,
    ⟨some 8, .faddr 0 (.t 2), some (7, false)⟩,
    ⟨some 9, .load false 1 (.t 8), some (7, false)⟩,
    ⟨some 10, .bin .gtr (.t 9) (.c (.int .i64 3)), some (7, false)⟩,
    ⟨some 11, .pick (.t 7) (.c (.bool true)) (.t 10), none⟩,
    ⟨some 12, .mv (.t 11), none⟩,
    ⟨some 13, .faddr 1 (.t 2), some (12, false)⟩,
    ⟨some 14, .load false 1 (.t 13), some (12, false)⟩,
    ⟨some 15, .bin .lss (.t 14) (.c (.int .i64 0)), some (12, false)⟩,
    ⟨some 16, .pick (.t 12) (.c (.bool true)) (.t 15), none⟩,
    ⟨some 17, .mv (.t 16), none⟩,
    ⟨some 18, .faddr 1 (.t 2), some (17, false)⟩,
    ⟨some 19, .load false 1 (.t 18), some (17, false)⟩,
    ⟨some 20, .load false 1 (.t 1), some (17, false)⟩,
    ⟨some 21, .bin .gtr (.t 19) (.t 20), some (17, false)⟩,
    ⟨some 22, .pick (.t 17) (.c (.bool true)) (.t 21), none⟩,
    ⟨some 23, .mv (.t 22), none⟩,
    ⟨some 24, .faddr 0 (.t 2), some (23, false)⟩,
    ⟨some 25, .load false 1 (.t 24), some (23, false)⟩,
    ⟨some 26, .bin .eql (.t 25) (.c (.int .i64 1)), some (23, false)⟩,
    ⟨some 27, .mv (.t 26), some (23, false)⟩,
    ⟨some 28, .faddr 1 (.t 2), some (27, true)⟩,
    ⟨some 29, .load false 1 (.t 28), some (27, true)⟩,
    ⟨some 30, .load false 1 (.t 1), some (27, true)⟩,
    ⟨some 31, .bin .eql (.t 29) (.t 30), some (27, true)⟩,
    ⟨some 32, .pick (.t 27) (.t 31) (.c (.bool false)), some (23, false)⟩,
    ⟨some 33, .pick (.t 23) (.c (.bool true)) (.t 32), none⟩,
    ⟨some 3, .mv (.t 33), none⟩])
   .ret))⟩
theorem cop32 : copF Try.prog raws [] 32 = some ir32 := by kernel_rfl
/-- tenterhook/flow.Sane$2 -/
def ir33 : F := ⟨25, [.t 4],
 (.seq (.ops none [⟨some 3, .box (.t 0), none⟩,
   ⟨some 4, .mv (.c (.bool false)), none⟩])
  (.seq (.ops (some []) [⟨some 5, .faddr 0 (.t 3), none⟩,
    ⟨some 6, .load false 1 (.t 5), none⟩,
    ⟨some 7, .bin .lss (.t 6) (.c (.int .i64 1)), none⟩,
    ⟨some 8, .mv (.t 7), none⟩,
    ⟨some 9, .faddr 0 (.t 3), some (8, false)⟩,
    ⟨some 10, .load false 1 (.t 9), some (8, false)⟩,
    ⟨some 11, .call 34 true [false] [(.t 1)], some (8, false)⟩,
    ⟨some 12, .bin .gtr (.t 10) (.t 11), some (8, false)⟩,
    ⟨some 13, .pick (.t 8) (.c (.bool true)) (.t 12), none⟩,
    ⟨some 14, .mv (.t 13), none⟩,
    ⟨some 15, .faddr 1 (.t 3), some (14, false)⟩,
    ⟨some 16, .load false 1 (.t 15), some (14, false)⟩,
    ⟨some 17, .bin .lss (.t 16) (.c (.int .i64 0)), some (14, false)⟩,
    ⟨some 18, .pick (.t 14) (.c (.bool true)) (.t 17), none⟩,
    ⟨some 19, .mv (.t 18), none⟩,
    ⟨some 20, .faddr 1 (.t 3), some (19, false)⟩,
    ⟨some 21, .load false 1 (.t 20), some (19, false)⟩,
    ⟨some 22, .load false 1 (.t 2), some (19, false)⟩,
    ⟨some 23, .bin .geq (.t 21) (.t 22), some (19, false)⟩,
    ⟨some 24, .pick (.t 19) (.c (.bool true)) (.t 23), none⟩,
    ⟨some 4, .mv (.t 24), none⟩])
   .ret))⟩
theorem cop33 : copF Try.prog raws [] 33 = some ir33 := by kernel_rfl
/-- (*tenterhook/flow.Build).deep -/
def ir34 : F := ⟨22, [.t 2],
 (.seq (.ops none [⟨some 2, .mv (.c (.int .i64 0)), none⟩])
  (.seq (.ops none [⟨some 3, .mv (.c (.int .i64 0)), none⟩])
   (.seq (.seq (.ops none [⟨some 6, .mv (.t 0), none⟩,
      ⟨some 7, .nilck (.t 6), none⟩,
      ⟨some 8, .faddr 1 (.t 7), none⟩,
      ⟨some 9, .load false 1 (.t 8), none⟩,
      ⟨some 10, .len false (.t 9), none⟩,
      ⟨some 11, .mv (.c (.int .i64 0)), none⟩])
     (.block 0 (.loop [3, 9, 10, 11] []
       (.seq (.ops none [⟨some 12, .bin .lss (.t 11) (.t 10), none⟩])
        (.seq (.cond (.t 12)
          .skip
          (.exit 0))
         (.seq (.block 1 (.seq (.ops none [⟨some 13, .iaddr 2 (.t 9) (.t 11), none⟩,
             ⟨some 14, .load true 2 (.t 13), none⟩,
             ⟨some 5, .alloc [.int .i64 0, .int .i64 0], none⟩,
             ⟨none, .store 2 (.t 5) (.t 14), none⟩])
            (.seq (.ops none [⟨some 15, .faddr 0 (.t 5), none⟩,
              ⟨some 16, .load false 1 (.t 15), none⟩,
              ⟨some 17, .bin .eql (.t 16) (.c (.int .i64 3)), none⟩])
             (.cond (.t 17)
              (.ops none [⟨some 18, .mv (.t 3), none⟩,
               ⟨some 19, .bin .add (.t 18) (.c (.int .i64 1)), none⟩,
               ⟨some 3, .mv (.t 19), none⟩])
              .skip))))
          (.ops none [⟨some 20, .bin .add (.t 11) (.c (.int .i64 1)), none⟩,
           ⟨some 11, .mv (.t 20), none⟩])))))))
    (.seq (.ops none [⟨some 21, .mv (.t 3), none⟩,
      ⟨some 2, .mv (.t 21), none⟩])
     .ret))))⟩
theorem cop34 : copF Try.prog raws [([3, 9, 10, 11], [])] 34 = some ir34 := by kernel_rfl
/-- slices.ContainsFunc[[]tenterhook/flow.Mark,tenterhook/flow.Mark] -/
def ir35 : F := ⟨9, [.t 4],
 (.seq (.ops none [⟨some 4, .mv (.c (.bool false)), none⟩])
  (.seq (.ops none [⟨some 5, .mv (.t 0), none⟩,
    ⟨some 6, .mv (.t 1), none⟩,
    ⟨some 7, .call 63 false [true, true] [(.t 5), (.t 6)], none⟩,
    ⟨some 8, .bin .geq (.t 7) (.c (.int .i64 0)), none⟩,
    ⟨some 4, .mv (.t 8), none⟩])
   .ret))⟩
theorem cop35 : copF Try.prog raws [] 35 = some ir35 := by kernel_rfl
/-- tenterhook/tenterhookref08.marks -/
def ir36 : F := ⟨26, [.t 4],
 (.seq (.ops none [⟨some 4, .mv (.c (.bool false)), none⟩])
  (.seq (.seq (.ops none [⟨some 6, .mv (.t 0), none⟩,
     ⟨some 7, .len false (.t 6), none⟩,
     ⟨some 8, .mv (.t 1), none⟩,
     ⟨some 9, .len false (.t 8), none⟩,
     ⟨some 10, .bin .neq (.t 7) (.t 9), none⟩])
    (.cond (.t 10)
     (.seq (.ops none [⟨some 4, .mv (.c (.bool false)), none⟩])
      .ret)
     .skip))
   (.seq (.seq (.ops none [⟨some 5, .mv (.c (.int .i64 0)), none⟩])
     (.block 0 (.loop [0, 1, 5] []
       (.seq (.seq (.ops none [⟨some 11, .mv (.t 5), none⟩,
          ⟨some 12, .mv (.t 0), none⟩,
          ⟨some 13, .len false (.t 12), none⟩,
          ⟨some 14, .bin .lss (.t 11) (.t 13), none⟩])
         (.cond (.t 14)
          .skip
          (.exit 0)))
        (.seq (.block 1 (.seq (.ops (some []) [⟨some 17, .mv (.t 0), none⟩,
            ⟨some 18, .mv (.t 5), none⟩,
            ⟨some 19, .iaddr 2 (.t 17) (.t 18), none⟩,
            ⟨some 20, .load true 2 (.t 19), none⟩,
            ⟨some 21, .mv (.t 1), none⟩,
            ⟨some 22, .mv (.t 5), none⟩,
            ⟨some 23, .iaddr 2 (.t 21) (.t 22), none⟩,
            ⟨some 24, .load true 2 (.t 23), none⟩,
            ⟨some 25, .eqS true [0, 0] (.t 20) (.t 24), none⟩])
           (.cond (.t 25)
            (.seq (.ops none [⟨some 4, .mv (.c (.bool false)), none⟩])
             .ret)
            .skip)))
         (.ops none [⟨some 15, .mv (.t 5), none⟩,
          ⟨some 16, .bin .add (.t 15) (.c (.int .i64 1)), none⟩,
          ⟨some 5, .mv (.t 16), none⟩]))))))
    (.seq (.ops none [⟨some 4, .mv (.c (.bool true)), none⟩])
     .ret))))⟩
theorem cop36 : copF Try.prog raws [([0, 1, 5], [])] 36 = some ir36 := by kernel_rfl
/-- tenterhook/tenterhookref08.own -/
def ir37 : F := ⟨20, [.cell 2 true 3],
 (.seq (.ops none [⟨some 1, .box (.t 0), none⟩,
   ⟨some 2, .alloc [.nil, .nil, .nil], none⟩])
  (.seq (.seq (.ops none [⟨some 3, .load true 3 (.t 1), none⟩,
     ⟨some 4, .call 24 true [] [(.t 3)], none⟩,
     ⟨some 5, .un .not (.t 4), none⟩])
    (.cond (.t 5)
     (.seq (.ops none [⟨some 6, .build [.nil, .nil, .nil] [], none⟩,
       ⟨none, .store 3 (.t 2) (.t 6), none⟩])
      .ret)
     .skip))
   (.seq (.ops (some [(0, 2), (0, 4), (2, 4), (3, 4), (0, 6), (3, 6), (4, 6), (0, 8), (2, 8), (3, 8), (4, 8), (6, 8), (7, 8), (0, 10), (3, 10), (4, 10), (7, 10), (8, 10)]) [⟨some 7, .bslice 2 0 [.int .i64 0, .int .i64 0] [], none⟩,
     ⟨some 8, .faddr 0 (.t 1), none⟩,
     ⟨some 9, .load false 1 (.t 8), none⟩,
     ⟨some 10, .append 2 (.t 7) (.t 9), none⟩,
     ⟨some 11, .bslice 2 0 [.int .i64 0, .int .i64 0] [], none⟩,
     ⟨some 12, .faddr 1 (.t 1), none⟩,
     ⟨some 13, .load false 1 (.t 12), none⟩,
     ⟨some 14, .append 2 (.t 11) (.t 13), none⟩,
     ⟨some 15, .bslice 2 0 [.int .i64 0, .int .i64 0] [], none⟩,
     ⟨some 16, .faddr 2 (.t 1), none⟩,
     ⟨some 17, .load false 1 (.t 16), none⟩,
     ⟨some 18, .append 2 (.t 15) (.t 17), none⟩,
     ⟨some 19, .build [.nil, .nil, .nil] [(0, 1, (.t 10)), (1, 1, (.t 14)), (2, 1, (.t 18))], none⟩,
     ⟨none, .store 3 (.t 2) (.t 19), none⟩])
    .ret)))⟩
theorem cop37 : copF Try.prog raws [] 37 = some ir37 := by kernel_rfl
/-- tenterhook/tenterhookref06.Upper -/
def ir38 : F := ⟨35, [.t 2],
 (.seq (.ops none [⟨some 2, .mv (.c (.str ⟨#[]⟩)), none⟩])
  (.seq (.ops none [⟨some 5, .mv (.t 0), none⟩,
    ⟨some 6, .s2b (.t 5), none⟩,
    ⟨some 3, .mv (.t 6), none⟩])
   (.seq (.seq (.ops none [⟨some 4, .mv (.c (.int .i64 0)), none⟩])
     (.block 0 (.loop [3, 4] []
       (.seq (.seq (.ops none [⟨some 7, .mv (.t 4), none⟩,
          ⟨some 8, .mv (.t 3), none⟩,
          ⟨some 9, .len false (.t 8), none⟩,
          ⟨some 10, .bin .lss (.t 7) (.t 9), none⟩])
         (.cond (.t 10)
          .skip
          (.exit 0)))
        (.seq (.block 1 (.seq (.ops none [⟨some 13, .mv (.t 3), none⟩,
            ⟨some 14, .mv (.t 4), none⟩,
            ⟨some 15, .iaddr 1 (.t 13) (.t 14), none⟩,
            ⟨some 16, .load false 1 (.t 15), none⟩,
            ⟨some 17, .bin .geq (.t 16) (.c (.int .u8 97)), none⟩,
            ⟨some 18, .mv (.t 17), none⟩,
            ⟨some 19, .mv (.t 3), some (18, true)⟩,
            ⟨some 20, .mv (.t 4), some (18, true)⟩,
            ⟨some 21, .iaddr 1 (.t 19) (.t 20), some (18, true)⟩,
            ⟨some 22, .load false 1 (.t 21), some (18, true)⟩,
            ⟨some 23, .bin .leq (.t 22) (.c (.int .u8 122)), some (18, true)⟩,
            ⟨some 24, .pick (.t 18) (.t 23) (.c (.bool false)), none⟩])
           (.cond (.t 24)
            (.ops none [⟨some 25, .mv (.t 3), none⟩,
             ⟨some 26, .mv (.t 4), none⟩,
             ⟨some 27, .mv (.t 3), none⟩,
             ⟨some 28, .mv (.t 4), none⟩,
             ⟨some 29, .iaddr 1 (.t 27) (.t 28), none⟩,
             ⟨some 30, .load false 1 (.t 29), none⟩,
             ⟨some 31, .bin .sub (.t 30) (.c (.int .u8 32)), none⟩,
             ⟨some 32, .iaddr 1 (.t 25) (.t 26), none⟩,
             ⟨none, .store 1 (.t 32) (.t 31), none⟩])
            .skip)))
         (.ops none [⟨some 11, .mv (.t 4), none⟩,
          ⟨some 12, .bin .add (.t 11) (.c (.int .i64 1)), none⟩,
          ⟨some 4, .mv (.t 12), none⟩]))))))
    (.seq (.ops none [⟨some 33, .mv (.t 3), none⟩,
      ⟨some 34, .b2s (.t 33), none⟩,
      ⟨some 2, .mv (.t 34), none⟩])
     .ret))))⟩
theorem cop38 : copF Try.prog raws [([3, 4], [])] 38 = some ir38 := by kernel_rfl
/-- tenterhook/tenterhookref08.begins -/
def ir39 : F := ⟨47, [.cell 4 true 3, .t 5],
 (.seq (.ops none [⟨some 2, .box (.t 0), none⟩,
   ⟨some 4, .alloc [.nil, .nil, .nil], none⟩,
   ⟨some 5, .mv (.c (.int .i64 0)), none⟩])
  (.seq (.ops none [⟨some 10, .faddr 0 (.t 2), none⟩,
    ⟨some 11, .load false 1 (.t 10), none⟩,
    ⟨some 12, .len false (.t 11), none⟩,
    ⟨some 6, .mv (.t 12), none⟩])
   (.seq (.ops none [⟨some 7, .mv (.c (.int .i64 2)), none⟩])
    (.seq (.seq (.ops none [⟨some 13, .mv (.t 1), none⟩,
       ⟨some 14, .bin .eql (.t 13) (.c (.str ⟨#[68, 79]⟩)), none⟩])
      (.cond (.t 14)
       (.ops none [⟨some 7, .mv (.c (.int .i64 5)), none⟩])
       .skip))
     (.seq (.seq (.ops none [⟨some 15, .mv (.t 1), none⟩,
        ⟨some 16, .bin .eql (.t 15) (.c (.str ⟨#[63, 68, 79]⟩)), none⟩])
       (.cond (.t 16)
        (.ops none [⟨some 7, .mv (.c (.int .i64 6)), none⟩])
        .skip))
      (.seq (.seq (.ops none [⟨some 17, .mv (.t 1), none⟩,
         ⟨some 18, .bin .eql (.t 17) (.c (.str ⟨#[66, 69, 71, 73, 78]⟩)), none⟩])
        (.cond (.t 18)
         (.seq (.ops none [⟨some 19, .load true 3 (.t 2), none⟩,
           ⟨some 20, .mv (.t 6), none⟩,
           ⟨some 21, .call 64 false [] [(.t 19), (.c (.int .i64 2)), (.t 20)], none⟩,
           ⟨none, .store 3 (.t 4) (.t 21), none⟩,
           ⟨some 5, .mv (.c (.int .i64 0)), none⟩])
          .ret)
         .skip))
       (.seq (.ops none [⟨some 23, .load true 3 (.t 2), none⟩,
         ⟨some 24, .mv (.t 7), none⟩,
         ⟨some 25, .call 44 false [] [(.t 23), (.t 24), (.c (.int .i64 0))], none⟩,
         ⟨some 22, .mv (.t 25), none⟩,
         ⟨some 26, .ext (.t 22) 0, none⟩,
         ⟨some 27, .ext (.t 22) 1, none⟩,
         ⟨some 8, .alloc [.nil, .nil, .nil], none⟩,
         ⟨none, .store 3 (.t 8) (.t 26), none⟩,
         ⟨some 9, .mv (.t 27), none⟩])
        (.seq (.seq (.ops none [⟨some 28, .mv (.t 9), none⟩,
           ⟨some 29, .bin .neq (.t 28) (.c (.int .i64 0)), none⟩])
          (.cond (.t 29)
           (.seq (.ops none [⟨some 30, .load true 3 (.t 2), none⟩,
             ⟨some 31, .mv (.t 9), none⟩,
             ⟨none, .store 3 (.t 4) (.t 30), none⟩,
             ⟨some 5, .mv (.t 31), none⟩])
            .ret)
           .skip))
         (.seq (.seq (.ops none [⟨some 32, .mv (.t 1), none⟩,
            ⟨some 33, .bin .eql (.t 32) (.c (.str ⟨#[73, 70]⟩)), none⟩])
           (.cond (.t 33)
            (.seq (.ops none [⟨some 34, .load true 3 (.t 8), none⟩,
              ⟨some 35, .mv (.t 6), none⟩,
              ⟨some 36, .call 64 false [] [(.t 34), (.c (.int .i64 1)), (.t 35)], none⟩,
              ⟨none, .store 3 (.t 4) (.t 36), none⟩,
              ⟨some 5, .mv (.c (.int .i64 0)), none⟩])
             .ret)
            .skip))
          (.seq (.ops none [⟨some 37, .load true 3 (.t 8), none⟩,
            ⟨some 38, .mv (.t 6), none⟩,
            ⟨some 39, .bin .add (.t 38) (.c (.int .i64 1)), none⟩,
            ⟨some 40, .call 64 false [] [(.t 37), (.c (.int .i64 3)), (.t 39)], none⟩,
            ⟨none, .store 3 (.t 8) (.t 40), none⟩])
           (.seq (.seq (.ops none [⟨some 41, .mv (.t 1), none⟩,
              ⟨some 42, .bin .eql (.t 41) (.c (.str ⟨#[63, 68, 79]⟩)), none⟩])
             (.cond (.t 42)
              (.ops none [⟨some 43, .load true 3 (.t 8), none⟩,
               ⟨some 44, .mv (.t 6), none⟩,
               ⟨some 45, .call 65 false [] [(.t 43), (.t 44)], none⟩,
               ⟨none, .store 3 (.t 8) (.t 45), none⟩])
              .skip))
            (.seq (.ops none [⟨some 46, .load true 3 (.t 8), none⟩,
              ⟨none, .store 3 (.t 4) (.t 46), none⟩,
              ⟨some 5, .mv (.c (.int .i64 0)), none⟩])
             .ret))))))))))))⟩
theorem cop39 : copF Try.prog raws [] 39 = some ir39 := by kernel_rfl
/-- tenterhook/tenterhookref08.origs -/
def ir40 : F := ⟨43, [.cell 4 true 3, .t 5],
 (.seq (.ops none [⟨some 2, .box (.t 0), none⟩,
   ⟨some 4, .alloc [.nil, .nil, .nil], none⟩,
   ⟨some 5, .mv (.c (.int .i64 0)), none⟩])
  (.seq (.ops none [⟨some 11, .load true 3 (.t 2), none⟩,
    ⟨some 12, .call 66 true [] [(.t 11), (.c (.int .i64 0)), (.c (.int .i64 1))], none⟩,
    ⟨some 10, .mv (.t 12), none⟩,
    ⟨some 13, .ext (.t 10) 0, none⟩,
    ⟨some 14, .ext (.t 10) 1, none⟩,
    ⟨some 6, .alloc [.int .i64 0, .int .i64 0], none⟩,
    ⟨none, .store 2 (.t 6) (.t 13), none⟩,
    ⟨some 7, .mv (.t 14), none⟩])
   (.seq (.seq (.ops none [⟨some 15, .mv (.t 7), none⟩,
      ⟨some 16, .un .not (.t 15), none⟩])
     (.cond (.t 16)
      (.seq (.ops none [⟨some 17, .load true 3 (.t 2), none⟩,
        ⟨none, .store 3 (.t 4) (.t 17), none⟩,
        ⟨some 5, .mv (.c (.int .i64 (-22))), none⟩])
       .ret)
      .skip))
    (.seq (.seq (.ops none [⟨some 18, .mv (.t 1), none⟩,
       ⟨some 19, .bin .eql (.t 18) (.c (.str ⟨#[84, 72, 69, 78]⟩)), none⟩])
      (.cond (.t 19)
       (.seq (.ops (some [(1, 3)]) [⟨some 20, .load true 3 (.t 2), none⟩,
         ⟨some 21, .call 68 false [] [(.t 20), (.c (.int .i64 1))], none⟩,
         ⟨some 22, .faddr 1 (.t 6), none⟩,
         ⟨some 23, .load false 1 (.t 22), none⟩,
         ⟨some 24, .call 67 false [] [(.t 21), (.t 23)], none⟩,
         ⟨none, .store 3 (.t 4) (.t 24), none⟩,
         ⟨some 5, .mv (.c (.int .i64 0)), none⟩])
        .ret)
       .skip))
     (.seq (.ops none [⟨some 26, .load true 3 (.t 2), none⟩,
       ⟨some 27, .call 44 false [] [(.t 26), (.c (.int .i64 1)), (.c (.int .i64 0))], none⟩,
       ⟨some 25, .mv (.t 27), none⟩,
       ⟨some 28, .ext (.t 25) 0, none⟩,
       ⟨some 29, .ext (.t 25) 1, none⟩,
       ⟨some 8, .alloc [.nil, .nil, .nil], none⟩,
       ⟨none, .store 3 (.t 8) (.t 28), none⟩,
       ⟨some 9, .mv (.t 29), none⟩])
      (.seq (.seq (.ops none [⟨some 30, .mv (.t 9), none⟩,
         ⟨some 31, .bin .neq (.t 30) (.c (.int .i64 0)), none⟩])
        (.cond (.t 31)
         (.seq (.ops none [⟨some 32, .load true 3 (.t 2), none⟩,
           ⟨some 33, .mv (.t 9), none⟩,
           ⟨none, .store 3 (.t 4) (.t 32), none⟩,
           ⟨some 5, .mv (.t 33), none⟩])
          .ret)
         .skip))
       (.seq (.ops (some [(1, 3), (1, 6), (4, 6)]) [⟨some 34, .load true 3 (.t 8), none⟩,
         ⟨some 35, .call 68 false [] [(.t 34), (.c (.int .i64 1))], none⟩,
         ⟨some 36, .faddr 1 (.t 6), none⟩,
         ⟨some 37, .load false 1 (.t 36), none⟩,
         ⟨some 38, .call 67 false [] [(.t 35), (.t 37)], none⟩,
         ⟨some 39, .faddr 0 (.t 2), none⟩,
         ⟨some 40, .load false 1 (.t 39), none⟩,
         ⟨some 41, .len false (.t 40), none⟩,
         ⟨some 42, .call 64 false [] [(.t 38), (.c (.int .i64 1)), (.t 41)], none⟩,
         ⟨none, .store 3 (.t 4) (.t 42), none⟩,
         ⟨some 5, .mv (.c (.int .i64 0)), none⟩])
        .ret)))))))⟩
theorem cop40 : copF Try.prog raws [] 40 = some ir40 := by kernel_rfl
/-- tenterhook/tenterhookref08.dests -/
def ir41 : F := ⟨77, [.cell 4 true 3, .t 5],
 (.seq (.ops none [⟨some 2, .box (.t 0), none⟩,
   ⟨some 4, .alloc [.nil, .nil, .nil], none⟩,
   ⟨some 5, .mv (.c (.int .i64 0)), none⟩])
  (.seq (.ops none [⟨some 15, .load true 3 (.t 2), none⟩,
    ⟨some 16, .call 66 true [] [(.t 15), (.c (.int .i64 0)), (.c (.int .i64 2))], none⟩,
    ⟨some 14, .mv (.t 16), none⟩,
    ⟨some 17, .ext (.t 14) 0, none⟩,
    ⟨some 18, .ext (.t 14) 1, none⟩,
    ⟨some 6, .alloc [.int .i64 0, .int .i64 0], none⟩,
    ⟨none, .store 2 (.t 6) (.t 17), none⟩,
    ⟨some 7, .mv (.t 18), none⟩])
   (.seq (.ops none [⟨some 20, .load true 3 (.t 2), none⟩,
     ⟨some 21, .call 66 true [] [(.t 20), (.c (.int .i64 1)), (.c (.int .i64 1))], none⟩,
     ⟨some 19, .mv (.t 21), none⟩,
     ⟨some 22, .ext (.t 19) 0, none⟩,
     ⟨some 23, .ext (.t 19) 1, none⟩,
     ⟨some 8, .alloc [.int .i64 0, .int .i64 0], none⟩,
     ⟨none, .store 2 (.t 8) (.t 22), none⟩,
     ⟨some 9, .mv (.t 23), none⟩])
    (.seq (.seq (.ops none [⟨some 24, .mv (.t 7), none⟩,
       ⟨some 25, .un .not (.t 24), none⟩,
       ⟨some 26, .mv (.t 25), none⟩,
       ⟨some 27, .mv (.t 1), some (26, false)⟩,
       ⟨some 28, .bin .eql (.t 27) (.c (.str ⟨#[82, 69, 80, 69, 65, 84]⟩)), some (26, false)⟩,
       ⟨some 29, .mv (.t 28), some (26, false)⟩,
       ⟨some 30, .mv (.t 9), some (29, true)⟩,
       ⟨some 31, .un .not (.t 30), some (29, true)⟩,
       ⟨some 32, .pick (.t 29) (.t 31) (.c (.bool false)), some (26, false)⟩,
       ⟨some 33, .pick (.t 26) (.c (.bool true)) (.t 32), none⟩])
      (.cond (.t 33)
       (.seq (.ops none [⟨some 34, .load true 3 (.t 2), none⟩,
         ⟨none, .store 3 (.t 4) (.t 34), none⟩,
         ⟨some 5, .mv (.c (.int .i64 (-22))), none⟩])
        .ret)
       .skip))
     (.seq (.ops none [⟨some 10, .mv (.c (.int .i64 1)), none⟩])
      (.seq (.seq (.ops none [⟨some 35, .mv (.t 1), none⟩,
         ⟨some 36, .bin .eql (.t 35) (.c (.str ⟨#[85, 78, 84, 73, 76]⟩)), none⟩,
         ⟨some 37, .mv (.t 36), none⟩,
         ⟨some 38, .mv (.t 1), some (37, false)⟩,
         ⟨some 39, .bin .eql (.t 38) (.c (.str ⟨#[87, 72, 73, 76, 69]⟩)), some (37, false)⟩,
         ⟨some 40, .pick (.t 37) (.c (.bool true)) (.t 39), none⟩])
        (.cond (.t 40)
         (.ops none [⟨some 10, .mv (.c (.int .i64 2)), none⟩])
         .skip))
       (.seq (.ops none [⟨some 41, .faddr 1 (.t 6), none⟩,
         ⟨some 42, .load false 1 (.t 41), none⟩,
         ⟨some 11, .mv (.t 42), none⟩])
        (.seq (.seq (.ops none [⟨some 43, .mv (.t 1), none⟩,
           ⟨some 44, .bin .eql (.t 43) (.c (.str ⟨#[87, 72, 73, 76, 69]⟩)), none⟩])
          (.cond (.t 44)
           (.ops none [⟨some 11, .mv (.c (.int .i64 0)), none⟩])
           .skip))
         (.seq (.ops none [⟨some 46, .load true 3 (.t 2), none⟩,
           ⟨some 47, .mv (.t 10), none⟩,
           ⟨some 48, .mv (.t 11), none⟩,
           ⟨some 49, .call 44 false [] [(.t 46), (.t 47), (.t 48)], none⟩,
           ⟨some 45, .mv (.t 49), none⟩,
           ⟨some 50, .ext (.t 45) 0, none⟩,
           ⟨some 51, .ext (.t 45) 1, none⟩,
           ⟨some 12, .alloc [.nil, .nil, .nil], none⟩,
           ⟨none, .store 3 (.t 12) (.t 50), none⟩,
           ⟨some 13, .mv (.t 51), none⟩])
          (.seq (.seq (.ops none [⟨some 52, .mv (.t 13), none⟩,
             ⟨some 53, .bin .neq (.t 52) (.c (.int .i64 0)), none⟩])
            (.cond (.t 53)
             (.seq (.ops none [⟨some 54, .load true 3 (.t 2), none⟩,
               ⟨some 55, .mv (.t 13), none⟩,
               ⟨none, .store 3 (.t 4) (.t 54), none⟩,
               ⟨some 5, .mv (.t 55), none⟩])
              .ret)
             .skip))
           (.seq (.seq (.ops none [⟨some 56, .mv (.t 1), none⟩])
             (.block 0 (.seq (.ops none [⟨some 58, .bin .eql (.t 56) (.c (.str ⟨#[87, 72, 73, 76, 69]⟩)), none⟩,
                ⟨some 57, .mv (.t 58), none⟩])
               (.cond (.t 57)
                (.seq (.ops (some [(1, 3), (1, 7), (5, 7)]) [⟨some 59, .load true 3 (.t 12), none⟩,
                  ⟨some 60, .call 68 false [] [(.t 59), (.c (.int .i64 1))], none⟩,
                  ⟨some 61, .faddr 0 (.t 2), none⟩,
                  ⟨some 62, .load false 1 (.t 61), none⟩,
                  ⟨some 63, .len false (.t 62), none⟩,
                  ⟨some 64, .call 64 false [] [(.t 60), (.c (.int .i64 1)), (.t 63)], none⟩,
                  ⟨some 65, .faddr 1 (.t 6), none⟩,
                  ⟨some 66, .load false 1 (.t 65), none⟩,
                  ⟨some 67, .call 64 false [] [(.t 64), (.c (.int .i64 2)), (.t 66)], none⟩,
                  ⟨none, .store 3 (.t 4) (.t 67), none⟩,
                  ⟨some 5, .mv (.c (.int .i64 0)), none⟩])
                 .ret)
                (.seq (.ops none [⟨some 69, .bin .eql (.t 56) (.c (.str ⟨#[82, 69, 80, 69, 65, 84]⟩)), none⟩,
                  ⟨some 68, .mv (.t 69), none⟩])
                 (.cond (.t 68)
                  (.seq (.ops (some [(1, 3)]) [⟨some 70, .load true 3 (.t 12), none⟩,
                    ⟨some 71, .call 68 false [] [(.t 70), (.c (.int .i64 2))], none⟩,
                    ⟨some 72, .faddr 1 (.t 8), none⟩,
                    ⟨some 73, .load false 1 (.t 72), none⟩,
                    ⟨some 74, .call 67 false [] [(.t 71), (.t 73)], none⟩,
                    ⟨none, .store 3 (.t 4) (.t 74), none⟩,
                    ⟨some 5, .mv (.c (.int .i64 0)), none⟩])
                   .ret)
                  .skip))))))
            (.seq (.ops none [⟨some 75, .load true 3 (.t 12), none⟩,
              ⟨some 76, .call 68 false [] [(.t 75), (.c (.int .i64 1))], none⟩,
              ⟨none, .store 3 (.t 4) (.t 76), none⟩,
              ⟨some 5, .mv (.c (.int .i64 0)), none⟩])
             .ret))))))))))))⟩
theorem cop41 : copF Try.prog raws [] 41 = some ir41 := by kernel_rfl
/-- tenterhook/tenterhookref08.loop -/
def ir42 : F := ⟨80, [.cell 4 true 3, .t 5],
 (.seq (.ops none [⟨some 2, .box (.t 0), none⟩,
   ⟨some 4, .alloc [.nil, .nil, .nil], none⟩,
   ⟨some 5, .mv (.c (.int .i64 0)), none⟩])
  (.seq (.ops none [⟨some 14, .load true 3 (.t 2), none⟩,
    ⟨some 15, .call 66 true [] [(.t 14), (.c (.int .i64 0)), (.c (.int .i64 3))], none⟩,
    ⟨some 13, .mv (.t 15), none⟩,
    ⟨some 16, .ext (.t 13) 0, none⟩,
    ⟨some 17, .ext (.t 13) 1, none⟩,
    ⟨some 6, .alloc [.int .i64 0, .int .i64 0], none⟩,
    ⟨none, .store 2 (.t 6) (.t 16), none⟩,
    ⟨some 7, .mv (.t 17), none⟩])
   (.seq (.seq (.ops none [⟨some 18, .mv (.t 7), none⟩,
      ⟨some 19, .un .not (.t 18), none⟩])
     (.cond (.t 19)
      (.seq (.ops none [⟨some 20, .load true 3 (.t 2), none⟩,
        ⟨none, .store 3 (.t 4) (.t 20), none⟩,
        ⟨some 5, .mv (.c (.int .i64 (-22))), none⟩])
       .ret)
      .skip))
    (.seq (.ops none [⟨some 21, .load true 3 (.t 2), none⟩,
      ⟨some 22, .call 16 true [] [(.t 21)], none⟩,
      ⟨some 8, .mv (.t 22), none⟩])
     (.seq (.ops none [⟨some 24, .load true 3 (.t 2), none⟩,
       ⟨some 25, .mv (.t 1), none⟩,
       ⟨some 26, .faddr 1 (.t 6), none⟩,
       ⟨some 27, .load false 1 (.t 26), none⟩,
       ⟨some 28, .call 44 false [] [(.t 24), (.t 25), (.t 27)], none⟩,
       ⟨some 23, .mv (.t 28), none⟩,
       ⟨some 29, .ext (.t 23) 0, none⟩,
       ⟨some 30, .ext (.t 23) 1, none⟩,
       ⟨some 9, .alloc [.nil, .nil, .nil], none⟩,
       ⟨none, .store 3 (.t 9) (.t 29), none⟩,
       ⟨some 10, .mv (.t 30), none⟩])
      (.seq (.seq (.ops none [⟨some 31, .mv (.t 10), none⟩,
         ⟨some 32, .bin .neq (.t 31) (.c (.int .i64 0)), none⟩])
        (.cond (.t 32)
         (.seq (.ops none [⟨some 33, .load true 3 (.t 2), none⟩,
           ⟨some 34, .mv (.t 10), none⟩,
           ⟨none, .store 3 (.t 4) (.t 33), none⟩,
           ⟨some 5, .mv (.t 34), none⟩])
          .ret)
         .skip))
       (.seq (.ops none [⟨some 35, .load true 3 (.t 9), none⟩,
         ⟨some 36, .call 68 false [] [(.t 35), (.c (.int .i64 1))], none⟩,
         ⟨none, .store 3 (.t 9) (.t 36), none⟩])
        (.seq (.ops none [⟨some 11, .mv (.c (.nil)), none⟩])
         (.seq (.seq (.ops none [⟨some 12, .mv (.c (.int .i64 0)), none⟩])
           (.block 0 (.loop [4, 8, 9, 11, 12] [(11, none, 2)]
             (.seq (.seq (.ops none [⟨some 37, .mv (.t 12), none⟩,
                ⟨some 38, .faddr 2 (.t 9), none⟩,
                ⟨some 39, .load false 1 (.t 38), none⟩,
                ⟨some 40, .len false (.t 39), none⟩,
                ⟨some 41, .bin .lss (.t 37) (.t 40), none⟩])
               (.cond (.t 41)
                .skip
                (.exit 0)))
              (.seq (.block 1 (.seq (.ops none [⟨some 44, .faddr 2 (.t 9), none⟩,
                  ⟨some 45, .load false 1 (.t 44), none⟩,
                  ⟨some 46, .mv (.t 12), none⟩,
                  ⟨some 47, .iaddr 2 (.t 45) (.t 46), none⟩,
                  ⟨some 48, .faddr 0 (.t 47), none⟩,
                  ⟨some 49, .load false 1 (.t 48), none⟩,
                  ⟨some 50, .mv (.t 8), none⟩,
                  ⟨some 51, .bin .eql (.t 49) (.t 50), none⟩])
                 (.cond (.t 51)
                  (.ops (some [(7, 10), (7, 12)]) [⟨some 52, .load true 3 (.t 9), none⟩,
                   ⟨some 53, .faddr 2 (.t 9), none⟩,
                   ⟨some 54, .load false 1 (.t 53), none⟩,
                   ⟨some 55, .mv (.t 12), none⟩,
                   ⟨some 56, .iaddr 2 (.t 54) (.t 55), none⟩,
                   ⟨some 57, .faddr 1 (.t 56), none⟩,
                   ⟨some 58, .load false 1 (.t 57), none⟩,
                   ⟨some 59, .call 67 false [] [(.t 52), (.t 58)], none⟩,
                   ⟨some 60, .field false 0 1 (.t 59), none⟩,
                   ⟨some 61, .faddr 1 (.t 9), none⟩,
                   ⟨some 62, .load false 1 (.t 61), none⟩,
                   ⟨some 63, .faddr 2 (.t 9), none⟩,
                   ⟨some 64, .load false 1 (.t 63), none⟩,
                   ⟨some 65, .build [.nil, .nil, .nil] [(0, 1, (.t 60)), (1, 1, (.t 62)), (2, 1, (.t 64))], none⟩,
                   ⟨none, .store 3 (.t 9) (.t 65), none⟩])
                  (.ops none [⟨some 66, .mv (.t 11), none⟩,
                   ⟨some 67, .faddr 2 (.t 9), none⟩,
                   ⟨some 68, .load false 1 (.t 67), none⟩,
                   ⟨some 69, .mv (.t 12), none⟩,
                   ⟨some 70, .iaddr 2 (.t 68) (.t 69), none⟩,
                   ⟨some 71, .load true 2 (.t 70), none⟩,
                   ⟨some 72, .bslice 2 1 [.int .i64 0, .int .i64 0] [(0, (.t 71))], none⟩,
                   ⟨some 73, .append 2 (.t 66) (.t 72), none⟩,
                   ⟨some 11, .mv (.t 73), none⟩]))))
               (.ops none [⟨some 42, .mv (.t 12), none⟩,
                ⟨some 43, .bin .add (.t 42) (.c (.int .i64 1)), none⟩,
                ⟨some 12, .mv (.t 43), none⟩]))))))
          (.seq (.ops none [⟨some 74, .faddr 0 (.t 9), none⟩,
            ⟨some 75, .load false 1 (.t 74), none⟩,
            ⟨some 76, .faddr 1 (.t 9), none⟩,
            ⟨some 77, .load false 1 (.t 76), none⟩,
            ⟨some 78, .mv (.t 11), none⟩,
            ⟨some 79, .build [.nil, .nil, .nil] [(0, 1, (.t 75)), (1, 1, (.t 77)), (2, 1, (.t 78))], none⟩,
            ⟨none, .store 3 (.t 4) (.t 79), none⟩,
            ⟨some 5, .mv (.c (.int .i64 0)), none⟩])
           .ret))))))))))⟩
theorem cop42 : copF Try.prog raws [([4, 8, 9, 11, 12], [(11, none, 2)])] 42 = some ir42 := by kernel_rfl
/-- tenterhook/tenterhookref08.leave -/
def ir43 : F := ⟨28, [.cell 2 true 3, .t 3],
 (.seq (.ops none [⟨some 1, .box (.t 0), none⟩,
   ⟨some 2, .alloc [.nil, .nil, .nil], none⟩,
   ⟨some 3, .mv (.c (.int .i64 0)), none⟩])
  (.seq (.seq (.ops none [⟨some 6, .load true 3 (.t 1), none⟩,
     ⟨some 7, .call 16 true [] [(.t 6)], none⟩,
     ⟨some 8, .bin .eql (.t 7) (.c (.int .i64 0)), none⟩])
    (.cond (.t 8)
     (.seq (.ops none [⟨some 9, .load true 3 (.t 1), none⟩,
       ⟨none, .store 3 (.t 2) (.t 9), none⟩,
       ⟨some 3, .mv (.c (.int .i64 (-22))), none⟩])
      .ret)
     .skip))
   (.seq (.ops none [⟨some 11, .load true 3 (.t 1), none⟩,
     ⟨some 12, .build [.int .i64 0, .int .i64 0] [(0, 1, (.c (.int .i64 9)))], none⟩,
     ⟨some 13, .build [.int .i64 0, .int .i64 0] [(0, 1, (.c (.int .i64 1)))], none⟩,
     ⟨some 14, .bslice 2 2 [.int .i64 0, .int .i64 0] [(0, (.t 12)), (1, (.t 13))], none⟩,
     ⟨some 15, .call 20 false [] [(.t 11), (.t 14)], none⟩,
     ⟨some 10, .mv (.t 15), none⟩,
     ⟨some 16, .ext (.t 10) 0, none⟩,
     ⟨some 17, .ext (.t 10) 1, none⟩,
     ⟨some 4, .alloc [.nil, .nil, .nil], none⟩,
     ⟨none, .store 3 (.t 4) (.t 16), none⟩,
     ⟨some 5, .mv (.t 17), none⟩])
    (.seq (.seq (.ops none [⟨some 18, .mv (.t 5), none⟩,
       ⟨some 19, .bin .neq (.t 18) (.c (.int .i64 0)), none⟩])
      (.cond (.t 19)
       (.seq (.ops none [⟨some 20, .load true 3 (.t 1), none⟩,
         ⟨some 21, .mv (.t 5), none⟩,
         ⟨none, .store 3 (.t 2) (.t 20), none⟩,
         ⟨some 3, .mv (.t 21), none⟩])
        .ret)
       .skip))
     (.seq (.ops none [⟨some 22, .load true 3 (.t 4), none⟩,
       ⟨some 23, .faddr 0 (.t 1), none⟩,
       ⟨some 24, .load false 1 (.t 23), none⟩,
       ⟨some 25, .len false (.t 24), none⟩,
       ⟨some 26, .bin .add (.t 25) (.c (.int .i64 1)), none⟩,
       ⟨some 27, .call 65 false [] [(.t 22), (.t 26)], none⟩,
       ⟨none, .store 3 (.t 2) (.t 27), none⟩,
       ⟨some 3, .mv (.c (.int .i64 0)), none⟩])
      .ret)))))⟩
theorem cop43 : copF Try.prog raws [] 43 = some ir43 := by kernel_rfl
/-- tenterhook/tenterhookref08.one -/
def ir44 : F := ⟨16, [.cell 6 true 3, .t 7],
 (.seq (.ops none [⟨some 3, .box (.t 0), none⟩,
   ⟨some 6, .alloc [.nil, .nil, .nil], none⟩,
   ⟨some 7, .mv (.c (.int .i64 0)), none⟩])
  (.seq (.ops none [⟨some 8, .load true 3 (.t 3), none⟩,
    ⟨some 9, .mv (.t 1), none⟩,
    ⟨some 10, .mv (.t 2), none⟩,
    ⟨some 11, .build [.int .i64 0, .int .i64 0] [(0, 1, (.t 9)), (1, 1, (.t 10))], none⟩,
    ⟨some 12, .bslice 2 1 [.int .i64 0, .int .i64 0] [(0, (.t 11))], none⟩,
    ⟨some 13, .call 20 false [] [(.t 8), (.t 12)], none⟩,
    ⟨some 14, .ext (.t 13) 0, none⟩,
    ⟨some 15, .ext (.t 13) 1, none⟩,
    ⟨none, .store 3 (.t 6) (.t 14), none⟩,
    ⟨some 7, .mv (.t 15), none⟩])
   .ret))⟩
theorem cop44 : copF Try.prog raws [] 44 = some ir44 := by kernel_rfl
/-- slices.Clone[[]tenterhook/api.Ins,tenterhook/api.Ins] -/
def ir45 : F := ⟨8, [.t 2],
 (.seq (.ops none [⟨some 2, .mv (.c (.nil)), none⟩])
  (.seq (.seq (.ops none [⟨some 3, .mv (.t 0), none⟩,
     ⟨some 4, .eqNil false false (.t 3), none⟩])
    (.cond (.t 4)
     (.seq (.ops none [⟨some 2, .mv (.c (.nil)), none⟩])
      .ret)
     .skip))
   (.seq (.ops none [⟨some 5, .bslice 2 0 [.int .i64 0, .int .i64 0] [], none⟩,
     ⟨some 6, .mv (.t 0), none⟩,
     ⟨some 7, .append 2 (.t 5) (.t 6), none⟩,
     ⟨some 2, .mv (.t 7), none⟩])
    .ret)))⟩
theorem cop45 : copF Try.prog raws [] 45 = some ir45 := by kernel_rfl
/-- slices.Clone[[]tenterhook/flow.Mark,tenterhook/flow.Mark] -/
def ir46 : F := ⟨8, [.t 2],
 (.seq (.ops none [⟨some 2, .mv (.c (.nil)), none⟩])
  (.seq (.seq (.ops none [⟨some 3, .mv (.t 0), none⟩,
     ⟨some 4, .eqNil false false (.t 3), none⟩])
    (.cond (.t 4)
     (.seq (.ops none [⟨some 2, .mv (.c (.nil)), none⟩])
      .ret)
     .skip))
   (.seq (.ops none [⟨some 5, .bslice 2 0 [.int .i64 0, .int .i64 0] [], none⟩,
     ⟨some 6, .mv (.t 0), none⟩,
     ⟨some 7, .append 2 (.t 5) (.t 6), none⟩,
     ⟨some 2, .mv (.t 7), none⟩])
    .ret)))⟩
theorem cop46 : copF Try.prog raws [] 46 = some ir46 := by kernel_rfl
/-- (*tenterhook/flow.Build).wIf -/
def ir47 : F := ⟨5, [.t 2],
 (.seq (.ops none [⟨some 2, .mv (.c (.int .i64 0)), none⟩])
  (.seq (.ops none [⟨some 3, .mv (.t 0), none⟩,
    ⟨some 4, .call 69 false [true, false, false, false] [(.t 3), (.c (.int .i64 2)), (.c (.int .i64 1)), (.c (.int .i64 0))], none⟩,
    ⟨some 2, .mv (.t 4), none⟩])
   .ret))⟩
theorem cop47 : copF Try.prog raws [] 47 = some ir47 := by kernel_rfl
/-- (*tenterhook/flow.Build).wElse -/
def ir48 : F := ⟨41, [.t 2],
 (.seq (.ops none [⟨some 2, .mv (.c (.int .i64 0)), none⟩])
  (.seq (.ops none [⟨some 7, .mv (.t 0), none⟩,
    ⟨some 8, .call 70 true [false, false, false] [(.t 7), (.c (.int .i64 0)), (.c (.int .i64 1))], none⟩,
    ⟨some 6, .mv (.t 8), none⟩,
    ⟨some 9, .ext (.t 6) 0, none⟩,
    ⟨some 10, .ext (.t 6) 1, none⟩,
    ⟨some 3, .mv (.t 9), none⟩,
    ⟨some 4, .mv (.t 10), none⟩])
   (.seq (.seq (.ops none [⟨some 11, .mv (.t 4), none⟩,
      ⟨some 12, .un .not (.t 11), none⟩])
     (.cond (.t 12)
      (.seq (.ops none [⟨some 2, .mv (.c (.int .i64 (-22))), none⟩])
       .ret)
      .skip))
    (.seq (.seq (.ops none [⟨some 13, .mv (.t 0), none⟩,
       ⟨some 14, .build [.int .i64 0, .int .i64 0] [(0, 1, (.c (.int .i64 1)))], none⟩,
       ⟨some 15, .bslice 2 1 [.int .i64 0, .int .i64 0] [(0, (.t 14))], none⟩,
       ⟨some 16, .call 28 false [true, false] [(.t 13), (.t 15)], none⟩,
       ⟨some 5, .mv (.t 16), none⟩])
      (.seq (.ops none [⟨some 17, .mv (.t 5), none⟩,
        ⟨some 18, .bin .neq (.t 17) (.c (.int .i64 0)), none⟩])
       (.cond (.t 18)
        (.seq (.ops none [⟨some 19, .mv (.t 5), none⟩,
          ⟨some 2, .mv (.t 19), none⟩])
         .ret)
        .skip)))
     (.seq (.ops none [⟨some 20, .mv (.t 0), none⟩,
       ⟨some 21, .mv (.t 3), none⟩,
       ⟨some 22, .call 71 false [true, false] [(.t 20), (.t 21)], none⟩])
      (.seq (.ops (some []) [⟨some 23, .mv (.t 0), none⟩,
        ⟨some 24, .nilck (.t 23), none⟩,
        ⟨some 25, .faddr 1 (.t 24), none⟩,
        ⟨some 26, .load false 1 (.t 25), none⟩,
        ⟨some 27, .mv (.t 0), none⟩,
        ⟨some 28, .nilck (.t 27), none⟩,
        ⟨some 29, .faddr 1 (.t 28), none⟩,
        ⟨some 30, .load false 1 (.t 29), none⟩,
        ⟨some 31, .len false (.t 30), none⟩,
        ⟨some 32, .bin .sub (.t 31) (.c (.int .i64 1)), none⟩,
        ⟨some 33, .mv (.t 0), none⟩,
        ⟨some 34, .nilck (.t 33), none⟩,
        ⟨some 35, .faddr 0 (.t 34), none⟩,
        ⟨some 36, .load false 1 (.t 35), none⟩,
        ⟨some 37, .len false (.t 36), none⟩,
        ⟨some 38, .bin .sub (.t 37) (.c (.int .i64 1)), none⟩,
        ⟨some 39, .iaddr 2 (.t 26) (.t 32), none⟩,
        ⟨some 40, .faddr 1 (.t 39), none⟩,
        ⟨none, .store 1 (.t 40) (.t 38), none⟩])
       (.seq (.ops none [⟨some 2, .mv (.c (.int .i64 0)), none⟩])
        .ret)))))))⟩
theorem cop48 : copF Try.prog raws [] 48 = some ir48 := by kernel_rfl
/-- (*tenterhook/flow.Build).wThen -/
def ir49 : F := ⟨17, [.t 2],
 (.seq (.ops none [⟨some 2, .mv (.c (.int .i64 0)), none⟩])
  (.seq (.ops none [⟨some 6, .mv (.t 0), none⟩,
    ⟨some 7, .call 70 true [false, false, false] [(.t 6), (.c (.int .i64 0)), (.c (.int .i64 1))], none⟩,
    ⟨some 5, .mv (.t 7), none⟩,
    ⟨some 8, .ext (.t 5) 0, none⟩,
    ⟨some 9, .ext (.t 5) 1, none⟩,
    ⟨some 3, .mv (.t 8), none⟩,
    ⟨some 4, .mv (.t 9), none⟩])
   (.seq (.seq (.ops none [⟨some 10, .mv (.t 4), none⟩,
      ⟨some 11, .un .not (.t 10), none⟩])
     (.cond (.t 11)
      (.seq (.ops none [⟨some 2, .mv (.c (.int .i64 (-22))), none⟩])
       .ret)
      .skip))
    (.seq (.ops none [⟨some 12, .mv (.t 0), none⟩,
      ⟨some 13, .call 72 false [true, false] [(.t 12), (.c (.int .i64 1))], none⟩])
     (.seq (.ops none [⟨some 14, .mv (.t 0), none⟩,
       ⟨some 15, .mv (.t 3), none⟩,
       ⟨some 16, .call 71 false [true, false] [(.t 14), (.t 15)], none⟩])
      (.seq (.ops none [⟨some 2, .mv (.c (.int .i64 0)), none⟩])
       .ret))))))⟩
theorem cop49 : copF Try.prog raws [] 49 = some ir49 := by kernel_rfl
/-- (*tenterhook/flow.Build).wBegin -/
def ir50 : F := ⟨10, [.t 2],
 (.seq (.ops none [⟨some 2, .mv (.c (.int .i64 0)), none⟩])
  (.seq (.ops none [⟨some 3, .mv (.t 0), none⟩,
    ⟨some 4, .mv (.t 0), none⟩,
    ⟨some 5, .nilck (.t 4), none⟩,
    ⟨some 6, .faddr 0 (.t 5), none⟩,
    ⟨some 7, .load false 1 (.t 6), none⟩,
    ⟨some 8, .len false (.t 7), none⟩,
    ⟨some 9, .call 73 false [true, false, false] [(.t 3), (.c (.int .i64 2)), (.t 8)], none⟩])
   (.seq (.ops none [⟨some 2, .mv (.c (.int .i64 0)), none⟩])
    .ret)))⟩
theorem cop50 : copF Try.prog raws [] 50 = some ir50 := by kernel_rfl
/-- (*tenterhook/flow.Build).wAgain -/
def ir51 : F := ⟨5, [.t 2],
 (.seq (.ops none [⟨some 2, .mv (.c (.int .i64 0)), none⟩])
  (.seq (.ops none [⟨some 3, .mv (.t 0), none⟩,
    ⟨some 4, .call 74 false [true, false, false] [(.t 3), (.c (.int .i64 1)), (.c (.int .i64 2))], none⟩,
    ⟨some 2, .mv (.t 4), none⟩])
   .ret))⟩
theorem cop51 : copF Try.prog raws [] 51 = some ir51 := by kernel_rfl
/-- (*tenterhook/flow.Build).wUntil -/
def ir52 : F := ⟨5, [.t 2],
 (.seq (.ops none [⟨some 2, .mv (.c (.int .i64 0)), none⟩])
  (.seq (.ops none [⟨some 3, .mv (.t 0), none⟩,
    ⟨some 4, .call 74 false [true, false, false] [(.t 3), (.c (.int .i64 2)), (.c (.int .i64 2))], none⟩,
    ⟨some 2, .mv (.t 4), none⟩])
   .ret))⟩
theorem cop52 : copF Try.prog raws [] 52 = some ir52 := by kernel_rfl
/-- (*tenterhook/flow.Build).wWhile -/
def ir53 : F := ⟨34, [.t 2],
 (.seq (.ops none [⟨some 2, .mv (.c (.int .i64 0)), none⟩])
  (.seq (.ops none [⟨some 8, .mv (.t 0), none⟩,
    ⟨some 9, .call 70 true [false, false, false] [(.t 8), (.c (.int .i64 0)), (.c (.int .i64 2))], none⟩,
    ⟨some 7, .mv (.t 9), none⟩,
    ⟨some 10, .ext (.t 7) 0, none⟩,
    ⟨some 11, .ext (.t 7) 1, none⟩,
    ⟨some 3, .mv (.t 10), none⟩,
    ⟨some 4, .mv (.t 11), none⟩])
   (.seq (.seq (.ops none [⟨some 12, .mv (.t 4), none⟩,
      ⟨some 13, .un .not (.t 12), none⟩])
     (.cond (.t 13)
      (.seq (.ops none [⟨some 2, .mv (.c (.int .i64 (-22))), none⟩])
       .ret)
      .skip))
    (.seq (.ops none [⟨some 14, .mv (.t 0), none⟩,
      ⟨some 15, .nilck (.t 14), none⟩,
      ⟨some 16, .faddr 0 (.t 15), none⟩,
      ⟨some 17, .load false 1 (.t 16), none⟩,
      ⟨some 18, .len false (.t 17), none⟩,
      ⟨some 5, .mv (.t 18), none⟩])
     (.seq (.seq (.ops none [⟨some 19, .mv (.t 0), none⟩,
        ⟨some 20, .build [.int .i64 0, .int .i64 0] [(0, 1, (.c (.int .i64 2)))], none⟩,
        ⟨some 21, .bslice 2 1 [.int .i64 0, .int .i64 0] [(0, (.t 20))], none⟩,
        ⟨some 22, .call 28 false [true, false] [(.t 19), (.t 21)], none⟩,
        ⟨some 6, .mv (.t 22), none⟩])
       (.seq (.ops none [⟨some 23, .mv (.t 6), none⟩,
         ⟨some 24, .bin .neq (.t 23) (.c (.int .i64 0)), none⟩])
        (.cond (.t 24)
         (.seq (.ops none [⟨some 25, .mv (.t 6), none⟩,
           ⟨some 2, .mv (.t 25), none⟩])
          .ret)
         .skip)))
      (.seq (.ops none [⟨some 26, .mv (.t 0), none⟩,
        ⟨some 27, .call 72 false [true, false] [(.t 26), (.c (.int .i64 1))], none⟩])
       (.seq (.ops none [⟨some 28, .mv (.t 0), none⟩,
         ⟨some 29, .mv (.t 5), none⟩,
         ⟨some 30, .call 73 false [true, false, false] [(.t 28), (.c (.int .i64 1)), (.t 29)], none⟩])
        (.seq (.ops none [⟨some 31, .mv (.t 0), none⟩,
          ⟨some 32, .mv (.t 3), none⟩,
          ⟨some 33, .call 73 false [true, false, false] [(.t 31), (.c (.int .i64 2)), (.t 32)], none⟩])
         (.seq (.ops none [⟨some 2, .mv (.c (.int .i64 0)), none⟩])
          .ret)))))))))⟩
theorem cop53 : copF Try.prog raws [] 53 = some ir53 := by kernel_rfl
/-- (*tenterhook/flow.Build).wRepeat -/
def ir54 : F := ⟨34, [.t 2],
 (.seq (.ops none [⟨some 2, .mv (.c (.int .i64 0)), none⟩])
  (.seq (.ops none [⟨some 9, .mv (.t 0), none⟩,
    ⟨some 10, .call 70 true [false, false, false] [(.t 9), (.c (.int .i64 1)), (.c (.int .i64 1))], none⟩,
    ⟨some 8, .mv (.t 10), none⟩,
    ⟨some 11, .ext (.t 8) 0, none⟩,
    ⟨some 12, .ext (.t 8) 1, none⟩,
    ⟨some 3, .mv (.t 11), none⟩,
    ⟨some 4, .mv (.t 12), none⟩])
   (.seq (.seq (.ops none [⟨some 14, .mv (.t 0), none⟩,
      ⟨some 15, .call 70 true [false, false, false] [(.t 14), (.c (.int .i64 0)), (.c (.int .i64 2))], none⟩,
      ⟨some 13, .mv (.t 15), none⟩,
      ⟨some 16, .ext (.t 13) 0, none⟩,
      ⟨some 17, .ext (.t 13) 1, none⟩,
      ⟨some 5, .mv (.t 16), none⟩,
      ⟨some 6, .mv (.t 17), none⟩])
     (.seq (.ops none [⟨some 18, .mv (.t 4), none⟩,
       ⟨some 19, .un .not (.t 18), none⟩,
       ⟨some 20, .mv (.t 19), none⟩,
       ⟨some 21, .mv (.t 6), some (20, false)⟩,
       ⟨some 22, .un .not (.t 21), some (20, false)⟩,
       ⟨some 23, .pick (.t 20) (.c (.bool true)) (.t 22), none⟩])
      (.cond (.t 23)
       (.seq (.ops none [⟨some 2, .mv (.c (.int .i64 (-22))), none⟩])
        .ret)
       .skip)))
    (.seq (.seq (.ops none [⟨some 24, .mv (.t 0), none⟩,
       ⟨some 25, .call 74 false [true, false, false] [(.t 24), (.c (.int .i64 1)), (.c (.int .i64 2))], none⟩,
       ⟨some 7, .mv (.t 25), none⟩])
      (.seq (.ops none [⟨some 26, .mv (.t 7), none⟩,
        ⟨some 27, .bin .neq (.t 26) (.c (.int .i64 0)), none⟩])
       (.cond (.t 27)
        (.seq (.ops none [⟨some 28, .mv (.t 7), none⟩,
          ⟨some 2, .mv (.t 28), none⟩])
         .ret)
        .skip)))
     (.seq (.ops none [⟨some 29, .mv (.t 0), none⟩,
       ⟨some 30, .call 72 false [true, false] [(.t 29), (.c (.int .i64 1))], none⟩])
      (.seq (.ops none [⟨some 31, .mv (.t 0), none⟩,
        ⟨some 32, .mv (.t 3), none⟩,
        ⟨some 33, .call 71 false [true, false] [(.t 31), (.t 32)], none⟩])
       (.seq (.ops none [⟨some 2, .mv (.c (.int .i64 0)), none⟩])
        .ret)))))))⟩
theorem cop54 : copF Try.prog raws [] 54 = some ir54 := by kernel_rfl
/-- (*tenterhook/flow.Build).wDo -/
def ir55 : F := ⟨5, [.t 2],
 (.seq (.ops none [⟨some 2, .mv (.c (.int .i64 0)), none⟩])
  (.seq (.ops none [⟨some 3, .mv (.t 0), none⟩,
    ⟨some 4, .call 69 false [true, false, false, false] [(.t 3), (.c (.int .i64 5)), (.c (.int .i64 3)), (.c (.int .i64 1))], none⟩,
    ⟨some 2, .mv (.t 4), none⟩])
   .ret))⟩
theorem cop55 : copF Try.prog raws [] 55 = some ir55 := by kernel_rfl
/-- (*tenterhook/flow.Build).wMayDo -/
def ir56 : F := ⟨18, [.t 2],
 (.seq (.ops none [⟨some 2, .mv (.c (.int .i64 0)), none⟩])
  (.seq (.ops none [⟨some 5, .mv (.t 0), none⟩,
    ⟨some 6, .nilck (.t 5), none⟩,
    ⟨some 7, .faddr 0 (.t 6), none⟩,
    ⟨some 8, .load false 1 (.t 7), none⟩,
    ⟨some 9, .len false (.t 8), none⟩,
    ⟨some 3, .mv (.t 9), none⟩])
   (.seq (.ops none [⟨some 10, .mv (.t 0), none⟩,
     ⟨some 11, .call 69 false [true, false, false, false] [(.t 10), (.c (.int .i64 6)), (.c (.int .i64 3)), (.c (.int .i64 1))], none⟩,
     ⟨some 4, .mv (.t 11), none⟩])
    (.seq (.seq (.ops none [⟨some 12, .mv (.t 4), none⟩,
       ⟨some 13, .bin .eql (.t 12) (.c (.int .i64 0)), none⟩])
      (.cond (.t 13)
       (.ops none [⟨some 14, .mv (.t 0), none⟩,
        ⟨some 15, .mv (.t 3), none⟩,
        ⟨some 16, .call 75 false [true, false] [(.t 14), (.t 15)], none⟩])
       .skip))
     (.seq (.ops none [⟨some 17, .mv (.t 4), none⟩,
       ⟨some 2, .mv (.t 17), none⟩])
      .ret)))))⟩
theorem cop56 : copF Try.prog raws [] 56 = some ir56 := by kernel_rfl
/-- (*tenterhook/flow.Build).wLoop -/
def ir57 : F := ⟨5, [.t 2],
 (.seq (.ops none [⟨some 2, .mv (.c (.int .i64 0)), none⟩])
  (.seq (.ops none [⟨some 3, .mv (.t 0), none⟩,
    ⟨some 4, .call 76 false [true, false] [(.t 3), (.c (.int .i64 7))], none⟩,
    ⟨some 2, .mv (.t 4), none⟩])
   .ret))⟩
theorem cop57 : copF Try.prog raws [] 57 = some ir57 := by kernel_rfl
/-- (*tenterhook/flow.Build).wPlusLoop -/
def ir58 : F := ⟨5, [.t 2],
 (.seq (.ops none [⟨some 2, .mv (.c (.int .i64 0)), none⟩])
  (.seq (.ops none [⟨some 3, .mv (.t 0), none⟩,
    ⟨some 4, .call 76 false [true, false] [(.t 3), (.c (.int .i64 8))], none⟩,
    ⟨some 2, .mv (.t 4), none⟩])
   .ret))⟩
theorem cop58 : copF Try.prog raws [] 58 = some ir58 := by kernel_rfl
/-- (*tenterhook/flow.Build).wLeave -/
def ir59 : F := ⟨23, [.t 2],
 (.seq (.ops none [⟨some 2, .mv (.c (.int .i64 0)), none⟩])
  (.seq (.seq (.ops none [⟨some 4, .mv (.t 0), none⟩,
     ⟨some 5, .call 34 true [false] [(.t 4)], none⟩,
     ⟨some 6, .bin .eql (.t 5) (.c (.int .i64 0)), none⟩])
    (.cond (.t 6)
     (.seq (.ops none [⟨some 2, .mv (.c (.int .i64 (-22))), none⟩])
      .ret)
     .skip))
   (.seq (.seq (.ops none [⟨some 7, .mv (.t 0), none⟩,
      ⟨some 8, .build [.int .i64 0, .int .i64 0] [(0, 1, (.c (.int .i64 9)))], none⟩,
      ⟨some 9, .build [.int .i64 0, .int .i64 0] [(0, 1, (.c (.int .i64 1)))], none⟩,
      ⟨some 10, .bslice 2 2 [.int .i64 0, .int .i64 0] [(0, (.t 8)), (1, (.t 9))], none⟩,
      ⟨some 11, .call 28 false [true, false] [(.t 7), (.t 10)], none⟩,
      ⟨some 3, .mv (.t 11), none⟩])
     (.seq (.ops none [⟨some 12, .mv (.t 3), none⟩,
       ⟨some 13, .bin .neq (.t 12) (.c (.int .i64 0)), none⟩])
      (.cond (.t 13)
       (.seq (.ops none [⟨some 14, .mv (.t 3), none⟩,
         ⟨some 2, .mv (.t 14), none⟩])
        .ret)
       .skip)))
    (.seq (.ops none [⟨some 15, .mv (.t 0), none⟩,
      ⟨some 16, .mv (.t 0), none⟩,
      ⟨some 17, .nilck (.t 16), none⟩,
      ⟨some 18, .faddr 0 (.t 17), none⟩,
      ⟨some 19, .load false 1 (.t 18), none⟩,
      ⟨some 20, .len false (.t 19), none⟩,
      ⟨some 21, .bin .sub (.t 20) (.c (.int .i64 1)), none⟩,
      ⟨some 22, .call 75 false [true, false] [(.t 15), (.t 21)], none⟩])
     (.seq (.ops none [⟨some 2, .mv (.c (.int .i64 0)), none⟩])
      .ret)))))⟩
theorem cop59 : copF Try.prog raws [] 59 = some ir59 := by kernel_rfl
/-- slices.Index[[]string,string] -/
def ir60 : F := ⟨19, [.t 4],
 (.seq (.ops none [⟨some 4, .mv (.c (.int .i64 0)), none⟩])
  (.seq (.seq (.ops none [⟨some 6, .mv (.t 0), none⟩,
     ⟨some 7, .len false (.t 6), none⟩,
     ⟨some 8, .mv (.c (.int .i64 0)), none⟩])
    (.block 0 (.loop [0, 1, 7, 8] []
      (.seq (.ops none [⟨some 9, .bin .lss (.t 8) (.t 7), none⟩])
       (.seq (.cond (.t 9)
         .skip
         (.exit 0))
        (.seq (.block 1 (.seq (.ops none [⟨some 10, .mv (.t 8), none⟩,
            ⟨some 5, .mv (.t 10), none⟩])
           (.seq (.ops none [⟨some 11, .mv (.t 1), none⟩,
             ⟨some 12, .mv (.t 0), none⟩,
             ⟨some 13, .mv (.t 5), none⟩,
             ⟨some 14, .iaddr 1 (.t 12) (.t 13), none⟩,
             ⟨some 15, .load false 1 (.t 14), none⟩,
             ⟨some 16, .bin .eql (.t 11) (.t 15), none⟩])
            (.cond (.t 16)
             (.seq (.ops none [⟨some 17, .mv (.t 5), none⟩,
               ⟨some 4, .mv (.t 17), none⟩])
              .ret)
             .skip))))
         (.ops none [⟨some 18, .bin .add (.t 8) (.c (.int .i64 1)), none⟩,
          ⟨some 8, .mv (.t 18), none⟩])))))))
   (.seq (.ops none [⟨some 4, .mv (.c (.int .i64 (-1))), none⟩])
    .ret)))⟩
theorem cop60 : copF Try.prog raws [([0, 1, 7, 8], [])] 60 = some ir60 := by kernel_rfl
/-- tenterhook/scan.Upper -/
def ir61 : F := ⟨23, [.t 2],
 (.seq (.ops none [⟨some 2, .mv (.c (.str ⟨#[]⟩)), none⟩])
  (.seq (.ops none [⟨some 6, .mv (.t 0), none⟩,
    ⟨some 7, .s2b (.t 6), none⟩,
    ⟨some 3, .mv (.t 7), none⟩])
   (.seq (.seq (.ops none [⟨some 8, .mv (.t 3), none⟩,
      ⟨some 9, .len false (.t 8), none⟩,
      ⟨some 10, .mv (.c (.int .i64 0)), none⟩])
     (.block 0 (.loop [3, 8, 9, 10] []
       (.seq (.ops none [⟨some 11, .bin .lss (.t 10) (.t 9), none⟩])
        (.seq (.cond (.t 11)
          .skip
          (.exit 0))
         (.seq (.block 1 (.seq (.ops none [⟨some 12, .mv (.t 10), none⟩,
             ⟨some 13, .iaddr 1 (.t 8) (.t 10), none⟩,
             ⟨some 14, .load false 1 (.t 13), none⟩,
             ⟨some 4, .mv (.t 12), none⟩,
             ⟨some 5, .mv (.t 14), none⟩])
            (.ops none [⟨some 15, .mv (.t 3), none⟩,
             ⟨some 16, .mv (.t 4), none⟩,
             ⟨some 17, .mv (.t 5), none⟩,
             ⟨some 18, .call 77 true [] [(.t 17)], none⟩,
             ⟨some 19, .iaddr 1 (.t 15) (.t 16), none⟩,
             ⟨none, .store 1 (.t 19) (.t 18), none⟩])))
          (.ops none [⟨some 20, .bin .add (.t 10) (.c (.int .i64 1)), none⟩,
           ⟨some 10, .mv (.t 20), none⟩])))))))
    (.seq (.ops none [⟨some 21, .mv (.t 3), none⟩,
      ⟨some 22, .b2s (.t 21), none⟩,
      ⟨some 2, .mv (.t 22), none⟩])
     .ret))))⟩
theorem cop61 : copF Try.prog raws [([3, 8, 9, 10], [])] 61 = some ir61 := by kernel_rfl
/-- slices.IndexFunc[[]tenterhook/api.Ins,tenterhook/api.Ins] -/
def ir62 : F := ⟨19, [.t 4],
 (.seq (.ops none [⟨some 4, .mv (.c (.int .i64 0)), none⟩])
  (.seq (.seq (.ops none [⟨some 6, .mv (.t 0), none⟩,
     ⟨some 7, .len false (.t 6), none⟩,
     ⟨some 8, .mv (.c (.int .i64 0)), none⟩])
    (.block 0 (.loop [0, 1, 7, 8] []
      (.seq (.ops none [⟨some 9, .bin .lss (.t 8) (.t 7), none⟩])
       (.seq (.cond (.t 9)
         .skip
         (.exit 0))
        (.seq (.block 1 (.seq (.ops none [⟨some 10, .mv (.t 8), none⟩,
            ⟨some 5, .mv (.t 10), none⟩])
           (.seq (.ops none [⟨some 11, .mv (.t 1), none⟩,
             ⟨some 12, .mv (.t 0), none⟩,
             ⟨some 13, .mv (.t 5), none⟩,
             ⟨some 14, .iaddr 2 (.t 12) (.t 13), none⟩,
             ⟨some 15, .load true 2 (.t 14), none⟩,
             ⟨some 16, .callv false [] (.t 11) [(.t 15)], none⟩])
            (.cond (.t 16)
             (.seq (.ops none [⟨some 17, .mv (.t 5), none⟩,
               ⟨some 4, .mv (.t 17), none⟩])
              .ret)
             .skip))))
         (.ops none [⟨some 18, .bin .add (.t 8) (.c (.int .i64 1)), none⟩,
          ⟨some 8, .mv (.t 18), none⟩])))))))
   (.seq (.ops none [⟨some 4, .mv (.c (.int .i64 (-1))), none⟩])
    .ret)))⟩
theorem cop62 : copF Try.prog raws [([0, 1, 7, 8], [])] 62 = some ir62 := by kernel_rfl
/-- slices.IndexFunc[[]tenterhook/flow.Mark,tenterhook/flow.Mark] -/
def ir63 : F := ⟨19, [.t 4],
 (.seq (.ops none [⟨some 4, .mv (.c (.int .i64 0)), none⟩])
  (.seq (.seq (.ops none [⟨some 6, .mv (.t 0), none⟩,
     ⟨some 7, .len false (.t 6), none⟩,
     ⟨some 8, .mv (.c (.int .i64 0)), none⟩])
    (.block 0 (.loop [0, 1, 7, 8] []
      (.seq (.ops none [⟨some 9, .bin .lss (.t 8) (.t 7), none⟩])
       (.seq (.cond (.t 9)
         .skip
         (.exit 0))
        (.seq (.block 1 (.seq (.ops none [⟨some 10, .mv (.t 8), none⟩,
            ⟨some 5, .mv (.t 10), none⟩])
           (.seq (.ops none [⟨some 11, .mv (.t 1), none⟩,
             ⟨some 12, .mv (.t 0), none⟩,
             ⟨some 13, .mv (.t 5), none⟩,
             ⟨some 14, .iaddr 2 (.t 12) (.t 13), none⟩,
             ⟨some 15, .load true 2 (.t 14), none⟩,
             ⟨some 16, .callv false [] (.t 11) [(.t 15)], none⟩])
            (.cond (.t 16)
             (.seq (.ops none [⟨some 17, .mv (.t 5), none⟩,
               ⟨some 4, .mv (.t 17), none⟩])
              .ret)
             .skip))))
         (.ops none [⟨some 18, .bin .add (.t 8) (.c (.int .i64 1)), none⟩,
          ⟨some 8, .mv (.t 18), none⟩])))))))
   (.seq (.ops none [⟨some 4, .mv (.c (.int .i64 (-1))), none⟩])
    .ret)))⟩
theorem cop63 : copF Try.prog raws [([0, 1, 7, 8], [])] 63 = some ir63 := by kernel_rfl
/-- tenterhook/tenterhookref08.more -/
def ir64 : F := ⟨24, [.cell 6 true 3],
 (.seq (.ops none [⟨some 3, .box (.t 0), none⟩,
   ⟨some 6, .alloc [.nil, .nil, .nil], none⟩])
  (.seq (.ops none [⟨some 8, .bslice 2 0 [.int .i64 0, .int .i64 0] [], none⟩,
    ⟨some 9, .faddr 1 (.t 3), none⟩,
    ⟨some 10, .load false 1 (.t 9), none⟩,
    ⟨some 11, .append 2 (.t 8) (.t 10), none⟩,
    ⟨some 7, .mv (.t 11), none⟩])
   (.seq (.ops none [⟨some 12, .mv (.t 7), none⟩,
     ⟨some 13, .mv (.t 1), none⟩,
     ⟨some 14, .mv (.t 2), none⟩,
     ⟨some 15, .build [.int .i64 0, .int .i64 0] [(0, 1, (.t 13)), (1, 1, (.t 14))], none⟩,
     ⟨some 16, .bslice 2 1 [.int .i64 0, .int .i64 0] [(0, (.t 15))], none⟩,
     ⟨some 17, .append 2 (.t 12) (.t 16), none⟩,
     ⟨some 7, .mv (.t 17), none⟩])
    (.seq (.ops none [⟨some 18, .faddr 0 (.t 3), none⟩,
      ⟨some 19, .load false 1 (.t 18), none⟩,
      ⟨some 20, .mv (.t 7), none⟩,
      ⟨some 21, .faddr 2 (.t 3), none⟩,
      ⟨some 22, .load false 1 (.t 21), none⟩,
      ⟨some 23, .build [.nil, .nil, .nil] [(0, 1, (.t 19)), (1, 1, (.t 20)), (2, 1, (.t 22))], none⟩,
      ⟨none, .store 3 (.t 6) (.t 23), none⟩])
     .ret))))⟩
theorem cop64 : copF Try.prog raws [] 64 = some ir64 := by kernel_rfl
/-- tenterhook/tenterhookref08.out -/
def ir65 : F := ⟨23, [.cell 4 true 3],
 (.seq (.ops none [⟨some 2, .box (.t 0), none⟩,
   ⟨some 4, .alloc [.nil, .nil, .nil], none⟩])
  (.seq (.ops none [⟨some 6, .bslice 2 0 [.int .i64 0, .int .i64 0] [], none⟩,
    ⟨some 7, .faddr 2 (.t 2), none⟩,
    ⟨some 8, .load false 1 (.t 7), none⟩,
    ⟨some 9, .append 2 (.t 6) (.t 8), none⟩,
    ⟨some 5, .mv (.t 9), none⟩])
   (.seq (.ops none [⟨some 10, .mv (.t 5), none⟩,
     ⟨some 11, .load true 3 (.t 2), none⟩,
     ⟨some 12, .call 16 true [] [(.t 11)], none⟩,
     ⟨some 13, .mv (.t 1), none⟩,
     ⟨some 14, .build [.int .i64 0, .int .i64 0] [(0, 1, (.t 12)), (1, 1, (.t 13))], none⟩,
     ⟨some 15, .bslice 2 1 [.int .i64 0, .int .i64 0] [(0, (.t 14))], none⟩,
     ⟨some 16, .append 2 (.t 10) (.t 15), none⟩,
     ⟨some 5, .mv (.t 16), none⟩])
    (.seq (.ops none [⟨some 17, .faddr 0 (.t 2), none⟩,
      ⟨some 18, .load false 1 (.t 17), none⟩,
      ⟨some 19, .faddr 1 (.t 2), none⟩,
      ⟨some 20, .load false 1 (.t 19), none⟩,
      ⟨some 21, .mv (.t 5), none⟩,
      ⟨some 22, .build [.nil, .nil, .nil] [(0, 1, (.t 18)), (1, 1, (.t 20)), (2, 1, (.t 21))], none⟩,
      ⟨none, .store 3 (.t 4) (.t 22), none⟩])
     .ret))))⟩
theorem cop65 : copF Try.prog raws [] 65 = some ir65 := by kernel_rfl
/-- tenterhook/tenterhookref08.top -/
def ir66 : F := ⟨33, [.cell 6 true 2, .t 7],
 (.seq (.ops none [⟨some 3, .box (.t 0), none⟩,
   ⟨some 6, .alloc [.int .i64 0, .int .i64 0], none⟩,
   ⟨some 7, .mv (.c (.bool false)), none⟩])
  (.seq (.ops none [⟨some 9, .faddr 1 (.t 3), none⟩,
    ⟨some 10, .load false 1 (.t 9), none⟩,
    ⟨some 11, .len false (.t 10), none⟩,
    ⟨some 12, .bin .sub (.t 11) (.c (.int .i64 1)), none⟩,
    ⟨some 13, .mv (.t 1), none⟩,
    ⟨some 14, .bin .sub (.t 12) (.t 13), none⟩,
    ⟨some 8, .mv (.t 14), none⟩])
   (.seq (.seq (.ops none [⟨some 15, .mv (.t 8), none⟩,
      ⟨some 16, .bin .lss (.t 15) (.c (.int .i64 0)), none⟩,
      ⟨some 17, .mv (.t 16), none⟩,
      ⟨some 18, .faddr 1 (.t 3), some (17, false)⟩,
      ⟨some 19, .load false 1 (.t 18), some (17, false)⟩,
      ⟨some 20, .mv (.t 8), some (17, false)⟩,
      ⟨some 21, .iaddr 2 (.t 19) (.t 20), some (17, false)⟩,
      ⟨some 22, .faddr 0 (.t 21), some (17, false)⟩,
      ⟨some 23, .load false 1 (.t 22), some (17, false)⟩,
      ⟨some 24, .mv (.t 2), some (17, false)⟩,
      ⟨some 25, .bin .neq (.t 23) (.t 24), some (17, false)⟩,
      ⟨some 26, .pick (.t 17) (.c (.bool true)) (.t 25), none⟩])
     (.cond (.t 26)
      (.seq (.ops none [⟨some 27, .build [.int .i64 0, .int .i64 0] [], none⟩,
        ⟨none, .store 2 (.t 6) (.t 27), none⟩,
        ⟨some 7, .mv (.c (.bool false)), none⟩])
       .ret)
      .skip))
    (.seq (.ops none [⟨some 28, .faddr 1 (.t 3), none⟩,
      ⟨some 29, .load false 1 (.t 28), none⟩,
      ⟨some 30, .mv (.t 8), none⟩,
      ⟨some 31, .iaddr 2 (.t 29) (.t 30), none⟩,
      ⟨some 32, .load true 2 (.t 31), none⟩,
      ⟨none, .store 2 (.t 6) (.t 32), none⟩,
      ⟨some 7, .mv (.c (.bool true)), none⟩])
     .ret))))⟩
theorem cop66 : copF Try.prog raws [] 66 = some ir66 := by kernel_rfl
/-- tenterhook/tenterhookref08.resolve -/
def ir67 : F := ⟨27, [.cell 4 true 3],
 (.seq (.ops none [⟨some 2, .box (.t 0), none⟩,
   ⟨some 4, .alloc [.nil, .nil, .nil], none⟩])
  (.seq (.ops none [⟨some 6, .bslice 2 0 [.int .i64 0, .int .i64 0] [], none⟩,
    ⟨some 7, .faddr 0 (.t 2), none⟩,
    ⟨some 8, .load false 1 (.t 7), none⟩,
    ⟨some 9, .append 2 (.t 6) (.t 8), none⟩,
    ⟨some 5, .mv (.t 9), none⟩])
   (.seq (.ops none [⟨some 10, .mv (.t 5), none⟩,
     ⟨some 11, .mv (.t 1), none⟩,
     ⟨some 12, .mv (.t 5), none⟩,
     ⟨some 13, .mv (.t 1), none⟩,
     ⟨some 14, .iaddr 2 (.t 12) (.t 13), none⟩,
     ⟨some 15, .faddr 0 (.t 14), none⟩,
     ⟨some 16, .load false 1 (.t 15), none⟩,
     ⟨some 17, .mv (.t 5), none⟩,
     ⟨some 18, .len false (.t 17), none⟩,
     ⟨some 19, .build [.int .i64 0, .int .i64 0] [(0, 1, (.t 16)), (1, 1, (.t 18))], none⟩,
     ⟨some 20, .iaddr 2 (.t 10) (.t 11), none⟩,
     ⟨none, .store 2 (.t 20) (.t 19), none⟩])
    (.seq (.ops none [⟨some 21, .mv (.t 5), none⟩,
      ⟨some 22, .faddr 1 (.t 2), none⟩,
      ⟨some 23, .load false 1 (.t 22), none⟩,
      ⟨some 24, .faddr 2 (.t 2), none⟩,
      ⟨some 25, .load false 1 (.t 24), none⟩,
      ⟨some 26, .build [.nil, .nil, .nil] [(0, 1, (.t 21)), (1, 1, (.t 23)), (2, 1, (.t 25))], none⟩,
      ⟨none, .store 3 (.t 4) (.t 26), none⟩])
     .ret))))⟩
theorem cop67 : copF Try.prog raws [] 67 = some ir67 := by kernel_rfl
/-- tenterhook/tenterhookref08.less -/
def ir68 : F := ⟨20, [.cell 4 true 3],
 (.seq (.ops none [⟨some 2, .box (.t 0), none⟩,
   ⟨some 4, .alloc [.nil, .nil, .nil], none⟩])
  (.seq (.ops (some [(1, 2), (2, 4), (2, 6), (1, 11), (2, 13), (11, 13)]) [⟨some 5, .faddr 0 (.t 2), none⟩,
    ⟨some 6, .load false 1 (.t 5), none⟩,
    ⟨some 7, .bslice 2 0 [.int .i64 0, .int .i64 0] [], none⟩,
    ⟨some 8, .faddr 1 (.t 2), none⟩,
    ⟨some 9, .load false 1 (.t 8), none⟩,
    ⟨some 10, .faddr 1 (.t 2), none⟩,
    ⟨some 11, .load false 1 (.t 10), none⟩,
    ⟨some 12, .len false (.t 11), none⟩,
    ⟨some 13, .mv (.t 1), none⟩,
    ⟨some 14, .bin .sub (.t 12) (.t 13), none⟩,
    ⟨some 15, .slice false 2 (.t 9) none (some (.t 14)) none, none⟩,
    ⟨some 16, .append 2 (.t 7) (.t 15), none⟩,
    ⟨some 17, .faddr 2 (.t 2), none⟩,
    ⟨some 18, .load false 1 (.t 17), none⟩,
    ⟨some 19, .build [.nil, .nil, .nil] [(0, 1, (.t 6)), (1, 1, (.t 16)), (2, 1, (.t 18))], none⟩,
    ⟨none, .store 3 (.t 4) (.t 19), none⟩])
   .ret))⟩
theorem cop68 : copF Try.prog raws [] 68 = some ir68 := by kernel_rfl
/-- (*tenterhook/flow.Build).open -/
def ir69 : F := ⟨30, [.t 8],
 (.seq (.ops none [⟨some 8, .mv (.c (.int .i64 0)), none⟩])
  (.seq (.ops none [⟨some 11, .mv (.t 0), none⟩,
    ⟨some 12, .nilck (.t 11), none⟩,
    ⟨some 13, .faddr 0 (.t 12), none⟩,
    ⟨some 14, .load false 1 (.t 13), none⟩,
    ⟨some 15, .len false (.t 14), none⟩,
    ⟨some 9, .mv (.t 15), none⟩])
   (.seq (.seq (.ops none [⟨some 16, .mv (.t 0), none⟩,
      ⟨some 17, .mv (.t 1), none⟩,
      ⟨some 18, .build [.int .i64 0, .int .i64 0] [(0, 1, (.t 17))], none⟩,
      ⟨some 19, .bslice 2 1 [.int .i64 0, .int .i64 0] [(0, (.t 18))], none⟩,
      ⟨some 20, .call 28 false [true, false] [(.t 16), (.t 19)], none⟩,
      ⟨some 10, .mv (.t 20), none⟩])
     (.seq (.ops none [⟨some 21, .mv (.t 10), none⟩,
       ⟨some 22, .bin .neq (.t 21) (.c (.int .i64 0)), none⟩])
      (.cond (.t 22)
       (.seq (.ops none [⟨some 23, .mv (.t 10), none⟩,
         ⟨some 8, .mv (.t 23), none⟩])
        .ret)
       .skip)))
    (.seq (.ops none [⟨some 24, .mv (.t 0), none⟩,
      ⟨some 25, .mv (.t 2), none⟩,
      ⟨some 26, .mv (.t 9), none⟩,
      ⟨some 27, .mv (.t 3), none⟩,
      ⟨some 28, .bin .add (.t 26) (.t 27), none⟩,
      ⟨some 29, .call 73 false [true, false, false] [(.t 24), (.t 25), (.t 28)], none⟩])
     (.seq (.ops none [⟨some 8, .mv (.c (.int .i64 0)), none⟩])
      .ret)))))⟩
theorem cop69 : copF Try.prog raws [] 69 = some ir69 := by kernel_rfl
/-- (*tenterhook/flow.Build).at -/
def ir70 : F := ⟨39, [.t 6, .t 7],
 (.seq (.ops none [⟨some 6, .mv (.c (.int .i64 0)), none⟩,
   ⟨some 7, .mv (.c (.bool false)), none⟩])
  (.seq (.ops none [⟨some 9, .mv (.t 0), none⟩,
    ⟨some 10, .nilck (.t 9), none⟩,
    ⟨some 11, .faddr 1 (.t 10), none⟩,
    ⟨some 12, .load false 1 (.t 11), none⟩,
    ⟨some 13, .len false (.t 12), none⟩,
    ⟨some 14, .bin .sub (.t 13) (.c (.int .i64 1)), none⟩,
    ⟨some 15, .mv (.t 1), none⟩,
    ⟨some 16, .bin .sub (.t 14) (.t 15), none⟩,
    ⟨some 8, .mv (.t 16), none⟩])
   (.seq (.seq (.ops none [⟨some 17, .mv (.t 8), none⟩,
      ⟨some 18, .bin .lss (.t 17) (.c (.int .i64 0)), none⟩,
      ⟨some 19, .mv (.t 18), none⟩,
      ⟨some 20, .mv (.t 0), some (19, false)⟩,
      ⟨some 21, .nilck (.t 20), some (19, false)⟩,
      ⟨some 22, .faddr 1 (.t 21), some (19, false)⟩,
      ⟨some 23, .load false 1 (.t 22), some (19, false)⟩,
      ⟨some 24, .mv (.t 8), some (19, false)⟩,
      ⟨some 25, .iaddr 2 (.t 23) (.t 24), some (19, false)⟩,
      ⟨some 26, .faddr 0 (.t 25), some (19, false)⟩,
      ⟨some 27, .load false 1 (.t 26), some (19, false)⟩,
      ⟨some 28, .mv (.t 2), some (19, false)⟩,
      ⟨some 29, .bin .neq (.t 27) (.t 28), some (19, false)⟩,
      ⟨some 30, .pick (.t 19) (.c (.bool true)) (.t 29), none⟩])
     (.cond (.t 30)
      (.seq (.ops none [⟨some 6, .mv (.c (.int .i64 0)), none⟩,
        ⟨some 7, .mv (.c (.bool false)), none⟩])
       .ret)
      .skip))
    (.seq (.ops none [⟨some 31, .mv (.t 0), none⟩,
      ⟨some 32, .nilck (.t 31), none⟩,
      ⟨some 33, .faddr 1 (.t 32), none⟩,
      ⟨some 34, .load false 1 (.t 33), none⟩,
      ⟨some 35, .mv (.t 8), none⟩,
      ⟨some 36, .iaddr 2 (.t 34) (.t 35), none⟩,
      ⟨some 37, .faddr 1 (.t 36), none⟩,
      ⟨some 38, .load false 1 (.t 37), none⟩,
      ⟨some 6, .mv (.t 38), none⟩,
      ⟨some 7, .mv (.c (.bool true)), none⟩])
     .ret))))⟩
theorem cop70 : copF Try.prog raws [] 70 = some ir70 := by kernel_rfl
/-- (*tenterhook/flow.Build).resolve -/
def ir71 : F := ⟨16, [],
 (.ops (some []) [⟨some 4, .mv (.t 0), none⟩,
  ⟨some 5, .nilck (.t 4), none⟩,
  ⟨some 6, .faddr 0 (.t 5), none⟩,
  ⟨some 7, .load false 1 (.t 6), none⟩,
  ⟨some 8, .mv (.t 1), none⟩,
  ⟨some 9, .mv (.t 0), none⟩,
  ⟨some 10, .nilck (.t 9), none⟩,
  ⟨some 11, .faddr 0 (.t 10), none⟩,
  ⟨some 12, .load false 1 (.t 11), none⟩,
  ⟨some 13, .len false (.t 12), none⟩,
  ⟨some 14, .iaddr 2 (.t 7) (.t 8), none⟩,
  ⟨some 15, .faddr 1 (.t 14), none⟩,
  ⟨none, .store 1 (.t 15) (.t 13), none⟩])⟩
theorem cop71 : copF Try.prog raws [] 71 = some ir71 := by kernel_rfl
/-- (*tenterhook/flow.Build).drop -/
def ir72 : F := ⟨19, [],
 (.ops (some []) [⟨some 4, .mv (.t 0), none⟩,
  ⟨some 5, .mv (.t 0), none⟩,
  ⟨some 6, .nilck (.t 5), none⟩,
  ⟨some 7, .faddr 1 (.t 6), none⟩,
  ⟨some 8, .load false 1 (.t 7), none⟩,
  ⟨some 9, .mv (.t 0), none⟩,
  ⟨some 10, .nilck (.t 9), none⟩,
  ⟨some 11, .faddr 1 (.t 10), none⟩,
  ⟨some 12, .load false 1 (.t 11), none⟩,
  ⟨some 13, .len false (.t 12), none⟩,
  ⟨some 14, .mv (.t 1), none⟩,
  ⟨some 15, .bin .sub (.t 13) (.t 14), none⟩,
  ⟨some 16, .slice false 2 (.t 8) none (some (.t 15)) none, none⟩,
  ⟨some 17, .nilck (.t 4), none⟩,
  ⟨some 18, .faddr 1 (.t 17), none⟩,
  ⟨none, .store 1 (.t 18) (.t 16), none⟩])⟩
theorem cop72 : copF Try.prog raws [] 72 = some ir72 := by kernel_rfl
/-- (*tenterhook/flow.Build).mark -/
def ir73 : F := ⟨18, [],
 (.ops none [⟨some 6, .mv (.t 0), none⟩,
  ⟨some 7, .mv (.t 0), none⟩,
  ⟨some 8, .nilck (.t 7), none⟩,
  ⟨some 9, .faddr 1 (.t 8), none⟩,
  ⟨some 10, .load false 1 (.t 9), none⟩,
  ⟨some 11, .mv (.t 1), none⟩,
  ⟨some 12, .mv (.t 2), none⟩,
  ⟨some 13, .build [.int .i64 0, .int .i64 0] [(0, 1, (.t 11)), (1, 1, (.t 12))], none⟩,
  ⟨some 14, .bslice 2 1 [.int .i64 0, .int .i64 0] [(0, (.t 13))], none⟩,
  ⟨some 15, .append 2 (.t 10) (.t 14), none⟩,
  ⟨some 16, .nilck (.t 6), none⟩,
  ⟨some 17, .faddr 1 (.t 16), none⟩,
  ⟨none, .store 1 (.t 17) (.t 15), none⟩])⟩
theorem cop73 : copF Try.prog raws [] 73 = some ir73 := by kernel_rfl
/-- (*tenterhook/flow.Build).back -/
def ir74 : F := ⟨29, [.t 6],
 (.seq (.ops none [⟨some 6, .mv (.c (.int .i64 0)), none⟩])
  (.seq (.ops none [⟨some 11, .mv (.t 0), none⟩,
    ⟨some 12, .mv (.t 2), none⟩,
    ⟨some 13, .call 70 true [false, false, false] [(.t 11), (.c (.int .i64 0)), (.t 12)], none⟩,
    ⟨some 10, .mv (.t 13), none⟩,
    ⟨some 14, .ext (.t 10) 0, none⟩,
    ⟨some 15, .ext (.t 10) 1, none⟩,
    ⟨some 7, .mv (.t 14), none⟩,
    ⟨some 8, .mv (.t 15), none⟩])
   (.seq (.seq (.ops none [⟨some 16, .mv (.t 8), none⟩,
      ⟨some 17, .un .not (.t 16), none⟩])
     (.cond (.t 17)
      (.seq (.ops none [⟨some 6, .mv (.c (.int .i64 (-22))), none⟩])
       .ret)
      .skip))
    (.seq (.ops none [⟨some 18, .mv (.t 0), none⟩,
      ⟨some 19, .mv (.t 1), none⟩,
      ⟨some 20, .mv (.t 7), none⟩,
      ⟨some 21, .build [.int .i64 0, .int .i64 0] [(0, 1, (.t 19)), (1, 1, (.t 20))], none⟩,
      ⟨some 22, .bslice 2 1 [.int .i64 0, .int .i64 0] [(0, (.t 21))], none⟩,
      ⟨some 23, .call 28 false [true, false] [(.t 18), (.t 22)], none⟩,
      ⟨some 9, .mv (.t 23), none⟩])
     (.seq (.seq (.ops none [⟨some 24, .mv (.t 9), none⟩,
        ⟨some 25, .bin .eql (.t 24) (.c (.int .i64 0)), none⟩])
       (.cond (.t 25)
        (.ops none [⟨some 26, .mv (.t 0), none⟩,
         ⟨some 27, .call 72 false [true, false] [(.t 26), (.c (.int .i64 1))], none⟩])
        .skip))
      (.seq (.ops none [⟨some 28, .mv (.t 9), none⟩,
        ⟨some 6, .mv (.t 28), none⟩])
       .ret))))))⟩
theorem cop74 : copF Try.prog raws [] 74 = some ir74 := by kernel_rfl
/-- (*tenterhook/flow.Build).out -/
def ir75 : F := ⟨17, [],
 (.ops (some [(4, 9)]) [⟨some 4, .mv (.t 0), none⟩,
  ⟨some 5, .mv (.t 0), none⟩,
  ⟨some 6, .nilck (.t 5), none⟩,
  ⟨some 7, .faddr 2 (.t 6), none⟩,
  ⟨some 8, .load false 1 (.t 7), none⟩,
  ⟨some 9, .mv (.t 0), none⟩,
  ⟨some 10, .call 34 true [false] [(.t 9)], none⟩,
  ⟨some 11, .mv (.t 1), none⟩,
  ⟨some 12, .build [.int .i64 0, .int .i64 0] [(0, 1, (.t 10)), (1, 1, (.t 11))], none⟩,
  ⟨some 13, .bslice 2 1 [.int .i64 0, .int .i64 0] [(0, (.t 12))], none⟩,
  ⟨some 14, .append 2 (.t 8) (.t 13), none⟩,
  ⟨some 15, .nilck (.t 4), none⟩,
  ⟨some 16, .faddr 2 (.t 15), none⟩,
  ⟨none, .store 1 (.t 16) (.t 14), none⟩])⟩
theorem cop75 : copF Try.prog raws [] 75 = some ir75 := by kernel_rfl
/-- (*tenterhook/flow.Build).close -/
def ir76 : F := ⟨24, [.t 4],
 (.seq (.ops none [⟨some 2, .cbox (.t 0), none⟩,
   ⟨some 4, .mv (.c (.int .i64 0)), none⟩])
  (.seq (.ops none [⟨some 7, .load false 1 (.t 2), none⟩,
    ⟨some 8, .call 34 true [false] [(.t 7)], none⟩,
    ⟨some 5, .alloc [.int .i64 0], none⟩,
    ⟨none, .store 1 (.t 5) (.t 8), none⟩])
   (.seq (.seq (.ops none [⟨some 9, .load false 1 (.t 2), none⟩,
      ⟨some 10, .mv (.t 1), none⟩,
      ⟨some 11, .call 74 false [true, false, false] [(.t 9), (.t 10), (.c (.int .i64 3))], none⟩,
      ⟨some 6, .mv (.t 11), none⟩])
     (.seq (.ops none [⟨some 12, .mv (.t 6), none⟩,
       ⟨some 13, .bin .neq (.t 12) (.c (.int .i64 0)), none⟩])
      (.cond (.t 13)
       (.seq (.ops none [⟨some 14, .mv (.t 6), none⟩,
         ⟨some 4, .mv (.t 14), none⟩])
        .ret)
       .skip)))
    (.seq (.ops (some [(0, 6)]) [⟨some 15, .load false 1 (.t 2), none⟩,
      ⟨some 16, .load false 1 (.t 2), none⟩,
      ⟨some 17, .nilck (.t 16), none⟩,
      ⟨some 18, .faddr 2 (.t 17), none⟩,
      ⟨some 19, .load false 1 (.t 18), none⟩,
      ⟨some 20, .mkfunc 79 [] [(.t 5), (.t 2)], none⟩,
      ⟨some 21, .call 78 false [true, false] [(.t 19), (.t 20)], none⟩,
      ⟨some 22, .nilck (.t 15), none⟩,
      ⟨some 23, .faddr 2 (.t 22), none⟩,
      ⟨none, .store 1 (.t 23) (.t 21), none⟩])
     (.seq (.ops none [⟨some 4, .mv (.c (.int .i64 0)), none⟩])
      .ret)))))⟩
theorem cop76 : copF Try.prog raws [] 76 = some ir76 := by kernel_rfl
/-- tenterhook/scan.capital -/
def ir77 : F := ⟨13, [.t 2],
 (.seq (.ops none [⟨some 2, .mv (.c (.int .u8 0)), none⟩])
  (.seq (.seq (.ops none [⟨some 3, .mv (.t 0), none⟩,
     ⟨some 4, .bin .geq (.t 3) (.c (.int .u8 97)), none⟩,
     ⟨some 5, .mv (.t 4), none⟩,
     ⟨some 6, .mv (.t 0), some (5, true)⟩,
     ⟨some 7, .bin .leq (.t 6) (.c (.int .u8 122)), some (5, true)⟩,
     ⟨some 8, .pick (.t 5) (.t 7) (.c (.bool false)), none⟩])
    (.cond (.t 8)
     (.seq (.ops none [⟨some 9, .mv (.t 0), none⟩,
       ⟨some 10, .bin .sub (.t 9) (.c (.int .u8 97)), none⟩,
       ⟨some 11, .bin .add (.t 10) (.c (.int .u8 65)), none⟩,
       ⟨some 2, .mv (.t 11), none⟩])
      .ret)
     .skip))
   (.seq (.ops none [⟨some 12, .mv (.t 0), none⟩,
     ⟨some 2, .mv (.t 12), none⟩])
    .ret)))⟩
theorem cop77 : copF Try.prog raws [] 77 = some ir77 := by kernel_rfl
/-- slices.DeleteFunc[[]tenterhook/flow.Mark,tenterhook/flow.Mark] -/
def ir78 : F := ⟨42, [.t 4],
 (.seq (.ops none [⟨some 4, .mv (.c (.nil)), none⟩])
  (.seq (.ops none [⟨some 8, .mv (.t 0), none⟩,
    ⟨some 9, .mv (.t 1), none⟩,
    ⟨some 10, .call 63 false [true, true] [(.t 8), (.t 9)], none⟩,
    ⟨some 5, .mv (.t 10), none⟩])
   (.seq (.seq (.ops none [⟨some 11, .mv (.t 5), none⟩,
      ⟨some 12, .bin .eql (.t 11) (.c (.int .i64 (-1))), none⟩])
     (.cond (.t 12)
      (.seq (.ops none [⟨some 13, .mv (.t 0), none⟩,
        ⟨some 4, .mv (.t 13), none⟩])
       .ret)
      .skip))
    (.seq (.seq (.ops none [⟨some 14, .mv (.t 5), none⟩,
       ⟨some 15, .bin .add (.t 14) (.c (.int .i64 1)), none⟩,
       ⟨some 6, .mv (.t 15), none⟩])
      (.block 0 (.loop [0, 1, 5, 6] []
        (.seq (.seq (.ops none [⟨some 16, .mv (.t 6), none⟩,
           ⟨some 17, .mv (.t 0), none⟩,
           ⟨some 18, .len false (.t 17), none⟩,
           ⟨some 19, .bin .lss (.t 16) (.t 18), none⟩])
          (.cond (.t 19)
           .skip
           (.exit 0)))
         (.seq (.block 1 (.seq (.ops none [⟨some 22, .mv (.t 0), none⟩,
             ⟨some 23, .mv (.t 6), none⟩,
             ⟨some 24, .iaddr 2 (.t 22) (.t 23), none⟩,
             ⟨some 25, .load true 2 (.t 24), none⟩,
             ⟨some 7, .alloc [.int .i64 0, .int .i64 0], none⟩,
             ⟨none, .store 2 (.t 7) (.t 25), none⟩])
            (.seq (.ops none [⟨some 26, .mv (.t 1), none⟩,
              ⟨some 27, .load true 2 (.t 7), none⟩,
              ⟨some 28, .callv false [] (.t 26) [(.t 27)], none⟩,
              ⟨some 29, .un .not (.t 28), none⟩])
             (.cond (.t 29)
              (.seq (.ops none [⟨some 30, .mv (.t 0), none⟩,
                ⟨some 31, .mv (.t 5), none⟩,
                ⟨some 32, .load true 2 (.t 7), none⟩,
                ⟨some 33, .iaddr 2 (.t 30) (.t 31), none⟩,
                ⟨none, .store 2 (.t 33) (.t 32), none⟩])
               (.ops none [⟨some 34, .mv (.t 5), none⟩,
                ⟨some 35, .bin .add (.t 34) (.c (.int .i64 1)), none⟩,
                ⟨some 5, .mv (.t 35), none⟩]))
              .skip))))
          (.ops none [⟨some 20, .mv (.t 6), none⟩,
           ⟨some 21, .bin .add (.t 20) (.c (.int .i64 1)), none⟩,
           ⟨some 6, .mv (.t 21), none⟩]))))))
     (.seq (.ops none [⟨some 36, .mv (.t 0), none⟩,
       ⟨some 37, .mv (.t 5), none⟩,
       ⟨some 38, .slice false 2 (.t 36) (some (.t 37)) none none, none⟩,
       ⟨none, .clear 2 [.int .i64 0, .int .i64 0] (.t 38), none⟩])
      (.seq (.ops none [⟨some 39, .mv (.t 0), none⟩,
        ⟨some 40, .mv (.t 5), none⟩,
        ⟨some 41, .slice false 2 (.t 39) none (some (.t 40)) none, none⟩,
        ⟨some 4, .mv (.t 41), none⟩])
       .ret))))))⟩
theorem cop78 : copF Try.prog raws [([0, 1, 5, 6], [])] 78 = some ir78 := by kernel_rfl
/-- (*tenterhook/flow.Build).close$1 -/
def ir79 : F := ⟨17, [.t 4],
 (.seq (.ops none [⟨some 3, .box (.t 0), none⟩,
   ⟨some 4, .mv (.c (.bool false)), none⟩])
  (.seq (.seq (.ops none [⟨some 5, .faddr 0 (.t 3), none⟩,
     ⟨some 6, .load false 1 (.t 5), none⟩,
     ⟨some 7, .load false 1 (.t 1), none⟩,
     ⟨some 8, .bin .eql (.t 6) (.t 7), none⟩])
    (.cond (.t 8)
     (.ops none [⟨some 9, .load false 1 (.t 2), none⟩,
      ⟨some 10, .faddr 1 (.t 3), none⟩,
      ⟨some 11, .load false 1 (.t 10), none⟩,
      ⟨some 12, .call 71 false [true, false] [(.t 9), (.t 11)], none⟩])
     .skip))
   (.seq (.ops none [⟨some 13, .faddr 0 (.t 3), none⟩,
     ⟨some 14, .load false 1 (.t 13), none⟩,
     ⟨some 15, .load false 1 (.t 1), none⟩,
     ⟨some 16, .bin .eql (.t 14) (.t 15), none⟩,
     ⟨some 4, .mv (.t 16), none⟩])
    .ret)))⟩
theorem cop79 : copF Try.prog raws [] 79 = some ir79 := by kernel_rfl
def tab : List (Nat × Def) := [(3, .pub ir3), (4, .pub ir4), (5, .pub ir5), (6, .pub ir6), (7, .pub ir7), (8, .pub ir8), (9, .pub ir9), (10, .pub ir10), (11, .pub ir11), (12, .pub ir12), (13, .pub ir13), (14, .pub ir14), (15, .pub ir15), (16, .pub ir16), (17, .pub ir17), (18, .pub ir18), (19, .pub ir19), (20, .pub ir20), (21, .pub ir21), (22, .pub ir22), (23, .pub ir23), (24, .pub ir24), (25, .pub ir25), (26, .body ir26), (27, .body ir27), (28, .body ir28), (29, .body ir29), (30, .pub ir30), (31, .body ir31), (32, .body ir32), (33, .body ir33), (34, .body ir34), (35, .body ir35), (36, .pub ir36), (37, .pub ir37), (38, .pub ir38), (39, .pub ir39), (40, .pub ir40), (41, .pub ir41), (42, .pub ir42), (43, .pub ir43), (44, .pub ir44), (45, .body ir45), (46, .body ir46), (47, .body ir47), (48, .body ir48), (49, .body ir49), (50, .body ir50), (51, .body ir51), (52, .body ir52), (53, .body ir53), (54, .body ir54), (55, .body ir55), (56, .body ir56), (57, .body ir57), (58, .body ir58), (59, .body ir59), (60, .body ir60), (61, .pub ir61), (62, .body ir62), (63, .body ir63), (64, .pub ir64), (65, .pub ir65), (66, .pub ir66), (67, .pub ir67), (68, .pub ir68), (69, .body ir69), (70, .body ir70), (71, .body ir71), (72, .body ir72), (73, .body ir73), (74, .body ir74), (75, .body ir75), (76, .body ir76), (77, .pub ir77), (78, .body ir78), (79, .body ir79)]
def env0 : Env := fun f => tab.lookup f
theorem env0Ok : EnvOk Try.prog raws env0 := envOk_of (tab := tab) (by
  unfold tab
  exact List.forall_mem_cons.2 ⟨⟨_, cop3⟩, List.forall_mem_cons.2 ⟨⟨_, cop4⟩, List.forall_mem_cons.2 ⟨⟨_, cop5⟩, List.forall_mem_cons.2 ⟨⟨_, cop6⟩, List.forall_mem_cons.2 ⟨⟨_, cop7⟩, List.forall_mem_cons.2 ⟨⟨_, cop8⟩, List.forall_mem_cons.2 ⟨⟨_, cop9⟩, List.forall_mem_cons.2 ⟨⟨_, cop10⟩, List.forall_mem_cons.2 ⟨⟨_, cop11⟩, List.forall_mem_cons.2 ⟨⟨_, cop12⟩, List.forall_mem_cons.2 ⟨⟨_, cop13⟩, List.forall_mem_cons.2 ⟨⟨_, cop14⟩, List.forall_mem_cons.2 ⟨⟨_, cop15⟩, List.forall_mem_cons.2 ⟨⟨_, cop16⟩, List.forall_mem_cons.2 ⟨⟨_, cop17⟩, List.forall_mem_cons.2 ⟨⟨_, cop18⟩, List.forall_mem_cons.2 ⟨⟨_, cop19⟩, List.forall_mem_cons.2 ⟨⟨_, cop20⟩, List.forall_mem_cons.2 ⟨⟨_, cop21⟩, List.forall_mem_cons.2 ⟨⟨_, cop22⟩, List.forall_mem_cons.2 ⟨⟨_, cop23⟩, List.forall_mem_cons.2 ⟨⟨_, cop24⟩, List.forall_mem_cons.2 ⟨⟨_, cop25⟩, List.forall_mem_cons.2 ⟨⟨_, cop26⟩, List.forall_mem_cons.2 ⟨⟨_, cop27⟩, List.forall_mem_cons.2 ⟨⟨_, cop28⟩, List.forall_mem_cons.2 ⟨⟨_, cop29⟩, List.forall_mem_cons.2 ⟨⟨_, cop30⟩, List.forall_mem_cons.2 ⟨⟨_, cop31⟩, List.forall_mem_cons.2 ⟨⟨_, cop32⟩, List.forall_mem_cons.2 ⟨⟨_, cop33⟩, List.forall_mem_cons.2 ⟨⟨_, cop34⟩, List.forall_mem_cons.2 ⟨⟨_, cop35⟩, List.forall_mem_cons.2 ⟨⟨_, cop36⟩, List.forall_mem_cons.2 ⟨⟨_, cop37⟩, List.forall_mem_cons.2 ⟨⟨_, cop38⟩, List.forall_mem_cons.2 ⟨⟨_, cop39⟩, List.forall_mem_cons.2 ⟨⟨_, cop40⟩, List.forall_mem_cons.2 ⟨⟨_, cop41⟩, List.forall_mem_cons.2 ⟨⟨_, cop42⟩, List.forall_mem_cons.2 ⟨⟨_, cop43⟩, List.forall_mem_cons.2 ⟨⟨_, cop44⟩, List.forall_mem_cons.2 ⟨⟨_, cop45⟩, List.forall_mem_cons.2 ⟨⟨_, cop46⟩, List.forall_mem_cons.2 ⟨⟨_, cop47⟩, List.forall_mem_cons.2 ⟨⟨_, cop48⟩, List.forall_mem_cons.2 ⟨⟨_, cop49⟩, List.forall_mem_cons.2 ⟨⟨_, cop50⟩, List.forall_mem_cons.2 ⟨⟨_, cop51⟩, List.forall_mem_cons.2 ⟨⟨_, cop52⟩, List.forall_mem_cons.2 ⟨⟨_, cop53⟩, List.forall_mem_cons.2 ⟨⟨_, cop54⟩, List.forall_mem_cons.2 ⟨⟨_, cop55⟩, List.forall_mem_cons.2 ⟨⟨_, cop56⟩, List.forall_mem_cons.2 ⟨⟨_, cop57⟩, List.forall_mem_cons.2 ⟨⟨_, cop58⟩, List.forall_mem_cons.2 ⟨⟨_, cop59⟩, List.forall_mem_cons.2 ⟨⟨_, cop60⟩, List.forall_mem_cons.2 ⟨⟨_, cop61⟩, List.forall_mem_cons.2 ⟨⟨_, cop62⟩, List.forall_mem_cons.2 ⟨⟨_, cop63⟩, List.forall_mem_cons.2 ⟨⟨_, cop64⟩, List.forall_mem_cons.2 ⟨⟨_, cop65⟩, List.forall_mem_cons.2 ⟨⟨_, cop66⟩, List.forall_mem_cons.2 ⟨⟨_, cop67⟩, List.forall_mem_cons.2 ⟨⟨_, cop68⟩, List.forall_mem_cons.2 ⟨⟨_, cop69⟩, List.forall_mem_cons.2 ⟨⟨_, cop70⟩, List.forall_mem_cons.2 ⟨⟨_, cop71⟩, List.forall_mem_cons.2 ⟨⟨_, cop72⟩, List.forall_mem_cons.2 ⟨⟨_, cop73⟩, List.forall_mem_cons.2 ⟨⟨_, cop74⟩, List.forall_mem_cons.2 ⟨⟨_, cop75⟩, List.forall_mem_cons.2 ⟨⟨_, cop76⟩, List.forall_mem_cons.2 ⟨⟨_, cop77⟩, List.forall_mem_cons.2 ⟨⟨_, cop78⟩, List.forall_mem_cons.2 ⟨⟨_, cop79⟩, List.forall_mem_nil _⟩⟩⟩⟩⟩⟩⟩⟩⟩⟩⟩⟩⟩⟩⟩⟩⟩⟩⟩⟩⟩⟩⟩⟩⟩⟩⟩⟩⟩⟩⟩⟩⟩⟩⟩⟩⟩⟩⟩⟩⟩⟩⟩⟩⟩⟩⟩⟩⟩⟩⟩⟩⟩⟩⟩⟩⟩⟩⟩⟩⟩⟩⟩⟩⟩⟩⟩⟩⟩⟩⟩⟩⟩⟩⟩⟩⟩)
section
open Go.RowKit
set_option maxHeartbeats 4000000
set_option maxRecDepth 100000
theorem cl45n (cap : Nat) (w : World) : Calls Try.prog 45 #[.slice none 0 cap] w (fun e w' => e = .returned (.slice none 0 0) ∧ w' = w) := by
  have heq : ∀ (n c : Nat) (W : World), (binOp .eql 25 (.slice none n c) (.slice none 0 0)).run Try.prog W = .ok (.bool true) W := fun n c W => Go.Lib.run_eql_slice_nil W 25 49 none n c 0 0 Try.underlying25
  go_enter Try.func45, Try.ntmps45
  go_wp2
  go_ret
  exact ⟨rfl, rfl⟩
theorem cl45e (a : Addr) (cap : Nat) (w : World) : Calls Try.prog 45 #[.slice (some a) 0 cap] w (fun e w' => e = .returned (.slice (some ⟨w.heap.size, 0, none⟩) 0 0) ∧ w' = w.alloc (.cells #[] 49)) := by
  have heq : ∀ (n c : Nat) (W : World), (binOp .eql 25 (.slice (some a) n c) (.slice none 0 0)).run Try.prog W = .ok (.bool false) W := fun n c W => Go.Lib.run_eql_slice_nil W 25 49 (some a) n c 0 0 Try.underlying25
  go_enter Try.func45, Try.ntmps45
  go_wp2
  go_ret
  exact ⟨rfl, rfl⟩
theorem cl46n (cap : Nat) (w : World) : Calls Try.prog 46 #[.slice none 0 cap] w (fun e w' => e = .returned (.slice none 0 0) ∧ w' = w) := by
  have heq : ∀ (n c : Nat) (W : World), (binOp .eql 26 (.slice none n c) (.slice none 0 0)).run Try.prog W = .ok (.bool true) W := fun n c W => Go.Lib.run_eql_slice_nil W 26 68 none n c 0 0 Try.underlying26
  go_enter Try.func46, Try.ntmps46
  go_wp2
  go_ret
  exact ⟨rfl, rfl⟩
theorem cl46e (a : Addr) (cap : Nat) (w : World) : Calls Try.prog 46 #[.slice (some a) 0 cap] w (fun e w' => e = .returned (.slice (some ⟨w.heap.size, 0, none⟩) 0 0) ∧ w' = w.alloc (.cells #[] 68)) := by
  have heq : ∀ (n c : Nat) (W : World), (binOp .eql 26 (.slice (some a) n c) (.slice none 0 0)).run Try.prog W = .ok (.bool false) W := fun n c W => Go.Lib.run_eql_slice_nil W 26 68 (some a) n c 0 0 Try.underlying26
  go_enter Try.func46, Try.ntmps46
  go_wp2
  go_ret
  exact ⟨rfl, rfl⟩
end
noncomputable def env1_ : Env := fun n => if n = 45 then some (.prim (cloneG 2 (ev env0) 45)) else env0 n
theorem envOk1_ : EnvOk Try.prog raws env1_ := envOk_prim env0Ok ⟨Try.f45, _, Try.func45, rfl, by decide⟩ (clone_ok cl45n cl45e (ev_sound env0Ok))
noncomputable def env2_ : Env := fun n => if n = 46 then some (.prim (cloneG 2 (ev env0) 46)) else env1_ n
theorem envOk2_ : EnvOk Try.prog raws env2_ := envOk_prim envOk1_ ⟨Try.f46, _, Try.func46, rfl, by decide⟩ (clone_ok cl46n cl46e (ev_sound env0Ok))
noncomputable abbrev envB26 : Env := env2_
noncomputable def env : Env := fun n => if n = 26 then some (.prim (ownG 2 (ev env2_) 26)) else env2_ n
theorem envOk : EnvOk Try.prog raws env := envOk_prim envOk2_ ⟨Try.f26, _, Try.func26, rfl, by decide⟩ (own_ok (ev_sound envOk2_))
theorem envP26 : env 26 = some (.prim (ownG 2 (ev envB26) 26)) := rfl
theorem envZ26 : envB26 26 = some (.body ir26) := by kernel_rfl
theorem envP45 : env 45 = some (.prim (cloneG 2 (ev env0) 45)) := rfl
theorem envZ45 : env0 45 = some (.body ir45) := by kernel_rfl
theorem envP46 : env 46 = some (.prim (cloneG 2 (ev env0) 46)) := rfl
theorem envZ46 : env0 46 = some (.body ir46) := by kernel_rfl
theorem env3 : env 3 = some (.pub ir3) := by kernel_rfl
theorem env4 : env 4 = some (.pub ir4) := by kernel_rfl
theorem env5 : env 5 = some (.pub ir5) := by kernel_rfl
theorem env6 : env 6 = some (.pub ir6) := by kernel_rfl
theorem env7 : env 7 = some (.pub ir7) := by kernel_rfl
theorem env8 : env 8 = some (.pub ir8) := by kernel_rfl
theorem env9 : env 9 = some (.pub ir9) := by kernel_rfl
theorem env10 : env 10 = some (.pub ir10) := by kernel_rfl
theorem env11 : env 11 = some (.pub ir11) := by kernel_rfl
theorem env12 : env 12 = some (.pub ir12) := by kernel_rfl
theorem env13 : env 13 = some (.pub ir13) := by kernel_rfl
theorem env14 : env 14 = some (.pub ir14) := by kernel_rfl
theorem env15 : env 15 = some (.pub ir15) := by kernel_rfl
theorem env16 : env 16 = some (.pub ir16) := by kernel_rfl
theorem env17 : env 17 = some (.pub ir17) := by kernel_rfl
theorem env18 : env 18 = some (.pub ir18) := by kernel_rfl
theorem env19 : env 19 = some (.pub ir19) := by kernel_rfl
theorem env20 : env 20 = some (.pub ir20) := by kernel_rfl
theorem env21 : env 21 = some (.pub ir21) := by kernel_rfl
theorem env22 : env 22 = some (.pub ir22) := by kernel_rfl
theorem env23 : env 23 = some (.pub ir23) := by kernel_rfl
theorem env24 : env 24 = some (.pub ir24) := by kernel_rfl
theorem env25 : env 25 = some (.pub ir25) := by kernel_rfl
theorem env27 : env 27 = some (.body ir27) := by kernel_rfl
theorem env28 : env 28 = some (.body ir28) := by kernel_rfl
theorem env29 : env 29 = some (.body ir29) := by kernel_rfl
theorem env30 : env 30 = some (.pub ir30) := by kernel_rfl
theorem env31 : env 31 = some (.body ir31) := by kernel_rfl
theorem env32 : env 32 = some (.body ir32) := by kernel_rfl
theorem env33 : env 33 = some (.body ir33) := by kernel_rfl
theorem env34 : env 34 = some (.body ir34) := by kernel_rfl
theorem env35 : env 35 = some (.body ir35) := by kernel_rfl
theorem env36 : env 36 = some (.pub ir36) := by kernel_rfl
theorem env37 : env 37 = some (.pub ir37) := by kernel_rfl
theorem env38 : env 38 = some (.pub ir38) := by kernel_rfl
theorem env39 : env 39 = some (.pub ir39) := by kernel_rfl
theorem env40 : env 40 = some (.pub ir40) := by kernel_rfl
theorem env41 : env 41 = some (.pub ir41) := by kernel_rfl
theorem env42 : env 42 = some (.pub ir42) := by kernel_rfl
theorem env43 : env 43 = some (.pub ir43) := by kernel_rfl
theorem env44 : env 44 = some (.pub ir44) := by kernel_rfl
theorem env47 : env 47 = some (.body ir47) := by kernel_rfl
theorem env48 : env 48 = some (.body ir48) := by kernel_rfl
theorem env49 : env 49 = some (.body ir49) := by kernel_rfl
theorem env50 : env 50 = some (.body ir50) := by kernel_rfl
theorem env51 : env 51 = some (.body ir51) := by kernel_rfl
theorem env52 : env 52 = some (.body ir52) := by kernel_rfl
theorem env53 : env 53 = some (.body ir53) := by kernel_rfl
theorem env54 : env 54 = some (.body ir54) := by kernel_rfl
theorem env55 : env 55 = some (.body ir55) := by kernel_rfl
theorem env56 : env 56 = some (.body ir56) := by kernel_rfl
theorem env57 : env 57 = some (.body ir57) := by kernel_rfl
theorem env58 : env 58 = some (.body ir58) := by kernel_rfl
theorem env59 : env 59 = some (.body ir59) := by kernel_rfl
theorem env60 : env 60 = some (.body ir60) := by kernel_rfl
theorem env61 : env 61 = some (.pub ir61) := by kernel_rfl
theorem env62 : env 62 = some (.body ir62) := by kernel_rfl
theorem env63 : env 63 = some (.body ir63) := by kernel_rfl
theorem env64 : env 64 = some (.pub ir64) := by kernel_rfl
theorem env65 : env 65 = some (.pub ir65) := by kernel_rfl
theorem env66 : env 66 = some (.pub ir66) := by kernel_rfl
theorem env67 : env 67 = some (.pub ir67) := by kernel_rfl
theorem env68 : env 68 = some (.pub ir68) := by kernel_rfl
theorem env69 : env 69 = some (.body ir69) := by kernel_rfl
theorem env70 : env 70 = some (.body ir70) := by kernel_rfl
theorem env71 : env 71 = some (.body ir71) := by kernel_rfl
theorem env72 : env 72 = some (.body ir72) := by kernel_rfl
theorem env73 : env 73 = some (.body ir73) := by kernel_rfl
theorem env74 : env 74 = some (.body ir74) := by kernel_rfl
theorem env75 : env 75 = some (.body ir75) := by kernel_rfl
theorem env76 : env 76 = some (.body ir76) := by kernel_rfl
theorem env77 : env 77 = some (.pub ir77) := by kernel_rfl
theorem env78 : env 78 = some (.body ir78) := by kernel_rfl
theorem env79 : env 79 = some (.body ir79) := by kernel_rfl
end Go.Proofs.YtcphpiboamlanaaR
