/- EvIs16: a part of the proof. -/
import Derived.Test.YtoihpjpgihhcjaaEv5
import Derived.Test.YtoihpjpgihhcjaaEv6
import Derived.Test.YtoihpjpgihhcjaaEvCln2
import Derived.Test.YtoihpjpgihhcjaaEvOwn
import Derived.WalkKit
import Derived.WalkSpells
import Derived.Test.YtoihpjpgihhcjaaRows
import Derived.KernelRfl
set_option linter.unusedVariables false
set_option linter.unusedSimpArgs false
set_option maxRecDepth 20000
namespace Go.Proofs.YtoihpjpgihhcjaaR
open Go Go.Proofs.YtoihpjpgihhcjaaEv Go.Proofs
def raws : Nat → List Bool := fun f => ([(31, [true, false, true]), (44, [true, false, false])] : List (Nat × List Bool)).lookup f |>.getD []
/-- tenterhook/tenterhooklaw16.QueueFirst -/
def ir3 : F := ⟨139, [.t 2],
 (.seq (.ops none [⟨some 1, .box (.t 0), none⟩,
   ⟨some 2, .mv (.c (.bool false)), none⟩])
  (.seq (.ops none [⟨some 12, .call 8 true [] [], none⟩,
    ⟨some 3, .mv (.t 12), none⟩])
   (.seq (.seq (.ops none [⟨some 13, .faddr 1 (.t 1), none⟩,
      ⟨some 14, .load false 1 (.t 13), none⟩,
      ⟨some 15, .len false (.t 14), none⟩,
      ⟨some 16, .bin .gtr (.t 15) (.c (.int .i64 30)), none⟩,
      ⟨some 17, .mv (.t 16), none⟩,
      ⟨some 18, .load true 2 (.t 1), some (17, false)⟩,
      ⟨some 19, .call 10 false [] [(.t 18)], some (17, false)⟩,
      ⟨some 20, .call 9 true [] [(.t 19)], some (17, false)⟩,
      ⟨some 21, .un .not (.t 20), some (17, false)⟩,
      ⟨some 22, .pick (.t 17) (.c (.bool true)) (.t 21), none⟩])
     (.cond (.t 22)
      (.seq (.ops none [⟨some 23, .mv (.t 3), none⟩,
        ⟨some 2, .mv (.t 23), none⟩])
       .ret)
      .skip))
    (.seq (.ops none [⟨some 25, .load true 2 (.t 1), none⟩,
      ⟨some 26, .call 10 false [] [(.t 25)], none⟩,
      ⟨some 27, .call 11 false [] [(.t 26)], none⟩,
      ⟨some 24, .mv (.t 27), none⟩,
      ⟨some 28, .ext (.t 24) 0, none⟩,
      ⟨some 29, .ext (.t 24) 1, none⟩,
      ⟨some 30, .ext (.t 24) 2, none⟩,
      ⟨some 4, .alloc [.int .i64 0, .nil], none⟩,
      ⟨none, .store 2 (.t 4) (.t 28), none⟩,
      ⟨some 5, .mv (.t 29), none⟩,
      ⟨some 6, .mv (.t 30), none⟩])
     (.seq (.seq (.ops none [⟨some 31, .mv (.t 6), none⟩,
        ⟨some 32, .un .not (.t 31), none⟩])
       (.cond (.t 32)
        (.seq (.ops none [⟨some 33, .mv (.t 3), none⟩,
          ⟨some 34, .mv (.t 33), none⟩,
          ⟨some 35, .faddr 1 (.t 1), some (34, true)⟩,
          ⟨some 36, .load false 1 (.t 35), some (34, true)⟩,
          ⟨some 37, .len false (.t 36), some (34, true)⟩,
          ⟨some 38, .bin .eql (.t 37) (.c (.int .i64 0)), some (34, true)⟩,
          ⟨some 39, .pick (.t 34) (.t 38) (.c (.bool false)), none⟩,
          ⟨some 2, .mv (.t 39), none⟩])
         .ret)
        .skip))
      (.seq (.ops none [⟨some 7, .mv (.c (.int .i64 (-1))), none⟩])
       (.seq (.seq (.ops none [⟨some 8, .mv (.c (.int .i64 0)), none⟩])
         (.block 0 (.loop [1, 3, 4, 5, 7, 8] []
           (.seq (.seq (.ops none [⟨some 40, .mv (.t 8), none⟩,
              ⟨some 41, .faddr 1 (.t 1), none⟩,
              ⟨some 42, .load false 1 (.t 41), none⟩,
              ⟨some 43, .len false (.t 42), none⟩,
              ⟨some 44, .bin .lss (.t 40) (.t 43), none⟩])
             (.cond (.t 44)
              .skip
              (.exit 0)))
            (.seq (.block 1 (.seq (.ops none [⟨some 47, .faddr 1 (.t 1), none⟩,
                ⟨some 48, .load false 1 (.t 47), none⟩,
                ⟨some 49, .mv (.t 8), none⟩,
                ⟨some 50, .iaddr 3 (.t 48) (.t 49), none⟩,
                ⟨some 51, .faddr 0 (.t 50), none⟩,
                ⟨some 52, .load false 1 (.t 51), none⟩,
                ⟨some 53, .mv (.t 5), none⟩,
                ⟨some 54, .bin .eql (.t 52) (.t 53), none⟩])
               (.cond (.t 54)
                (.ops none [⟨some 55, .mv (.t 8), none⟩,
                 ⟨some 7, .mv (.t 55), none⟩])
                .skip)))
             (.ops none [⟨some 45, .mv (.t 8), none⟩,
              ⟨some 46, .bin .add (.t 45) (.c (.int .i64 1)), none⟩,
              ⟨some 8, .mv (.t 46), none⟩]))))))
        (.seq (.seq (.ops none [⟨some 56, .mv (.t 7), none⟩,
           ⟨some 57, .bin .lss (.t 56) (.c (.int .i64 0)), none⟩,
           ⟨some 58, .mv (.t 57), none⟩,
           ⟨some 59, .faddr 1 (.t 4), some (58, false)⟩,
           ⟨some 60, .load false 1 (.t 59), some (58, false)⟩,
           ⟨some 61, .len false (.t 60), some (58, false)⟩,
           ⟨some 62, .faddr 1 (.t 1), some (58, false)⟩,
           ⟨some 63, .load false 1 (.t 62), some (58, false)⟩,
           ⟨some 64, .len false (.t 63), some (58, false)⟩,
           ⟨some 65, .bin .sub (.t 64) (.c (.int .i64 1)), some (58, false)⟩,
           ⟨some 66, .bin .neq (.t 61) (.t 65), some (58, false)⟩,
           ⟨some 67, .pick (.t 58) (.c (.bool true)) (.t 66), none⟩,
           ⟨some 68, .mv (.t 67), none⟩,
           ⟨some 69, .faddr 0 (.t 4), some (68, false)⟩,
           ⟨some 70, .load false 1 (.t 69), some (68, false)⟩,
           ⟨some 71, .faddr 0 (.t 1), some (68, false)⟩,
           ⟨some 72, .load false 1 (.t 71), some (68, false)⟩,
           ⟨some 73, .bin .neq (.t 70) (.t 72), some (68, false)⟩,
           ⟨some 74, .pick (.t 68) (.c (.bool true)) (.t 73), none⟩])
          (.cond (.t 74)
           (.seq (.ops none [⟨some 2, .mv (.c (.bool false)), none⟩])
            .ret)
           .skip))
         (.seq (.seq (.ops none [⟨some 9, .mv (.c (.int .i64 0)), none⟩])
           (.block 2 (.loop [1, 3, 4, 7, 9] []
             (.seq (.seq (.ops none [⟨some 75, .mv (.t 9), none⟩,
                ⟨some 76, .faddr 1 (.t 1), none⟩,
                ⟨some 77, .load false 1 (.t 76), none⟩,
                ⟨some 78, .len false (.t 77), none⟩,
                ⟨some 79, .bin .lss (.t 75) (.t 78), none⟩])
               (.cond (.t 79)
                .skip
                (.exit 2)))
              (.seq (.block 3 (.seq (.ops none [⟨some 82, .faddr 1 (.t 1), none⟩,
                  ⟨some 83, .load false 1 (.t 82), none⟩,
                  ⟨some 84, .mv (.t 9), none⟩,
                  ⟨some 85, .iaddr 3 (.t 83) (.t 84), none⟩,
                  ⟨some 86, .load true 3 (.t 85), none⟩,
                  ⟨some 10, .alloc [.int .i64 0, .int .i64 0, .int .i64 0], none⟩,
                  ⟨none, .store 3 (.t 10) (.t 86), none⟩])
                 (.seq (.ops (some []) [⟨some 87, .faddr 1 (.t 10), none⟩,
                   ⟨some 88, .load false 1 (.t 87), none⟩,
                   ⟨some 89, .faddr 1 (.t 1), none⟩,
                   ⟨some 90, .load false 1 (.t 89), none⟩,
                   ⟨some 91, .mv (.t 7), none⟩,
                   ⟨some 92, .iaddr 3 (.t 90) (.t 91), none⟩,
                   ⟨some 93, .faddr 1 (.t 92), none⟩,
                   ⟨some 94, .load false 1 (.t 93), none⟩,
                   ⟨some 95, .bin .gtr (.t 88) (.t 94), none⟩,
                   ⟨some 96, .mv (.t 95), none⟩,
                   ⟨some 97, .faddr 1 (.t 10), some (96, false)⟩,
                   ⟨some 98, .load false 1 (.t 97), some (96, false)⟩,
                   ⟨some 99, .faddr 1 (.t 1), some (96, false)⟩,
                   ⟨some 100, .load false 1 (.t 99), some (96, false)⟩,
                   ⟨some 101, .mv (.t 7), some (96, false)⟩,
                   ⟨some 102, .iaddr 3 (.t 100) (.t 101), some (96, false)⟩,
                   ⟨some 103, .faddr 1 (.t 102), some (96, false)⟩,
                   ⟨some 104, .load false 1 (.t 103), some (96, false)⟩,
                   ⟨some 105, .bin .eql (.t 98) (.t 104), some (96, false)⟩,
                   ⟨some 106, .mv (.t 105), some (96, false)⟩,
                   ⟨some 107, .faddr 2 (.t 10), some (106, true)⟩,
                   ⟨some 108, .load false 1 (.t 107), some (106, true)⟩,
                   ⟨some 109, .faddr 1 (.t 1), some (106, true)⟩,
                   ⟨some 110, .load false 1 (.t 109), some (106, true)⟩,
                   ⟨some 111, .mv (.t 7), some (106, true)⟩,
                   ⟨some 112, .iaddr 3 (.t 110) (.t 111), some (106, true)⟩,
                   ⟨some 113, .faddr 2 (.t 112), some (106, true)⟩,
                   ⟨some 114, .load false 1 (.t 113), some (106, true)⟩,
                   ⟨some 115, .bin .lss (.t 108) (.t 114), some (106, true)⟩,
                   ⟨some 116, .pick (.t 106) (.t 115) (.c (.bool false)), some (96, false)⟩,
                   ⟨some 117, .pick (.t 96) (.c (.bool true)) (.t 116), none⟩])
                  (.cond (.t 117)
                   (.seq (.ops none [⟨some 2, .mv (.c (.bool false)), none⟩])
                    .ret)
                   .skip))))
               (.ops none [⟨some 80, .mv (.t 9), none⟩,
                ⟨some 81, .bin .add (.t 80) (.c (.int .i64 1)), none⟩,
                ⟨some 9, .mv (.t 81), none⟩]))))))
          (.seq (.seq (.ops none [⟨some 11, .mv (.c (.int .i64 0)), none⟩])
            (.block 4 (.loop [1, 3, 4, 11] []
              (.seq (.seq (.ops none [⟨some 118, .mv (.t 11), none⟩,
                 ⟨some 119, .faddr 1 (.t 4), none⟩,
                 ⟨some 120, .load false 1 (.t 119), none⟩,
                 ⟨some 121, .len false (.t 120), none⟩,
                 ⟨some 122, .bin .lss (.t 118) (.t 121), none⟩])
                (.cond (.t 122)
                 .skip
                 (.exit 4)))
               (.seq (.block 5 (.seq (.ops (some [(1, 7), (1, 11)]) [⟨some 125, .load true 2 (.t 4), none⟩,
                   ⟨some 126, .call 12 false [] [(.t 125)], none⟩,
                   ⟨some 127, .field false 1 1 (.t 126), none⟩,
                   ⟨some 128, .mv (.t 11), none⟩,
                   ⟨some 129, .iaddr 3 (.t 127) (.t 128), none⟩,
                   ⟨some 130, .load true 3 (.t 129), none⟩,
                   ⟨some 131, .faddr 1 (.t 1), none⟩,
                   ⟨some 132, .load false 1 (.t 131), none⟩,
                   ⟨some 133, .mv (.t 11), none⟩,
                   ⟨some 134, .bin .add (.t 133) (.c (.int .i64 1)), none⟩,
                   ⟨some 135, .iaddr 3 (.t 132) (.t 134), none⟩,
                   ⟨some 136, .load true 3 (.t 135), none⟩,
                   ⟨some 137, .eqS true [0, 0, 0] (.t 130) (.t 136), none⟩])
                  (.cond (.t 137)
                   (.seq (.ops none [⟨some 2, .mv (.c (.bool false)), none⟩])
                    .ret)
                   .skip)))
                (.ops none [⟨some 123, .mv (.t 11), none⟩,
                 ⟨some 124, .bin .add (.t 123) (.c (.int .i64 1)), none⟩,
                 ⟨some 11, .mv (.t 124), none⟩]))))))
           (.seq (.ops none [⟨some 138, .mv (.t 3), none⟩,
             ⟨some 2, .mv (.t 138), none⟩])
            .ret)))))))))))⟩
theorem cop3 : copF Try.prog raws [([1, 3, 4, 5, 7, 8], []), ([1, 3, 4, 7, 9], []), ([1, 3, 4, 11], [])] 3 = some ir3 := by kernel_rfl
/-- tenterhook/tenterhooklaw16.QueueRound -/
def ir4 : F := ⟨85, [.t 6],
 (.seq (.ops none [⟨some 6, .mv (.c (.bool false)), none⟩])
  (.seq (.ops none [⟨some 20, .call 8 true [] [], none⟩,
    ⟨some 7, .mv (.t 20), none⟩])
   (.seq (.ops none [⟨some 21, .mv (.t 0), none⟩,
     ⟨some 22, .bin .and (.t 21) (.c (.int .i64 7)), none⟩,
     ⟨some 23, .bin .add (.c (.int .i64 1)) (.t 22), none⟩,
     ⟨some 8, .mv (.t 23), none⟩])
    (.seq (.ops none [⟨some 24, .mv (.t 1), none⟩,
      ⟨some 25, .bin .and (.t 24) (.c (.int .i64 3)), none⟩,
      ⟨some 9, .mv (.t 25), none⟩])
     (.seq (.ops none [⟨some 26, .build [.int .i64 0, .nil] [], none⟩,
       ⟨some 10, .alloc [.int .i64 0, .nil], none⟩,
       ⟨none, .store 2 (.t 10) (.t 26), none⟩])
      (.seq (.seq (.ops none [⟨some 11, .mv (.c (.int .i64 0)), none⟩])
        (.block 0 (.loop [2, 7, 8, 9, 10, 11] []
          (.seq (.seq (.ops none [⟨some 27, .mv (.t 11), none⟩,
             ⟨some 28, .mv (.t 8), none⟩,
             ⟨some 29, .bin .lss (.t 27) (.t 28), none⟩])
            (.cond (.t 29)
             .skip
             (.exit 0)))
           (.seq (.block 1 (.seq (.ops none [⟨some 33, .load true 2 (.t 10), none⟩,
               ⟨some 34, .mv (.t 11), none⟩,
               ⟨some 35, .mv (.t 9), none⟩,
               ⟨some 36, .call 13 false [] [(.t 33), (.t 34), (.t 35)], none⟩,
               ⟨some 32, .mv (.t 36), none⟩,
               ⟨some 37, .ext (.t 32) 0, none⟩,
               ⟨some 38, .ext (.t 32) 1, none⟩,
               ⟨some 12, .alloc [.int .i64 0, .nil], none⟩,
               ⟨none, .store 2 (.t 12) (.t 37), none⟩,
               ⟨some 13, .mv (.t 38), none⟩])
              (.seq (.seq (.ops none [⟨some 39, .mv (.t 13), none⟩,
                 ⟨some 40, .un .not (.t 39), none⟩])
                (.cond (.t 40)
                 (.seq (.ops none [⟨some 6, .mv (.c (.bool false)), none⟩])
                  .ret)
                 .skip))
               (.ops none [⟨some 41, .load true 2 (.t 12), none⟩,
                ⟨none, .store 2 (.t 10) (.t 41), none⟩]))))
            (.ops none [⟨some 30, .mv (.t 11), none⟩,
             ⟨some 31, .bin .add (.t 30) (.c (.int .i64 1)), none⟩,
             ⟨some 11, .mv (.t 31), none⟩]))))))
       (.seq (.seq (.ops none [⟨some 14, .mv (.c (.int .i64 0)), none⟩])
         (.block 2 (.loop [2, 7, 8, 9, 10, 14] []
           (.seq (.seq (.ops none [⟨some 42, .mv (.t 14), none⟩,
              ⟨some 43, .mv (.t 2), none⟩,
              ⟨some 44, .bin .and (.t 43) (.c (.int .i64 7)), none⟩,
              ⟨some 45, .mv (.t 8), none⟩,
              ⟨some 46, .bin .mul (.t 44) (.t 45), none⟩,
              ⟨some 47, .bin .lss (.t 42) (.t 46), none⟩])
             (.cond (.t 47)
              .skip
              (.exit 2)))
            (.seq (.block 3 (.seq (.ops none [⟨some 51, .load true 2 (.t 10), none⟩,
                ⟨some 52, .call 11 false [] [(.t 51)], none⟩,
                ⟨some 50, .mv (.t 52), none⟩,
                ⟨some 53, .ext (.t 50) 0, none⟩,
                ⟨some 54, .ext (.t 50) 1, none⟩,
                ⟨some 55, .ext (.t 50) 2, none⟩,
                ⟨some 15, .alloc [.int .i64 0, .nil], none⟩,
                ⟨none, .store 2 (.t 15) (.t 53), none⟩,
                ⟨some 16, .mv (.t 54), none⟩,
                ⟨some 17, .mv (.t 55), none⟩])
               (.seq (.ops none [⟨some 57, .load true 2 (.t 15), none⟩,
                 ⟨some 58, .mv (.t 16), none⟩,
                 ⟨some 59, .mv (.t 9), none⟩,
                 ⟨some 60, .call 13 false [] [(.t 57), (.t 58), (.t 59)], none⟩,
                 ⟨some 56, .mv (.t 60), none⟩,
                 ⟨some 61, .ext (.t 56) 0, none⟩,
                 ⟨some 62, .ext (.t 56) 1, none⟩,
                 ⟨some 18, .alloc [.int .i64 0, .nil], none⟩,
                 ⟨none, .store 2 (.t 18) (.t 61), none⟩,
                 ⟨some 19, .mv (.t 62), none⟩])
                (.seq (.seq (.ops none [⟨some 63, .mv (.t 17), none⟩,
                   ⟨some 64, .un .not (.t 63), none⟩,
                   ⟨some 65, .mv (.t 64), none⟩,
                   ⟨some 66, .mv (.t 19), some (65, false)⟩,
                   ⟨some 67, .un .not (.t 66), some (65, false)⟩,
                   ⟨some 68, .pick (.t 65) (.c (.bool true)) (.t 67), none⟩,
                   ⟨some 69, .mv (.t 68), none⟩,
                   ⟨some 70, .mv (.t 16), some (69, false)⟩,
                   ⟨some 71, .mv (.t 14), some (69, false)⟩,
                   ⟨some 72, .mv (.t 8), some (69, false)⟩,
                   ⟨some 73, .bin .rem (.t 71) (.t 72), some (69, false)⟩,
                   ⟨some 74, .bin .neq (.t 70) (.t 73), some (69, false)⟩,
                   ⟨some 75, .pick (.t 69) (.c (.bool true)) (.t 74), none⟩])
                  (.cond (.t 75)
                   (.seq (.ops none [⟨some 6, .mv (.c (.bool false)), none⟩])
                    .ret)
                   .skip))
                 (.ops none [⟨some 76, .load true 2 (.t 18), none⟩,
                  ⟨none, .store 2 (.t 10) (.t 76), none⟩])))))
             (.ops none [⟨some 48, .mv (.t 14), none⟩,
              ⟨some 49, .bin .add (.t 48) (.c (.int .i64 1)), none⟩,
              ⟨some 14, .mv (.t 49), none⟩]))))))
        (.seq (.ops none [⟨some 77, .mv (.t 7), none⟩,
          ⟨some 78, .mv (.t 77), none⟩,
          ⟨some 79, .load true 2 (.t 10), some (78, true)⟩,
          ⟨some 80, .call 14 false [] [(.t 79)], some (78, true)⟩,
          ⟨some 81, .len false (.t 80), some (78, true)⟩,
          ⟨some 82, .mv (.t 8), some (78, true)⟩,
          ⟨some 83, .bin .eql (.t 81) (.t 82), some (78, true)⟩,
          ⟨some 84, .pick (.t 78) (.t 83) (.c (.bool false)), none⟩,
          ⟨some 6, .mv (.t 84), none⟩])
         .ret))))))))⟩
theorem cop4 : copF Try.prog raws [([2, 7, 8, 9, 10, 11], []), ([2, 7, 8, 9, 10, 14], [])] 4 = some ir4 := by kernel_rfl
/-- tenterhook/tenterhooklaw16.QueueBack -/
def ir5 : F := ⟨116, [.t 8],
 (.seq (.ops none [⟨some 4, .box (.t 0), none⟩,
   ⟨some 8, .mv (.c (.bool false)), none⟩])
  (.seq (.ops none [⟨some 20, .call 8 true [] [], none⟩,
    ⟨some 9, .mv (.t 20), none⟩])
   (.seq (.seq (.ops none [⟨some 21, .faddr 1 (.t 4), none⟩,
      ⟨some 22, .load false 1 (.t 21), none⟩,
      ⟨some 23, .len false (.t 22), none⟩,
      ⟨some 24, .bin .gtr (.t 23) (.c (.int .i64 30)), none⟩,
      ⟨some 25, .mv (.t 24), none⟩,
      ⟨some 26, .load true 2 (.t 4), some (25, false)⟩,
      ⟨some 27, .call 10 false [] [(.t 26)], some (25, false)⟩,
      ⟨some 28, .call 9 true [] [(.t 27)], some (25, false)⟩,
      ⟨some 29, .un .not (.t 28), some (25, false)⟩,
      ⟨some 30, .pick (.t 25) (.c (.bool true)) (.t 29), none⟩])
     (.cond (.t 30)
      (.seq (.ops none [⟨some 31, .mv (.t 9), none⟩,
        ⟨some 8, .mv (.t 31), none⟩])
       .ret)
      .skip))
    (.seq (.ops none [⟨some 32, .load true 2 (.t 4), none⟩,
      ⟨some 33, .call 10 false [] [(.t 32)], none⟩,
      ⟨some 34, .call 14 false [] [(.t 33)], none⟩,
      ⟨some 10, .mv (.t 34), none⟩])
     (.seq (.ops none [⟨some 36, .load true 2 (.t 4), none⟩,
       ⟨some 37, .call 10 false [] [(.t 36)], none⟩,
       ⟨some 38, .mv (.t 1), none⟩,
       ⟨some 39, .mv (.t 2), none⟩,
       ⟨some 40, .call 13 false [] [(.t 37), (.t 38), (.t 39)], none⟩,
       ⟨some 35, .mv (.t 40), none⟩,
       ⟨some 41, .ext (.t 35) 0, none⟩,
       ⟨some 42, .ext (.t 35) 1, none⟩,
       ⟨some 11, .alloc [.int .i64 0, .nil], none⟩,
       ⟨none, .store 2 (.t 11) (.t 41), none⟩,
       ⟨some 12, .mv (.t 42), none⟩])
      (.seq (.ops none [⟨some 44, .load true 2 (.t 11), none⟩,
        ⟨some 45, .mv (.t 1), none⟩,
        ⟨some 46, .call 15 false [] [(.t 44), (.t 45)], none⟩,
        ⟨some 43, .mv (.t 46), none⟩,
        ⟨some 47, .ext (.t 43) 0, none⟩,
        ⟨some 48, .ext (.t 43) 1, none⟩,
        ⟨some 13, .alloc [.int .i64 0, .nil], none⟩,
        ⟨none, .store 2 (.t 13) (.t 47), none⟩,
        ⟨some 14, .mv (.t 48), none⟩])
       (.seq (.seq (.ops none [⟨some 49, .mv (.t 12), none⟩,
          ⟨some 50, .mv (.t 49), none⟩,
          ⟨some 51, .mv (.t 14), some (50, true)⟩,
          ⟨some 52, .un .not (.t 51), some (50, true)⟩,
          ⟨some 53, .mv (.t 52), some (50, true)⟩,
          ⟨some 54, .load true 2 (.t 13), some (53, false)⟩,
          ⟨some 55, .call 14 false [] [(.t 54)], some (53, false)⟩,
          ⟨some 56, .mv (.t 10), some (53, false)⟩,
          ⟨some 57, .call 16 true [] [(.t 55), (.t 56)], some (53, false)⟩,
          ⟨some 58, .un .not (.t 57), some (53, false)⟩,
          ⟨some 59, .pick (.t 53) (.c (.bool true)) (.t 58), some (50, true)⟩,
          ⟨some 60, .mv (.t 59), some (50, true)⟩,
          ⟨some 61, .faddr 0 (.t 13), some (60, false)⟩,
          ⟨some 62, .load false 1 (.t 61), some (60, false)⟩,
          ⟨some 63, .faddr 0 (.t 4), some (60, false)⟩,
          ⟨some 64, .load false 1 (.t 63), some (60, false)⟩,
          ⟨some 65, .bin .add (.t 64) (.c (.int .i64 1)), some (60, false)⟩,
          ⟨some 66, .bin .neq (.t 62) (.t 65), some (60, false)⟩,
          ⟨some 67, .pick (.t 60) (.c (.bool true)) (.t 66), some (50, true)⟩,
          ⟨some 68, .pick (.t 50) (.t 67) (.c (.bool false)), none⟩])
         (.cond (.t 68)
          (.seq (.ops none [⟨some 8, .mv (.c (.bool false)), none⟩])
           .ret)
          .skip))
        (.seq (.ops none [⟨some 70, .load true 2 (.t 4), none⟩,
          ⟨some 71, .call 10 false [] [(.t 70)], none⟩,
          ⟨some 72, .mv (.t 3), none⟩,
          ⟨some 73, .call 17 false [] [(.t 71), (.t 72)], none⟩,
          ⟨some 69, .mv (.t 73), none⟩,
          ⟨some 74, .ext (.t 69) 0, none⟩,
          ⟨some 75, .ext (.t 69) 1, none⟩,
          ⟨some 76, .ext (.t 69) 2, none⟩,
          ⟨some 15, .alloc [.int .i64 0, .nil], none⟩,
          ⟨none, .store 2 (.t 15) (.t 74), none⟩,
          ⟨some 16, .mv (.t 75), none⟩,
          ⟨some 17, .mv (.t 76), none⟩])
         (.seq (.seq (.ops none [⟨some 77, .mv (.t 17), none⟩,
            ⟨some 78, .un .not (.t 77), none⟩])
           (.cond (.t 78)
            (.seq (.ops none [⟨some 79, .mv (.t 9), none⟩,
              ⟨some 80, .mv (.t 79), none⟩,
              ⟨some 81, .mv (.t 10), some (80, true)⟩,
              ⟨some 82, .len false (.t 81), some (80, true)⟩,
              ⟨some 83, .bin .eql (.t 82) (.c (.int .i64 0)), some (80, true)⟩,
              ⟨some 84, .pick (.t 80) (.t 83) (.c (.bool false)), none⟩,
              ⟨some 8, .mv (.t 84), none⟩])
             .ret)
            .skip))
          (.seq (.ops none [⟨some 85, .mv (.t 3), none⟩,
            ⟨some 86, .minmax true [(.c (.int .i64 0)), (.t 85)], none⟩,
            ⟨some 87, .mv (.t 10), none⟩,
            ⟨some 88, .len false (.t 87), none⟩,
            ⟨some 89, .bin .rem (.t 86) (.t 88), none⟩,
            ⟨some 18, .mv (.t 89), none⟩])
           (.seq (.ops none [⟨some 90, .bslice 1 0 [.int .i64 0] [], none⟩,
             ⟨some 91, .mv (.t 10), none⟩,
             ⟨some 92, .mv (.t 18), none⟩,
             ⟨some 93, .slice false 1 (.t 91) none (some (.t 92)) none, none⟩,
             ⟨some 94, .append 1 (.t 90) (.t 93), none⟩,
             ⟨some 19, .mv (.t 94), none⟩])
            (.seq (.ops none [⟨some 95, .mv (.t 19), none⟩,
              ⟨some 96, .mv (.t 10), none⟩,
              ⟨some 97, .mv (.t 18), none⟩,
              ⟨some 98, .bin .add (.t 97) (.c (.int .i64 1)), none⟩,
              ⟨some 99, .slice false 1 (.t 96) (some (.t 98)) none none, none⟩,
              ⟨some 100, .append 1 (.t 95) (.t 99), none⟩,
              ⟨some 19, .mv (.t 100), none⟩])
             (.seq (.ops none [⟨some 101, .mv (.t 9), none⟩,
               ⟨some 102, .mv (.t 101), none⟩,
               ⟨some 103, .mv (.t 16), some (102, true)⟩,
               ⟨some 104, .mv (.t 10), some (102, true)⟩,
               ⟨some 105, .mv (.t 18), some (102, true)⟩,
               ⟨some 106, .iaddr 1 (.t 104) (.t 105), some (102, true)⟩,
               ⟨some 107, .load false 1 (.t 106), some (102, true)⟩,
               ⟨some 108, .bin .eql (.t 103) (.t 107), some (102, true)⟩,
               ⟨some 109, .pick (.t 102) (.t 108) (.c (.bool false)), none⟩,
               ⟨some 110, .mv (.t 109), none⟩,
               ⟨some 111, .load true 2 (.t 15), some (110, true)⟩,
               ⟨some 112, .call 14 false [] [(.t 111)], some (110, true)⟩,
               ⟨some 113, .mv (.t 19), some (110, true)⟩,
               ⟨some 114, .call 16 true [] [(.t 112), (.t 113)], some (110, true)⟩,
               ⟨some 115, .pick (.t 110) (.t 114) (.c (.bool false)), none⟩,
               ⟨some 8, .mv (.t 115), none⟩])
              .ret)))))))))))))⟩
theorem cop5 : copF Try.prog raws [] 5 = some ir5 := by kernel_rfl
/-- tenterhook/tenterhooklaw16.QueueIs -/
def ir6 : F := ⟨162, [.t 6],
 (.seq (.ops none [⟨some 3, .box (.t 0), none⟩,
   ⟨some 6, .mv (.c (.bool false)), none⟩])
  (.seq (.ops none [⟨some 28, .call 8 true [] [], none⟩,
    ⟨some 7, .mv (.t 28), none⟩])
   (.seq (.seq (.ops none [⟨some 29, .faddr 1 (.t 3), none⟩,
      ⟨some 30, .load false 1 (.t 29), none⟩,
      ⟨some 31, .len false (.t 30), none⟩,
      ⟨some 32, .bin .gtr (.t 31) (.c (.int .i64 30)), none⟩])
     (.cond (.t 32)
      (.seq (.ops none [⟨some 33, .mv (.t 7), none⟩,
        ⟨some 6, .mv (.t 33), none⟩])
       .ret)
      .skip))
    (.seq (.ops none [⟨some 35, .load true 2 (.t 3), none⟩,
      ⟨some 36, .call 10 false [] [(.t 35)], none⟩,
      ⟨some 37, .mv (.t 1), none⟩,
      ⟨some 38, .mv (.t 2), none⟩,
      ⟨some 39, .call 13 false [] [(.t 36), (.t 37), (.t 38)], none⟩,
      ⟨some 34, .mv (.t 39), none⟩,
      ⟨some 40, .ext (.t 34) 0, none⟩,
      ⟨some 41, .ext (.t 34) 1, none⟩,
      ⟨some 8, .alloc [.int .i64 0, .nil], none⟩,
      ⟨none, .store 2 (.t 8) (.t 40), none⟩,
      ⟨some 9, .mv (.t 41), none⟩])
     (.seq (.ops none [⟨some 43, .load true 2 (.t 3), none⟩,
       ⟨some 44, .mv (.t 1), none⟩,
       ⟨some 45, .mv (.t 2), none⟩,
       ⟨some 46, .call 18 false [] [(.t 43), (.t 44), (.t 45)], none⟩,
       ⟨some 42, .mv (.t 46), none⟩,
       ⟨some 47, .ext (.t 42) 0, none⟩,
       ⟨some 48, .ext (.t 42) 1, none⟩,
       ⟨some 10, .alloc [.int .i64 0, .nil], none⟩,
       ⟨none, .store 2 (.t 10) (.t 47), none⟩,
       ⟨some 11, .mv (.t 48), none⟩])
      (.seq (.ops none [⟨some 50, .load true 2 (.t 3), none⟩,
        ⟨some 51, .call 10 false [] [(.t 50)], none⟩,
        ⟨some 52, .mv (.t 2), none⟩,
        ⟨some 53, .call 17 false [] [(.t 51), (.t 52)], none⟩,
        ⟨some 49, .mv (.t 53), none⟩,
        ⟨some 54, .ext (.t 49) 0, none⟩,
        ⟨some 55, .ext (.t 49) 1, none⟩,
        ⟨some 56, .ext (.t 49) 2, none⟩,
        ⟨some 12, .alloc [.int .i64 0, .nil], none⟩,
        ⟨none, .store 2 (.t 12) (.t 54), none⟩,
        ⟨some 13, .mv (.t 55), none⟩,
        ⟨some 14, .mv (.t 56), none⟩])
       (.seq (.ops none [⟨some 58, .load true 2 (.t 3), none⟩,
         ⟨some 59, .mv (.t 2), none⟩,
         ⟨some 60, .call 19 false [] [(.t 58), (.t 59)], none⟩,
         ⟨some 57, .mv (.t 60), none⟩,
         ⟨some 61, .ext (.t 57) 0, none⟩,
         ⟨some 62, .ext (.t 57) 1, none⟩,
         ⟨some 63, .ext (.t 57) 2, none⟩,
         ⟨some 15, .alloc [.int .i64 0, .nil], none⟩,
         ⟨none, .store 2 (.t 15) (.t 61), none⟩,
         ⟨some 16, .mv (.t 62), none⟩,
         ⟨some 17, .mv (.t 63), none⟩])
        (.seq (.ops none [⟨some 65, .load true 2 (.t 3), none⟩,
          ⟨some 66, .call 10 false [] [(.t 65)], none⟩,
          ⟨some 67, .call 11 false [] [(.t 66)], none⟩,
          ⟨some 64, .mv (.t 67), none⟩,
          ⟨some 68, .ext (.t 64) 0, none⟩,
          ⟨some 69, .ext (.t 64) 1, none⟩,
          ⟨some 70, .ext (.t 64) 2, none⟩,
          ⟨some 18, .alloc [.int .i64 0, .nil], none⟩,
          ⟨none, .store 2 (.t 18) (.t 68), none⟩,
          ⟨some 19, .mv (.t 69), none⟩,
          ⟨some 20, .mv (.t 70), none⟩])
         (.seq (.ops none [⟨some 72, .load true 2 (.t 3), none⟩,
           ⟨some 73, .call 20 false [] [(.t 72)], none⟩,
           ⟨some 71, .mv (.t 73), none⟩,
           ⟨some 74, .ext (.t 71) 0, none⟩,
           ⟨some 75, .ext (.t 71) 1, none⟩,
           ⟨some 76, .ext (.t 71) 2, none⟩,
           ⟨some 21, .alloc [.int .i64 0, .nil], none⟩,
           ⟨none, .store 2 (.t 21) (.t 74), none⟩,
           ⟨some 22, .mv (.t 75), none⟩,
           ⟨some 23, .mv (.t 76), none⟩])
          (.seq (.ops none [⟨some 78, .load true 2 (.t 3), none⟩,
            ⟨some 79, .call 10 false [] [(.t 78)], none⟩,
            ⟨some 80, .mv (.t 1), none⟩,
            ⟨some 81, .call 15 false [] [(.t 79), (.t 80)], none⟩,
            ⟨some 77, .mv (.t 81), none⟩,
            ⟨some 82, .ext (.t 77) 0, none⟩,
            ⟨some 83, .ext (.t 77) 1, none⟩,
            ⟨some 24, .alloc [.int .i64 0, .nil], none⟩,
            ⟨none, .store 2 (.t 24) (.t 82), none⟩,
            ⟨some 25, .mv (.t 83), none⟩])
           (.seq (.ops none [⟨some 85, .load true 2 (.t 3), none⟩,
             ⟨some 86, .mv (.t 1), none⟩,
             ⟨some 87, .call 21 false [] [(.t 85), (.t 86)], none⟩,
             ⟨some 84, .mv (.t 87), none⟩,
             ⟨some 88, .ext (.t 84) 0, none⟩,
             ⟨some 89, .ext (.t 84) 1, none⟩,
             ⟨some 26, .alloc [.int .i64 0, .nil], none⟩,
             ⟨none, .store 2 (.t 26) (.t 88), none⟩,
             ⟨some 27, .mv (.t 89), none⟩])
            (.seq (.seq (.ops (some [(1, 2), (12, 13), (29, 30)]) [⟨some 90, .load true 2 (.t 8), none⟩,
               ⟨some 91, .call 12 false [] [(.t 90)], none⟩,
               ⟨some 92, .load true 2 (.t 10), none⟩,
               ⟨some 93, .call 22 true [] [(.t 91), (.t 92)], none⟩,
               ⟨some 94, .un .not (.t 93), none⟩,
               ⟨some 95, .mv (.t 94), none⟩,
               ⟨some 96, .mv (.t 9), some (95, false)⟩,
               ⟨some 97, .mv (.t 11), some (95, false)⟩,
               ⟨some 98, .eqB true (.t 96) (.t 97), some (95, false)⟩,
               ⟨some 99, .pick (.t 95) (.c (.bool true)) (.t 98), none⟩,
               ⟨some 100, .mv (.t 99), none⟩,
               ⟨some 101, .load true 2 (.t 12), some (100, false)⟩,
               ⟨some 102, .call 12 false [] [(.t 101)], some (100, false)⟩,
               ⟨some 103, .load true 2 (.t 15), some (100, false)⟩,
               ⟨some 104, .call 22 true [] [(.t 102), (.t 103)], some (100, false)⟩,
               ⟨some 105, .un .not (.t 104), some (100, false)⟩,
               ⟨some 106, .pick (.t 100) (.c (.bool true)) (.t 105), none⟩,
               ⟨some 107, .mv (.t 106), none⟩,
               ⟨some 108, .mv (.t 13), some (107, false)⟩,
               ⟨some 109, .mv (.t 16), some (107, false)⟩,
               ⟨some 110, .bin .neq (.t 108) (.t 109), some (107, false)⟩,
               ⟨some 111, .pick (.t 107) (.c (.bool true)) (.t 110), none⟩,
               ⟨some 112, .mv (.t 111), none⟩,
               ⟨some 113, .mv (.t 14), some (112, false)⟩,
               ⟨some 114, .mv (.t 17), some (112, false)⟩,
               ⟨some 115, .eqB true (.t 113) (.t 114), some (112, false)⟩,
               ⟨some 116, .pick (.t 112) (.c (.bool true)) (.t 115), none⟩,
               ⟨some 117, .mv (.t 116), none⟩,
               ⟨some 118, .load true 2 (.t 18), some (117, false)⟩,
               ⟨some 119, .call 12 false [] [(.t 118)], some (117, false)⟩,
               ⟨some 120, .load true 2 (.t 21), some (117, false)⟩,
               ⟨some 121, .call 22 true [] [(.t 119), (.t 120)], some (117, false)⟩,
               ⟨some 122, .un .not (.t 121), some (117, false)⟩,
               ⟨some 123, .pick (.t 117) (.c (.bool true)) (.t 122), none⟩,
               ⟨some 124, .mv (.t 123), none⟩,
               ⟨some 125, .mv (.t 19), some (124, false)⟩,
               ⟨some 126, .mv (.t 22), some (124, false)⟩,
               ⟨some 127, .bin .neq (.t 125) (.t 126), some (124, false)⟩,
               ⟨some 128, .pick (.t 124) (.c (.bool true)) (.t 127), none⟩,
               ⟨some 129, .mv (.t 128), none⟩,
               ⟨some 130, .mv (.t 20), some (129, false)⟩,
               ⟨some 131, .mv (.t 23), some (129, false)⟩,
               ⟨some 132, .eqB true (.t 130) (.t 131), some (129, false)⟩,
               ⟨some 133, .pick (.t 129) (.c (.bool true)) (.t 132), none⟩])
              (.cond (.t 133)
               (.seq (.ops none [⟨some 6, .mv (.c (.bool false)), none⟩])
                .ret)
               .skip))
             (.seq (.ops (some [(3, 4), (14, 16), (15, 16), (22, 24)]) [⟨some 134, .mv (.t 7), none⟩,
               ⟨some 135, .mv (.t 134), none⟩,
               ⟨some 136, .load true 2 (.t 24), some (135, true)⟩,
               ⟨some 137, .call 12 false [] [(.t 136)], some (135, true)⟩,
               ⟨some 138, .load true 2 (.t 26), some (135, true)⟩,
               ⟨some 139, .call 22 true [] [(.t 137), (.t 138)], some (135, true)⟩,
               ⟨some 140, .pick (.t 135) (.t 139) (.c (.bool false)), none⟩,
               ⟨some 141, .mv (.t 140), none⟩,
               ⟨some 142, .mv (.t 25), some (141, true)⟩,
               ⟨some 143, .mv (.t 27), some (141, true)⟩,
               ⟨some 144, .eqB false (.t 142) (.t 143), some (141, true)⟩,
               ⟨some 145, .pick (.t 141) (.t 144) (.c (.bool false)), none⟩,
               ⟨some 146, .mv (.t 145), none⟩,
               ⟨some 147, .load true 2 (.t 3), some (146, true)⟩,
               ⟨some 148, .call 10 false [] [(.t 147)], some (146, true)⟩,
               ⟨some 149, .call 14 false [] [(.t 148)], some (146, true)⟩,
               ⟨some 150, .load true 2 (.t 3), some (146, true)⟩,
               ⟨some 151, .call 23 false [] [(.t 150)], some (146, true)⟩,
               ⟨some 152, .call 16 true [] [(.t 149), (.t 151)], some (146, true)⟩,
               ⟨some 153, .pick (.t 146) (.t 152) (.c (.bool false)), none⟩,
               ⟨some 154, .mv (.t 153), none⟩,
               ⟨some 155, .load true 2 (.t 3), some (154, true)⟩,
               ⟨some 156, .call 10 false [] [(.t 155)], some (154, true)⟩,
               ⟨some 157, .call 9 true [] [(.t 156)], some (154, true)⟩,
               ⟨some 158, .load true 2 (.t 3), some (154, true)⟩,
               ⟨some 159, .call 24 true [] [(.t 158)], some (154, true)⟩,
               ⟨some 160, .eqB false (.t 157) (.t 159), some (154, true)⟩,
               ⟨some 161, .pick (.t 154) (.t 160) (.c (.bool false)), none⟩,
               ⟨some 6, .mv (.t 161), none⟩])
              .ret)))))))))))))⟩
theorem cop6 : copF Try.prog raws [] 6 = some ir6 := by kernel_rfl
/-- tenterhook/tenterhooklaw16.QueuePlays -/
def ir7 : F := ⟨128, [.t 2],
 (.seq (.ops none [⟨some 2, .mv (.c (.bool false)), none⟩])
  (.seq (.ops none [⟨some 19, .call 8 true [] [], none⟩,
    ⟨some 3, .mv (.t 19), none⟩])
   (.seq (.seq (.ops none [⟨some 20, .mv (.t 0), none⟩,
      ⟨some 21, .len false (.t 20), none⟩,
      ⟨some 22, .bin .gtr (.t 21) (.c (.int .i64 200)), none⟩])
     (.cond (.t 22)
      (.seq (.ops none [⟨some 23, .mv (.t 3), none⟩,
        ⟨some 2, .mv (.t 23), none⟩])
       .ret)
      .skip))
    (.seq (.ops none [⟨some 24, .build [.int .i64 0, .nil] [], none⟩,
      ⟨some 4, .alloc [.int .i64 0, .nil], none⟩,
      ⟨none, .store 2 (.t 4) (.t 24), none⟩])
     (.seq (.ops none [⟨some 25, .build [.bool false, .bool false, .bool false, .bool false, .bool false, .bool false, .bool false, .bool false] [], none⟩,
       ⟨some 5, .alloc [.bool false, .bool false, .bool false, .bool false, .bool false, .bool false, .bool false, .bool false], none⟩,
       ⟨none, .store 8 (.t 5) (.t 25), none⟩])
      (.seq (.seq (.ops none [⟨some 6, .mv (.c (.int .i64 0)), none⟩])
        (.block 0 (.loop [0, 3, 4, 5, 6] []
          (.seq (.seq (.ops none [⟨some 26, .mv (.t 6), none⟩,
             ⟨some 27, .mv (.t 0), none⟩,
             ⟨some 28, .len false (.t 27), none⟩,
             ⟨some 29, .bin .lss (.t 26) (.t 28), none⟩])
            (.cond (.t 29)
             .skip
             (.exit 0)))
           (.seq (.block 1 (.seq (.ops none [⟨some 32, .mv (.t 0), none⟩,
               ⟨some 33, .mv (.t 6), none⟩,
               ⟨some 34, .iaddr 1 (.t 32) (.t 33), none⟩,
               ⟨some 35, .load false 1 (.t 34), none⟩,
               ⟨some 36, .bin .and (.t 35) (.c (.int .i64 7)), none⟩,
               ⟨some 7, .mv (.t 36), none⟩])
              (.seq (.ops none [⟨some 37, .mv (.t 0), none⟩,
                ⟨some 38, .mv (.t 6), none⟩,
                ⟨some 39, .iaddr 1 (.t 37) (.t 38), none⟩,
                ⟨some 40, .load false 1 (.t 39), none⟩,
                ⟨some 41, .bin .shr (.t 40) (.c (.int .u64 3)), none⟩,
                ⟨some 42, .bin .and (.t 41) (.c (.int .i64 3)), none⟩,
                ⟨some 8, .mv (.t 42), none⟩])
               (.seq (.seq (.ops none [⟨some 43, .mv (.t 0), none⟩,
                  ⟨some 44, .mv (.t 6), none⟩,
                  ⟨some 45, .iaddr 1 (.t 43) (.t 44), none⟩,
                  ⟨some 46, .load false 1 (.t 45), none⟩,
                  ⟨some 47, .bin .shr (.t 46) (.c (.int .u64 5)), none⟩,
                  ⟨some 48, .bin .and (.t 47) (.c (.int .i64 3)), none⟩])
                 (.block 2 (.seq (.ops none [⟨some 65, .bin .eql (.t 48) (.c (.int .i64 0)), none⟩,
                    ⟨some 64, .mv (.t 65), none⟩])
                   (.cond (.t 64)
                    (.seq (.ops none [⟨some 67, .load true 2 (.t 4), none⟩,
                      ⟨some 68, .call 11 false [] [(.t 67)], none⟩,
                      ⟨some 66, .mv (.t 68), none⟩,
                      ⟨some 69, .ext (.t 66) 0, none⟩,
                      ⟨some 70, .ext (.t 66) 1, none⟩,
                      ⟨some 71, .ext (.t 66) 2, none⟩,
                      ⟨some 9, .alloc [.int .i64 0, .nil], none⟩,
                      ⟨none, .store 2 (.t 9) (.t 69), none⟩,
                      ⟨some 10, .mv (.t 70), none⟩,
                      ⟨some 11, .mv (.t 71), none⟩])
                     (.seq (.seq (.ops none [⟨some 72, .mv (.t 11), none⟩,
                        ⟨some 73, .mv (.t 72), none⟩,
                        ⟨some 74, .mv (.t 10), some (73, true)⟩,
                        ⟨some 75, .bin .lss (.t 74) (.c (.int .i64 0)), some (73, true)⟩,
                        ⟨some 76, .mv (.t 75), some (73, true)⟩,
                        ⟨some 77, .mv (.t 10), some (76, false)⟩,
                        ⟨some 78, .bin .gtr (.t 77) (.c (.int .i64 7)), some (76, false)⟩,
                        ⟨some 79, .pick (.t 76) (.c (.bool true)) (.t 78), some (73, true)⟩,
                        ⟨some 80, .mv (.t 79), some (73, true)⟩,
                        ⟨some 81, .mv (.t 10), some (80, false)⟩,
                        ⟨some 82, .iaddrA 1 8 (.t 5) (.t 81), some (80, false)⟩,
                        ⟨some 83, .load false 1 (.t 82), some (80, false)⟩,
                        ⟨some 84, .un .not (.t 83), some (80, false)⟩,
                        ⟨some 85, .pick (.t 80) (.c (.bool true)) (.t 84), some (73, true)⟩,
                        ⟨some 86, .pick (.t 73) (.t 85) (.c (.bool false)), none⟩])
                       (.cond (.t 86)
                        (.seq (.ops none [⟨some 2, .mv (.c (.bool false)), none⟩])
                         .ret)
                        .skip))
                      (.seq (.seq (.ops none [⟨some 87, .mv (.t 11), none⟩])
                        (.cond (.t 87)
                         (.ops none [⟨some 88, .mv (.t 10), none⟩,
                          ⟨some 89, .iaddrA 1 8 (.t 5) (.t 88), none⟩,
                          ⟨none, .store 1 (.t 89) (.c (.bool false)), none⟩])
                         .skip))
                       (.ops none [⟨some 90, .load true 2 (.t 9), none⟩,
                        ⟨none, .store 2 (.t 4) (.t 90), none⟩]))))
                    (.seq (.ops none [⟨some 92, .bin .eql (.t 48) (.c (.int .i64 1)), none⟩,
                      ⟨some 91, .mv (.t 92), none⟩])
                     (.cond (.t 91)
                      (.seq (.ops none [⟨some 94, .load true 2 (.t 4), none⟩,
                        ⟨some 95, .mv (.t 7), none⟩,
                        ⟨some 96, .call 15 false [] [(.t 94), (.t 95)], none⟩,
                        ⟨some 93, .mv (.t 96), none⟩,
                        ⟨some 97, .ext (.t 93) 0, none⟩,
                        ⟨some 98, .ext (.t 93) 1, none⟩,
                        ⟨some 12, .alloc [.int .i64 0, .nil], none⟩,
                        ⟨none, .store 2 (.t 12) (.t 97), none⟩,
                        ⟨some 13, .mv (.t 98), none⟩])
                       (.seq (.seq (.ops none [⟨some 99, .mv (.t 13), none⟩,
                          ⟨some 100, .mv (.t 7), none⟩,
                          ⟨some 101, .iaddrA 1 8 (.t 5) (.t 100), none⟩,
                          ⟨some 102, .load false 1 (.t 101), none⟩,
                          ⟨some 103, .eqB true (.t 99) (.t 102), none⟩])
                         (.cond (.t 103)
                          (.seq (.ops none [⟨some 2, .mv (.c (.bool false)), none⟩])
                           .ret)
                          .skip))
                        (.seq (.ops none [⟨some 104, .mv (.t 7), none⟩,
                          ⟨some 105, .iaddrA 1 8 (.t 5) (.t 104), none⟩,
                          ⟨none, .store 1 (.t 105) (.c (.bool false)), none⟩])
                         (.ops none [⟨some 106, .load true 2 (.t 12), none⟩,
                          ⟨none, .store 2 (.t 4) (.t 106), none⟩]))))
                      (.seq (.ops none [⟨some 50, .load true 2 (.t 4), none⟩,
                        ⟨some 51, .mv (.t 7), none⟩,
                        ⟨some 52, .mv (.t 8), none⟩,
                        ⟨some 53, .call 13 false [] [(.t 50), (.t 51), (.t 52)], none⟩,
                        ⟨some 49, .mv (.t 53), none⟩,
                        ⟨some 54, .ext (.t 49) 0, none⟩,
                        ⟨some 55, .ext (.t 49) 1, none⟩,
                        ⟨some 14, .alloc [.int .i64 0, .nil], none⟩,
                        ⟨none, .store 2 (.t 14) (.t 54), none⟩,
                        ⟨some 15, .mv (.t 55), none⟩])
                       (.seq (.seq (.ops none [⟨some 56, .mv (.t 15), none⟩,
                          ⟨some 57, .mv (.t 7), none⟩,
                          ⟨some 58, .iaddrA 1 8 (.t 5) (.t 57), none⟩,
                          ⟨some 59, .load false 1 (.t 58), none⟩,
                          ⟨some 60, .eqB false (.t 56) (.t 59), none⟩])
                         (.cond (.t 60)
                          (.seq (.ops none [⟨some 2, .mv (.c (.bool false)), none⟩])
                           .ret)
                          .skip))
                        (.seq (.ops none [⟨some 61, .mv (.t 7), none⟩,
                          ⟨some 62, .iaddrA 1 8 (.t 5) (.t 61), none⟩,
                          ⟨none, .store 1 (.t 62) (.c (.bool true)), none⟩])
                         (.ops none [⟨some 63, .load true 2 (.t 14), none⟩,
                          ⟨none, .store 2 (.t 4) (.t 63), none⟩]))))))))))
                (.seq (.ops none [⟨some 107, .load true 2 (.t 4), none⟩,
                  ⟨some 108, .call 14 false [] [(.t 107)], none⟩,
                  ⟨some 16, .mv (.t 108), none⟩])
                 (.seq (.ops none [⟨some 17, .mv (.c (.int .i64 0)), none⟩])
                  (.seq (.seq (.ops none [⟨some 18, .mv (.c (.int .i64 0)), none⟩])
                    (.block 3 (.loop [0, 3, 4, 5, 6, 16, 17, 18] []
                      (.seq (.seq (.ops none [⟨some 109, .mv (.t 18), none⟩,
                         ⟨some 110, .bin .lss (.t 109) (.c (.int .i64 8)), none⟩])
                        (.cond (.t 110)
                         .skip
                         (.exit 3)))
                       (.seq (.block 4 (.seq (.ops none [⟨some 113, .mv (.t 18), none⟩,
                           ⟨some 114, .iaddrA 1 8 (.t 5) (.t 113), none⟩,
                           ⟨some 115, .load false 1 (.t 114), none⟩])
                          (.cond (.t 115)
                           (.ops none [⟨some 116, .mv (.t 17), none⟩,
                            ⟨some 117, .bin .add (.t 116) (.c (.int .i64 1)), none⟩,
                            ⟨some 17, .mv (.t 117), none⟩])
                           .skip)))
                        (.ops none [⟨some 111, .mv (.t 18), none⟩,
                         ⟨some 112, .bin .add (.t 111) (.c (.int .i64 1)), none⟩,
                         ⟨some 18, .mv (.t 112), none⟩]))))))
                   (.seq (.ops none [⟨some 118, .mv (.t 16), none⟩,
                     ⟨some 119, .len false (.t 118), none⟩,
                     ⟨some 120, .mv (.t 17), none⟩,
                     ⟨some 121, .bin .neq (.t 119) (.t 120), none⟩,
                     ⟨some 122, .mv (.t 121), none⟩,
                     ⟨some 123, .load true 2 (.t 4), some (122, false)⟩,
                     ⟨some 124, .call 9 true [] [(.t 123)], some (122, false)⟩,
                     ⟨some 125, .un .not (.t 124), some (122, false)⟩,
                     ⟨some 126, .pick (.t 122) (.c (.bool true)) (.t 125), none⟩])
                    (.cond (.t 126)
                     (.seq (.ops none [⟨some 2, .mv (.c (.bool false)), none⟩])
                      .ret)
                     .skip)))))))))
            (.ops none [⟨some 30, .mv (.t 6), none⟩,
             ⟨some 31, .bin .add (.t 30) (.c (.int .i64 1)), none⟩,
             ⟨some 6, .mv (.t 31), none⟩]))))))
       (.seq (.ops none [⟨some 127, .mv (.t 3), none⟩,
         ⟨some 2, .mv (.t 127), none⟩])
        .ret)))))))⟩
theorem cop7 : copF Try.prog raws [([0, 3, 4, 5, 6], []), ([0, 3, 4, 5, 6, 16, 17, 18], [])] 7 = some ir7 := by kernel_rfl
/-- tenterhook/tenterhooklaw16.awake -/
def ir8 : F := ⟨39, [.t 0],
 (.seq (.ops none [⟨some 0, .mv (.c (.bool false)), none⟩])
  (.seq (.ops none [⟨some 8, .build [.int .i64 0, .nil] [], none⟩,
    ⟨some 9, .call 13 false [] [(.t 8), (.c (.int .i64 3)), (.c (.int .i64 1))], none⟩,
    ⟨some 7, .mv (.t 9), none⟩,
    ⟨some 10, .ext (.t 7) 0, none⟩,
    ⟨some 11, .ext (.t 7) 1, none⟩,
    ⟨some 1, .alloc [.int .i64 0, .nil], none⟩,
    ⟨none, .store 2 (.t 1) (.t 10), none⟩,
    ⟨some 2, .mv (.t 11), none⟩])
   (.seq (.ops none [⟨some 13, .load true 2 (.t 1), none⟩,
     ⟨some 14, .call 13 false [] [(.t 13), (.c (.int .i64 5)), (.c (.int .i64 2))], none⟩,
     ⟨some 12, .mv (.t 14), none⟩,
     ⟨some 15, .ext (.t 12) 0, none⟩,
     ⟨some 16, .ext (.t 12) 1, none⟩,
     ⟨some 3, .alloc [.int .i64 0, .nil], none⟩,
     ⟨none, .store 2 (.t 3) (.t 15), none⟩,
     ⟨some 4, .mv (.t 16), none⟩])
    (.seq (.ops none [⟨some 18, .load true 2 (.t 3), none⟩,
      ⟨some 19, .call 13 false [] [(.t 18), (.c (.int .i64 4)), (.c (.int .i64 2))], none⟩,
      ⟨some 17, .mv (.t 19), none⟩,
      ⟨some 20, .ext (.t 17) 0, none⟩,
      ⟨some 21, .ext (.t 17) 1, none⟩,
      ⟨some 5, .alloc [.int .i64 0, .nil], none⟩,
      ⟨none, .store 2 (.t 5) (.t 20), none⟩,
      ⟨some 6, .mv (.t 21), none⟩])
     (.seq (.ops none [⟨some 22, .mv (.t 2), none⟩,
       ⟨some 23, .mv (.t 22), none⟩,
       ⟨some 24, .mv (.t 4), some (23, true)⟩,
       ⟨some 25, .pick (.t 23) (.t 24) (.c (.bool false)), none⟩,
       ⟨some 26, .mv (.t 25), none⟩,
       ⟨some 27, .mv (.t 6), some (26, true)⟩,
       ⟨some 28, .pick (.t 26) (.t 27) (.c (.bool false)), none⟩,
       ⟨some 29, .mv (.t 28), none⟩,
       ⟨some 30, .load true 2 (.t 5), some (29, true)⟩,
       ⟨some 31, .call 14 false [] [(.t 30)], some (29, true)⟩,
       ⟨some 32, .bslice 1 3 [.int .i64 0] [(0, (.c (.int .i64 5))), (1, (.c (.int .i64 4))), (2, (.c (.int .i64 3)))], some (29, true)⟩,
       ⟨some 33, .call 16 true [] [(.t 31), (.t 32)], some (29, true)⟩,
       ⟨some 34, .pick (.t 29) (.t 33) (.c (.bool false)), none⟩,
       ⟨some 35, .mv (.t 34), none⟩,
       ⟨some 36, .load true 2 (.t 5), some (35, true)⟩,
       ⟨some 37, .call 9 true [] [(.t 36)], some (35, true)⟩,
       ⟨some 38, .pick (.t 35) (.t 37) (.c (.bool false)), none⟩,
       ⟨some 0, .mv (.t 38), none⟩])
      .ret)))))⟩
theorem cop8 : copF Try.prog raws [] 8 = some ir8 := by kernel_rfl
/-- tenterhook/queue.Sane -/
def ir9 : F := ⟨66, [.t 2],
 (.seq (.ops none [⟨some 1, .box (.t 0), none⟩,
   ⟨some 2, .mv (.c (.bool false)), none⟩])
  (.seq (.seq (.ops none [⟨some 7, .faddr 0 (.t 1), none⟩,
     ⟨some 8, .load false 1 (.t 7), none⟩,
     ⟨some 9, .call 25 true [] [(.t 8), (.c (.int .i64 1099511627776))], none⟩,
     ⟨some 10, .un .not (.t 9), none⟩,
     ⟨some 11, .mv (.t 10), none⟩,
     ⟨some 12, .faddr 1 (.t 1), some (11, false)⟩,
     ⟨some 13, .load false 1 (.t 12), some (11, false)⟩,
     ⟨some 14, .len false (.t 13), some (11, false)⟩,
     ⟨some 15, .bin .gtr (.t 14) (.c (.int .i64 8)), some (11, false)⟩,
     ⟨some 16, .pick (.t 11) (.c (.bool true)) (.t 15), none⟩])
    (.cond (.t 16)
     (.seq (.ops none [⟨some 2, .mv (.c (.bool false)), none⟩])
      .ret)
     .skip))
   (.seq (.ops none [⟨some 17, .mkmap, none⟩,
     ⟨some 18, .mkmap, none⟩,
     ⟨some 3, .mv (.t 17), none⟩,
     ⟨some 4, .mv (.t 18), none⟩])
    (.seq (.seq (.ops none [⟨some 19, .faddr 1 (.t 1), none⟩,
       ⟨some 20, .load false 1 (.t 19), none⟩,
       ⟨some 21, .len false (.t 20), none⟩,
       ⟨some 22, .mv (.c (.int .i64 0)), none⟩])
      (.block 0 (.loop [1, 3, 4, 20, 21, 22] []
        (.seq (.ops none [⟨some 23, .bin .lss (.t 22) (.t 21), none⟩])
         (.seq (.cond (.t 23)
           .skip
           (.exit 0))
          (.seq (.block 1 (.seq (.ops none [⟨some 24, .mv (.t 22), none⟩,
              ⟨some 25, .iaddr 3 (.t 20) (.t 22), none⟩,
              ⟨some 26, .load true 3 (.t 25), none⟩,
              ⟨some 6, .alloc [.int .i64 0, .int .i64 0, .int .i64 0], none⟩,
              ⟨some 5, .mv (.t 24), none⟩,
              ⟨none, .store 3 (.t 6) (.t 26), none⟩])
             (.seq (.seq (.ops (some []) [⟨some 27, .load true 3 (.t 6), none⟩,
                ⟨some 28, .faddr 0 (.t 1), none⟩,
                ⟨some 29, .load false 1 (.t 28), none⟩,
                ⟨some 30, .call 26 true [] [(.t 27), (.t 29)], none⟩,
                ⟨some 31, .un .not (.t 30), none⟩,
                ⟨some 32, .mv (.t 31), none⟩,
                ⟨some 33, .mv (.t 3), some (32, false)⟩,
                ⟨some 34, .faddr 0 (.t 6), some (32, false)⟩,
                ⟨some 35, .load false 1 (.t 34), some (32, false)⟩,
                ⟨some 36, .lookup 0 [.bool false] false (.t 33) (.t 35), some (32, false)⟩,
                ⟨some 37, .pick (.t 32) (.c (.bool true)) (.t 36), none⟩,
                ⟨some 38, .mv (.t 37), none⟩,
                ⟨some 39, .mv (.t 4), some (38, false)⟩,
                ⟨some 40, .faddr 2 (.t 6), some (38, false)⟩,
                ⟨some 41, .load false 1 (.t 40), some (38, false)⟩,
                ⟨some 42, .lookup 0 [.bool false] false (.t 39) (.t 41), some (38, false)⟩,
                ⟨some 43, .pick (.t 38) (.c (.bool true)) (.t 42), none⟩,
                ⟨some 44, .mv (.t 43), none⟩,
                ⟨some 45, .mv (.t 5), some (44, false)⟩,
                ⟨some 46, .bin .gtr (.t 45) (.c (.int .i64 0)), some (44, false)⟩,
                ⟨some 47, .mv (.t 46), some (44, false)⟩,
                ⟨some 48, .faddr 1 (.t 1), some (47, true)⟩,
                ⟨some 49, .load false 1 (.t 48), some (47, true)⟩,
                ⟨some 50, .mv (.t 5), some (47, true)⟩,
                ⟨some 51, .bin .sub (.t 50) (.c (.int .i64 1)), some (47, true)⟩,
                ⟨some 52, .iaddr 3 (.t 49) (.t 51), some (47, true)⟩,
                ⟨some 53, .load true 3 (.t 52), some (47, true)⟩,
                ⟨some 54, .load true 3 (.t 6), some (47, true)⟩,
                ⟨some 55, .call 27 true [] [(.t 53), (.t 54)], some (47, true)⟩,
                ⟨some 56, .bin .geq (.t 55) (.c (.int .i64 0)), some (47, true)⟩,
                ⟨some 57, .pick (.t 47) (.t 56) (.c (.bool false)), some (44, false)⟩,
                ⟨some 58, .pick (.t 44) (.c (.bool true)) (.t 57), none⟩])
               (.cond (.t 58)
                (.seq (.ops none [⟨some 2, .mv (.c (.bool false)), none⟩])
                 .ret)
                .skip))
              (.ops (some [(5, 6)]) [⟨some 59, .mv (.t 3), none⟩,
               ⟨some 60, .faddr 0 (.t 6), none⟩,
               ⟨some 61, .load false 1 (.t 60), none⟩,
               ⟨some 62, .mv (.t 4), none⟩,
               ⟨some 63, .faddr 2 (.t 6), none⟩,
               ⟨some 64, .load false 1 (.t 63), none⟩,
               ⟨none, .mapup 0 (.t 59) (.t 61) (.c (.bool true)), none⟩,
               ⟨none, .mapup 0 (.t 62) (.t 64) (.c (.bool true)), none⟩]))))
           (.ops none [⟨some 65, .bin .add (.t 22) (.c (.int .i64 1)), none⟩,
            ⟨some 22, .mv (.t 65), none⟩])))))))
     (.seq (.ops none [⟨some 2, .mv (.c (.bool true)), none⟩])
      .ret)))))⟩
theorem cop9 : copF Try.prog raws [([1, 3, 4, 20, 21, 22], [])] 9 = some ir9 := by kernel_rfl
/-- tenterhook/tenterhooklaw16.line -/
def ir10 : F := ⟨34, [.cell 2 true 2],
 (.seq (.ops none [⟨some 1, .box (.t 0), none⟩,
   ⟨some 2, .alloc [.int .i64 0, .nil], none⟩])
  (.seq (.ops none [⟨some 6, .faddr 0 (.t 1), none⟩,
    ⟨some 7, .load false 1 (.t 6), none⟩,
    ⟨some 8, .build [.int .i64 0, .nil] [(0, 1, (.t 7))], none⟩,
    ⟨some 3, .alloc [.int .i64 0, .nil], none⟩,
    ⟨none, .store 2 (.t 3) (.t 8), none⟩])
   (.seq (.seq (.ops none [⟨some 4, .mv (.c (.int .i64 0)), none⟩])
     (.block 0 (.loop [1, 2, 3, 4] [(3, some 1, 3)]
       (.seq (.seq (.ops none [⟨some 9, .mv (.t 4), none⟩,
          ⟨some 10, .faddr 1 (.t 1), none⟩,
          ⟨some 11, .load false 1 (.t 10), none⟩,
          ⟨some 12, .len false (.t 11), none⟩,
          ⟨some 13, .bin .lss (.t 9) (.t 12), none⟩])
         (.cond (.t 13)
          .skip
          (.exit 0)))
        (.seq (.block 1 (.seq (.ops none [⟨some 16, .faddr 1 (.t 1), none⟩,
            ⟨some 17, .load false 1 (.t 16), none⟩,
            ⟨some 18, .mv (.t 4), none⟩,
            ⟨some 19, .iaddr 3 (.t 17) (.t 18), none⟩,
            ⟨some 20, .load true 3 (.t 19), none⟩,
            ⟨some 5, .alloc [.int .i64 0, .int .i64 0, .int .i64 0], none⟩,
            ⟨none, .store 3 (.t 5) (.t 20), none⟩])
           (.ops none [⟨some 21, .faddr 1 (.t 3), none⟩,
            ⟨some 22, .load false 1 (.t 21), none⟩,
            ⟨some 23, .faddr 0 (.t 5), none⟩,
            ⟨some 24, .load false 1 (.t 23), none⟩,
            ⟨some 25, .faddr 1 (.t 5), none⟩,
            ⟨some 26, .load false 1 (.t 25), none⟩,
            ⟨some 27, .faddr 2 (.t 5), none⟩,
            ⟨some 28, .load false 1 (.t 27), none⟩,
            ⟨some 29, .build [.int .i64 0, .int .i64 0, .int .i64 0] [(0, 1, (.t 24)), (1, 1, (.t 26)), (2, 1, (.t 28))], none⟩,
            ⟨some 30, .bslice 3 1 [.int .i64 0, .int .i64 0, .int .i64 0] [(0, (.t 29))], none⟩,
            ⟨some 31, .append 3 (.t 22) (.t 30), none⟩,
            ⟨some 32, .faddr 1 (.t 3), none⟩,
            ⟨none, .store 1 (.t 32) (.t 31), none⟩])))
         (.ops none [⟨some 14, .mv (.t 4), none⟩,
          ⟨some 15, .bin .add (.t 14) (.c (.int .i64 1)), none⟩,
          ⟨some 4, .mv (.t 15), none⟩]))))))
    (.seq (.ops none [⟨some 33, .load true 2 (.t 3), none⟩,
      ⟨none, .store 2 (.t 2) (.t 33), none⟩])
     .ret))))⟩
theorem cop10 : copF Try.prog raws [([1, 2, 3, 4], [(3, some 1, 3)])] 10 = some ir10 := by kernel_rfl
/-- tenterhook/queue.Take -/
def ir11 : F := ⟨10, [.cell 2 true 2, .t 3, .t 4],
 (.seq (.ops none [⟨some 1, .box (.t 0), none⟩,
   ⟨some 2, .alloc [.int .i64 0, .nil], none⟩,
   ⟨some 3, .mv (.c (.int .i64 0)), none⟩,
   ⟨some 4, .mv (.c (.bool false)), none⟩])
  (.seq (.ops none [⟨some 5, .load true 2 (.t 1), none⟩,
    ⟨some 6, .call 17 false [] [(.t 5), (.c (.int .i64 0))], none⟩,
    ⟨some 7, .ext (.t 6) 0, none⟩,
    ⟨some 8, .ext (.t 6) 1, none⟩,
    ⟨some 9, .ext (.t 6) 2, none⟩,
    ⟨none, .store 2 (.t 2) (.t 7), none⟩,
    ⟨some 3, .mv (.t 8), none⟩,
    ⟨some 4, .mv (.t 9), none⟩])
   .ret))⟩
theorem cop11 : copF Try.prog raws [] 11 = some ir11 := by kernel_rfl
/-- tenterhook/tenterhooklaw16.lined -/
def ir12 : F := ⟨34, [.cell 2 true 2],
 (.seq (.ops none [⟨some 1, .box (.t 0), none⟩,
   ⟨some 2, .alloc [.int .i64 0, .nil], none⟩])
  (.seq (.ops none [⟨some 6, .faddr 0 (.t 1), none⟩,
    ⟨some 7, .load false 1 (.t 6), none⟩,
    ⟨some 8, .build [.int .i64 0, .nil] [(0, 1, (.t 7))], none⟩,
    ⟨some 3, .alloc [.int .i64 0, .nil], none⟩,
    ⟨none, .store 2 (.t 3) (.t 8), none⟩])
   (.seq (.seq (.ops none [⟨some 4, .mv (.c (.int .i64 0)), none⟩])
     (.block 0 (.loop [1, 2, 3, 4] [(3, some 1, 3)]
       (.seq (.seq (.ops none [⟨some 9, .mv (.t 4), none⟩,
          ⟨some 10, .faddr 1 (.t 1), none⟩,
          ⟨some 11, .load false 1 (.t 10), none⟩,
          ⟨some 12, .len false (.t 11), none⟩,
          ⟨some 13, .bin .lss (.t 9) (.t 12), none⟩])
         (.cond (.t 13)
          .skip
          (.exit 0)))
        (.seq (.block 1 (.seq (.ops none [⟨some 16, .faddr 1 (.t 1), none⟩,
            ⟨some 17, .load false 1 (.t 16), none⟩,
            ⟨some 18, .mv (.t 4), none⟩,
            ⟨some 19, .iaddr 3 (.t 17) (.t 18), none⟩,
            ⟨some 20, .load true 3 (.t 19), none⟩,
            ⟨some 5, .alloc [.int .i64 0, .int .i64 0, .int .i64 0], none⟩,
            ⟨none, .store 3 (.t 5) (.t 20), none⟩])
           (.ops none [⟨some 21, .faddr 1 (.t 3), none⟩,
            ⟨some 22, .load false 1 (.t 21), none⟩,
            ⟨some 23, .faddr 0 (.t 5), none⟩,
            ⟨some 24, .load false 1 (.t 23), none⟩,
            ⟨some 25, .faddr 1 (.t 5), none⟩,
            ⟨some 26, .load false 1 (.t 25), none⟩,
            ⟨some 27, .faddr 2 (.t 5), none⟩,
            ⟨some 28, .load false 1 (.t 27), none⟩,
            ⟨some 29, .build [.int .i64 0, .int .i64 0, .int .i64 0] [(0, 1, (.t 24)), (1, 1, (.t 26)), (2, 1, (.t 28))], none⟩,
            ⟨some 30, .bslice 3 1 [.int .i64 0, .int .i64 0, .int .i64 0] [(0, (.t 29))], none⟩,
            ⟨some 31, .append 3 (.t 22) (.t 30), none⟩,
            ⟨some 32, .faddr 1 (.t 3), none⟩,
            ⟨none, .store 1 (.t 32) (.t 31), none⟩])))
         (.ops none [⟨some 14, .mv (.t 4), none⟩,
          ⟨some 15, .bin .add (.t 14) (.c (.int .i64 1)), none⟩,
          ⟨some 4, .mv (.t 15), none⟩]))))))
    (.seq (.ops none [⟨some 33, .load true 2 (.t 3), none⟩,
      ⟨none, .store 2 (.t 2) (.t 33), none⟩])
     .ret))))⟩
theorem cop12 : copF Try.prog raws [([1, 2, 3, 4], [(3, some 1, 3)])] 12 = some ir12 := by kernel_rfl
/-- tenterhook/queue.Put -/
def ir13 : F := ⟨54, [.cell 6 true 2, .t 7],
 (.seq (.ops none [⟨some 3, .box (.t 0), none⟩,
   ⟨some 6, .alloc [.int .i64 0, .nil], none⟩,
   ⟨some 7, .mv (.c (.bool false)), none⟩])
  (.seq (.ops none [⟨some 11, .load true 2 (.t 3), none⟩,
    ⟨some 12, .call 28 false [] [(.t 11)], none⟩,
    ⟨none, .store 2 (.t 3) (.t 12), none⟩])
   (.seq (.ops none [⟨some 13, .mv (.t 1), none⟩,
     ⟨some 14, .mv (.t 2), none⟩,
     ⟨some 15, .faddr 0 (.t 3), none⟩,
     ⟨some 16, .load false 1 (.t 15), none⟩,
     ⟨some 17, .build [.int .i64 0, .int .i64 0, .int .i64 0] [(0, 1, (.t 13)), (1, 1, (.t 14)), (2, 1, (.t 16))], none⟩,
     ⟨some 8, .alloc [.int .i64 0, .int .i64 0, .int .i64 0], none⟩,
     ⟨none, .store 3 (.t 8) (.t 17), none⟩])
    (.seq (.seq (.ops none [⟨some 18, .load true 3 (.t 8), none⟩,
       ⟨some 19, .faddr 0 (.t 3), none⟩,
       ⟨some 20, .load false 1 (.t 19), none⟩,
       ⟨some 21, .bin .add (.t 20) (.c (.int .i64 1)), none⟩,
       ⟨some 22, .call 26 true [] [(.t 18), (.t 21)], none⟩,
       ⟨some 23, .un .not (.t 22), none⟩,
       ⟨some 24, .mv (.t 23), none⟩,
       ⟨some 25, .load true 2 (.t 3), some (24, false)⟩,
       ⟨some 26, .mv (.t 1), some (24, false)⟩,
       ⟨some 27, .call 29 true [] [(.t 25), (.t 26)], some (24, false)⟩,
       ⟨some 28, .bin .geq (.t 27) (.c (.int .i64 0)), some (24, false)⟩,
       ⟨some 29, .pick (.t 24) (.c (.bool true)) (.t 28), none⟩,
       ⟨some 30, .mv (.t 29), none⟩,
       ⟨some 31, .faddr 0 (.t 3), some (30, false)⟩,
       ⟨some 32, .load false 1 (.t 31), some (30, false)⟩,
       ⟨some 33, .bin .eql (.t 32) (.c (.int .i64 1099511627776)), some (30, false)⟩,
       ⟨some 34, .pick (.t 30) (.c (.bool true)) (.t 33), none⟩])
      (.cond (.t 34)
       (.seq (.ops none [⟨some 35, .load true 2 (.t 3), none⟩,
         ⟨none, .store 2 (.t 6) (.t 35), none⟩,
         ⟨some 7, .mv (.c (.bool false)), none⟩])
        .ret)
       .skip))
     (.seq (.ops none [⟨some 37, .faddr 1 (.t 3), none⟩,
       ⟨some 38, .load false 1 (.t 37), none⟩,
       ⟨some 39, .load true 3 (.t 8), none⟩,
       ⟨some 40, .call 30 true [] [(.t 38), (.t 39), (.c (.fn 27 [] []))], none⟩,
       ⟨some 36, .mv (.t 40), none⟩,
       ⟨some 41, .ext (.t 36) 0, none⟩,
       ⟨some 42, .ext (.t 36) 1, none⟩,
       ⟨some 9, .mv (.t 41), none⟩,
       ⟨some 10, .mv (.t 42), none⟩])
      (.seq (.ops (some [(1, 5), (5, 7), (1, 8), (4, 8), (5, 8), (1, 9)]) [⟨some 43, .faddr 0 (.t 3), none⟩,
        ⟨some 44, .load false 1 (.t 43), none⟩,
        ⟨some 45, .bin .add (.t 44) (.c (.int .i64 1)), none⟩,
        ⟨some 46, .faddr 1 (.t 3), none⟩,
        ⟨some 47, .load false 1 (.t 46), none⟩,
        ⟨some 48, .call 32 false [] [(.t 47)], none⟩,
        ⟨some 49, .mv (.t 9), none⟩,
        ⟨some 50, .load true 3 (.t 8), none⟩,
        ⟨some 51, .bslice 3 1 [.int .i64 0, .int .i64 0, .int .i64 0] [(0, (.t 50))], none⟩,
        ⟨some 52, .call 31 false [true, false, true] [(.t 48), (.t 49), (.t 51)], none⟩,
        ⟨some 53, .build [.int .i64 0, .nil] [(0, 1, (.t 45)), (1, 1, (.t 52))], none⟩,
        ⟨none, .store 2 (.t 6) (.t 53), none⟩,
        ⟨some 7, .mv (.c (.bool true)), none⟩])
       .ret))))))⟩
theorem cop13 : copF Try.prog raws [] 13 = some ir13 := by kernel_rfl
/-- tenterhook/queue.Ids -/
def ir14 : F := ⟨21, [.t 2],
 (.seq (.ops none [⟨some 1, .box (.t 0), none⟩,
   ⟨some 2, .mv (.c (.nil)), none⟩])
  (.seq (.ops none [⟨some 3, .mv (.c (.nil)), none⟩])
   (.seq (.seq (.ops none [⟨some 6, .load true 2 (.t 1), none⟩,
      ⟨some 7, .call 28 false [] [(.t 6)], none⟩,
      ⟨some 8, .field false 1 1 (.t 7), none⟩,
      ⟨some 9, .len false (.t 8), none⟩,
      ⟨some 10, .mv (.c (.int .i64 0)), none⟩])
     (.block 0 (.loop [3, 8, 9, 10] [(3, none, 1)]
       (.seq (.ops none [⟨some 11, .bin .lss (.t 10) (.t 9), none⟩])
        (.seq (.cond (.t 11)
          .skip
          (.exit 0))
         (.seq (.block 1 (.seq (.ops none [⟨some 12, .iaddr 3 (.t 8) (.t 10), none⟩,
             ⟨some 13, .load true 3 (.t 12), none⟩,
             ⟨some 5, .alloc [.int .i64 0, .int .i64 0, .int .i64 0], none⟩,
             ⟨none, .store 3 (.t 5) (.t 13), none⟩])
            (.ops none [⟨some 14, .mv (.t 3), none⟩,
             ⟨some 15, .faddr 0 (.t 5), none⟩,
             ⟨some 16, .load false 1 (.t 15), none⟩,
             ⟨some 17, .bslice 1 1 [.int .i64 0] [(0, (.t 16))], none⟩,
             ⟨some 18, .append 1 (.t 14) (.t 17), none⟩,
             ⟨some 3, .mv (.t 18), none⟩])))
          (.ops none [⟨some 19, .bin .add (.t 10) (.c (.int .i64 1)), none⟩,
           ⟨some 10, .mv (.t 19), none⟩])))))))
    (.seq (.ops none [⟨some 20, .mv (.t 3), none⟩,
      ⟨some 2, .mv (.t 20), none⟩])
     .ret))))⟩
theorem cop14 : copF Try.prog raws [([3, 8, 9, 10], [(3, none, 1)])] 14 = some ir14 := by kernel_rfl
/-- tenterhook/queue.Drop -/
def ir15 : F := ⟨18, [.cell 4 true 2, .t 5],
 (.seq (.ops none [⟨some 2, .box (.t 0), none⟩,
   ⟨some 4, .alloc [.int .i64 0, .nil], none⟩,
   ⟨some 5, .mv (.c (.bool false)), none⟩])
  (.seq (.ops none [⟨some 7, .load true 2 (.t 2), none⟩,
    ⟨some 8, .call 28 false [] [(.t 7)], none⟩,
    ⟨none, .store 2 (.t 2) (.t 8), none⟩])
   (.seq (.ops none [⟨some 9, .load true 2 (.t 2), none⟩,
     ⟨some 10, .mv (.t 1), none⟩,
     ⟨some 11, .call 29 true [] [(.t 9), (.t 10)], none⟩,
     ⟨some 6, .mv (.t 11), none⟩])
    (.seq (.seq (.ops none [⟨some 12, .mv (.t 6), none⟩,
       ⟨some 13, .bin .lss (.t 12) (.c (.int .i64 0)), none⟩])
      (.cond (.t 13)
       (.seq (.ops none [⟨some 14, .load true 2 (.t 2), none⟩,
         ⟨none, .store 2 (.t 4) (.t 14), none⟩,
         ⟨some 5, .mv (.c (.bool false)), none⟩])
        .ret)
       .skip))
     (.seq (.ops none [⟨some 15, .load true 2 (.t 2), none⟩,
       ⟨some 16, .mv (.t 6), none⟩,
       ⟨some 17, .call 33 false [] [(.t 15), (.t 16)], none⟩,
       ⟨none, .store 2 (.t 4) (.t 17), none⟩,
       ⟨some 5, .mv (.c (.bool true)), none⟩])
      .ret)))))⟩
theorem cop15 : copF Try.prog raws [] 15 = some ir15 := by kernel_rfl
/-- tenterhook/tenterhookref04.Same -/
def ir16 : F := ⟨26, [.t 4],
 (.seq (.ops none [⟨some 4, .mv (.c (.bool false)), none⟩])
  (.seq (.seq (.ops none [⟨some 6, .mv (.t 0), none⟩,
     ⟨some 7, .len false (.t 6), none⟩,
     ⟨some 8, .mv (.t 1), none⟩,
     ⟨some 9, .len false (.t 8), none⟩,
     ⟨some 10, .bin .neq (.t 7) (.t 9), none⟩])
    (.cond (.t 10)
     (.seq (.ops none [⟨some 4, .mv (.c (.bool false)), none⟩])
      .ret)
     .skip))
   (.seq (.seq (.ops none [⟨some 5, .mv (.c (.int .i64 0)), none⟩])
     (.block 0 (.loop [0, 1, 5] []
       (.seq (.seq (.ops none [⟨some 11, .mv (.t 5), none⟩,
          ⟨some 12, .mv (.t 0), none⟩,
          ⟨some 13, .len false (.t 12), none⟩,
          ⟨some 14, .bin .lss (.t 11) (.t 13), none⟩])
         (.cond (.t 14)
          .skip
          (.exit 0)))
        (.seq (.block 1 (.seq (.ops (some []) [⟨some 17, .mv (.t 0), none⟩,
            ⟨some 18, .mv (.t 5), none⟩,
            ⟨some 19, .iaddr 1 (.t 17) (.t 18), none⟩,
            ⟨some 20, .load false 1 (.t 19), none⟩,
            ⟨some 21, .mv (.t 1), none⟩,
            ⟨some 22, .mv (.t 5), none⟩,
            ⟨some 23, .iaddr 1 (.t 21) (.t 22), none⟩,
            ⟨some 24, .load false 1 (.t 23), none⟩,
            ⟨some 25, .bin .neq (.t 20) (.t 24), none⟩])
           (.cond (.t 25)
            (.seq (.ops none [⟨some 4, .mv (.c (.bool false)), none⟩])
             .ret)
            .skip)))
         (.ops none [⟨some 15, .mv (.t 5), none⟩,
          ⟨some 16, .bin .add (.t 15) (.c (.int .i64 1)), none⟩,
          ⟨some 5, .mv (.t 16), none⟩]))))))
    (.seq (.ops none [⟨some 4, .mv (.c (.bool true)), none⟩])
     .ret))))⟩
theorem cop16 : copF Try.prog raws [([0, 1, 5], [])] 16 = some ir16 := by kernel_rfl
/-- tenterhook/queue.Nth -/
def ir17 : F := ⟨30, [.cell 4 true 2, .t 5, .t 6],
 (.seq (.ops none [⟨some 2, .box (.t 0), none⟩,
   ⟨some 4, .alloc [.int .i64 0, .nil], none⟩,
   ⟨some 5, .mv (.c (.int .i64 0)), none⟩,
   ⟨some 6, .mv (.c (.bool false)), none⟩])
  (.seq (.ops none [⟨some 8, .load true 2 (.t 2), none⟩,
    ⟨some 9, .call 28 false [] [(.t 8)], none⟩,
    ⟨none, .store 2 (.t 2) (.t 9), none⟩])
   (.seq (.seq (.ops none [⟨some 10, .faddr 1 (.t 2), none⟩,
      ⟨some 11, .load false 1 (.t 10), none⟩,
      ⟨some 12, .len false (.t 11), none⟩,
      ⟨some 13, .bin .eql (.t 12) (.c (.int .i64 0)), none⟩])
     (.cond (.t 13)
      (.seq (.ops none [⟨some 14, .load true 2 (.t 2), none⟩,
        ⟨none, .store 2 (.t 4) (.t 14), none⟩,
        ⟨some 5, .mv (.c (.int .i64 0)), none⟩,
        ⟨some 6, .mv (.c (.bool false)), none⟩])
       .ret)
      .skip))
    (.seq (.ops none [⟨some 15, .mv (.t 1), none⟩,
      ⟨some 16, .minmax true [(.c (.int .i64 0)), (.t 15)], none⟩,
      ⟨some 17, .faddr 1 (.t 2), none⟩,
      ⟨some 18, .load false 1 (.t 17), none⟩,
      ⟨some 19, .len false (.t 18), none⟩,
      ⟨some 20, .bin .rem (.t 16) (.t 19), none⟩,
      ⟨some 7, .mv (.t 20), none⟩])
     (.seq (.ops (some [(2, 4), (2, 8), (4, 9), (8, 9)]) [⟨some 21, .load true 2 (.t 2), none⟩,
       ⟨some 22, .mv (.t 7), none⟩,
       ⟨some 23, .call 33 false [] [(.t 21), (.t 22)], none⟩,
       ⟨some 24, .faddr 1 (.t 2), none⟩,
       ⟨some 25, .load false 1 (.t 24), none⟩,
       ⟨some 26, .mv (.t 7), none⟩,
       ⟨some 27, .iaddr 3 (.t 25) (.t 26), none⟩,
       ⟨some 28, .faddr 0 (.t 27), none⟩,
       ⟨some 29, .load false 1 (.t 28), none⟩,
       ⟨none, .store 2 (.t 4) (.t 23), none⟩,
       ⟨some 5, .mv (.t 29), none⟩,
       ⟨some 6, .mv (.c (.bool true)), none⟩])
      .ret)))))⟩
theorem cop17 : copF Try.prog raws [] 17 = some ir17 := by kernel_rfl
/-- tenterhook/tenterhookref16.Put -/
def ir18 : F := ⟨89, [.cell 6 true 2, .t 7],
 (.seq (.ops none [⟨some 3, .box (.t 0), none⟩,
   ⟨some 6, .alloc [.int .i64 0, .nil], none⟩,
   ⟨some 7, .mv (.c (.bool false)), none⟩])
  (.seq (.ops none [⟨some 12, .load true 2 (.t 3), none⟩,
    ⟨some 13, .call 34 false [] [(.t 12)], none⟩,
    ⟨none, .store 2 (.t 3) (.t 13), none⟩])
   (.seq (.seq (.ops none [⟨some 14, .mv (.t 1), none⟩,
      ⟨some 15, .bin .lss (.t 14) (.c (.int .i64 0)), none⟩,
      ⟨some 16, .mv (.t 15), none⟩,
      ⟨some 17, .mv (.t 1), some (16, false)⟩,
      ⟨some 18, .bin .gtr (.t 17) (.c (.int .i64 7)), some (16, false)⟩,
      ⟨some 19, .pick (.t 16) (.c (.bool true)) (.t 18), none⟩,
      ⟨some 20, .mv (.t 19), none⟩,
      ⟨some 21, .mv (.t 2), some (20, false)⟩,
      ⟨some 22, .bin .lss (.t 21) (.c (.int .i64 0)), some (20, false)⟩,
      ⟨some 23, .pick (.t 20) (.c (.bool true)) (.t 22), none⟩,
      ⟨some 24, .mv (.t 23), none⟩,
      ⟨some 25, .mv (.t 2), some (24, false)⟩,
      ⟨some 26, .bin .gtr (.t 25) (.c (.int .i64 4)), some (24, false)⟩,
      ⟨some 27, .pick (.t 24) (.c (.bool true)) (.t 26), none⟩,
      ⟨some 28, .mv (.t 27), none⟩,
      ⟨some 29, .faddr 0 (.t 3), some (28, false)⟩,
      ⟨some 30, .load false 1 (.t 29), some (28, false)⟩,
      ⟨some 31, .bin .eql (.t 30) (.c (.int .i64 1099511627776)), some (28, false)⟩,
      ⟨some 32, .pick (.t 28) (.c (.bool true)) (.t 31), none⟩])
     (.cond (.t 32)
      (.seq (.ops none [⟨some 33, .load true 2 (.t 3), none⟩,
        ⟨none, .store 2 (.t 6) (.t 33), none⟩,
        ⟨some 7, .mv (.c (.bool false)), none⟩])
       .ret)
      .skip))
    (.seq (.ops none [⟨some 34, .mv (.t 1), none⟩,
      ⟨some 35, .mv (.t 2), none⟩,
      ⟨some 36, .faddr 0 (.t 3), none⟩,
      ⟨some 37, .load false 1 (.t 36), none⟩,
      ⟨some 38, .build [.int .i64 0, .int .i64 0, .int .i64 0] [(0, 1, (.t 34)), (1, 1, (.t 35)), (2, 1, (.t 37))], none⟩,
      ⟨some 8, .alloc [.int .i64 0, .int .i64 0, .int .i64 0], none⟩,
      ⟨none, .store 3 (.t 8) (.t 38), none⟩])
     (.seq (.ops none [⟨some 9, .mv (.c (.nil)), none⟩])
      (.seq (.ops none [⟨some 10, .mv (.c (.bool false)), none⟩])
       (.seq (.seq (.ops none [⟨some 11, .mv (.c (.int .i64 0)), none⟩])
         (.block 0 (.loop [1, 3, 6, 8, 9, 10, 11] [(9, none, 3)]
           (.seq (.seq (.ops none [⟨some 39, .mv (.t 11), none⟩,
              ⟨some 40, .faddr 1 (.t 3), none⟩,
              ⟨some 41, .load false 1 (.t 40), none⟩,
              ⟨some 42, .len false (.t 41), none⟩,
              ⟨some 43, .bin .lss (.t 39) (.t 42), none⟩])
             (.cond (.t 43)
              .skip
              (.exit 0)))
            (.seq (.block 1 (.seq (.seq (.ops none [⟨some 46, .faddr 1 (.t 3), none⟩,
                 ⟨some 47, .load false 1 (.t 46), none⟩,
                 ⟨some 48, .mv (.t 11), none⟩,
                 ⟨some 49, .iaddr 3 (.t 47) (.t 48), none⟩,
                 ⟨some 50, .faddr 0 (.t 49), none⟩,
                 ⟨some 51, .load false 1 (.t 50), none⟩,
                 ⟨some 52, .mv (.t 1), none⟩,
                 ⟨some 53, .bin .eql (.t 51) (.t 52), none⟩])
                (.cond (.t 53)
                 (.seq (.ops none [⟨some 54, .load true 2 (.t 3), none⟩,
                   ⟨none, .store 2 (.t 6) (.t 54), none⟩,
                   ⟨some 7, .mv (.c (.bool false)), none⟩])
                  .ret)
                 .skip))
               (.seq (.seq (.ops (some []) [⟨some 55, .mv (.t 10), none⟩,
                  ⟨some 56, .un .not (.t 55), none⟩,
                  ⟨some 57, .mv (.t 56), none⟩,
                  ⟨some 58, .load true 3 (.t 8), some (57, true)⟩,
                  ⟨some 59, .faddr 1 (.t 3), some (57, true)⟩,
                  ⟨some 60, .load false 1 (.t 59), some (57, true)⟩,
                  ⟨some 61, .mv (.t 11), some (57, true)⟩,
                  ⟨some 62, .iaddr 3 (.t 60) (.t 61), some (57, true)⟩,
                  ⟨some 63, .load true 3 (.t 62), some (57, true)⟩,
                  ⟨some 64, .call 35 true [] [(.t 58), (.t 63)], some (57, true)⟩,
                  ⟨some 65, .pick (.t 57) (.t 64) (.c (.bool false)), none⟩])
                 (.cond (.t 65)
                  (.seq (.ops none [⟨some 66, .mv (.t 9), none⟩,
                    ⟨some 67, .load true 3 (.t 8), none⟩,
                    ⟨some 68, .bslice 3 1 [.int .i64 0, .int .i64 0, .int .i64 0] [(0, (.t 67))], none⟩,
                    ⟨some 69, .append 3 (.t 66) (.t 68), none⟩,
                    ⟨some 9, .mv (.t 69), none⟩])
                   (.ops none [⟨some 10, .mv (.c (.bool true)), none⟩]))
                  .skip))
                (.ops none [⟨some 70, .mv (.t 9), none⟩,
                 ⟨some 71, .faddr 1 (.t 3), none⟩,
                 ⟨some 72, .load false 1 (.t 71), none⟩,
                 ⟨some 73, .mv (.t 11), none⟩,
                 ⟨some 74, .iaddr 3 (.t 72) (.t 73), none⟩,
                 ⟨some 75, .load true 3 (.t 74), none⟩,
                 ⟨some 76, .bslice 3 1 [.int .i64 0, .int .i64 0, .int .i64 0] [(0, (.t 75))], none⟩,
                 ⟨some 77, .append 3 (.t 70) (.t 76), none⟩,
                 ⟨some 9, .mv (.t 77), none⟩]))))
             (.ops none [⟨some 44, .mv (.t 11), none⟩,
              ⟨some 45, .bin .add (.t 44) (.c (.int .i64 1)), none⟩,
              ⟨some 11, .mv (.t 45), none⟩]))))))
        (.seq (.seq (.ops none [⟨some 78, .mv (.t 10), none⟩,
           ⟨some 79, .un .not (.t 78), none⟩])
          (.cond (.t 79)
           (.ops none [⟨some 80, .mv (.t 9), none⟩,
            ⟨some 81, .load true 3 (.t 8), none⟩,
            ⟨some 82, .bslice 3 1 [.int .i64 0, .int .i64 0, .int .i64 0] [(0, (.t 81))], none⟩,
            ⟨some 83, .append 3 (.t 80) (.t 82), none⟩,
            ⟨some 9, .mv (.t 83), none⟩])
           .skip))
         (.seq (.ops none [⟨some 84, .faddr 0 (.t 3), none⟩,
           ⟨some 85, .load false 1 (.t 84), none⟩,
           ⟨some 86, .bin .add (.t 85) (.c (.int .i64 1)), none⟩,
           ⟨some 87, .mv (.t 9), none⟩,
           ⟨some 88, .build [.int .i64 0, .nil] [(0, 1, (.t 86)), (1, 1, (.t 87))], none⟩,
           ⟨none, .store 2 (.t 6) (.t 88), none⟩,
           ⟨some 7, .mv (.c (.bool true)), none⟩])
          .ret)))))))))⟩
theorem cop18 : copF Try.prog raws [([1, 3, 6, 8, 9, 10, 11], [(9, none, 3)])] 18 = some ir18 := by kernel_rfl
/-- tenterhook/tenterhookref16.Nth -/
def ir19 : F := ⟨30, [.cell 4 true 2, .t 5, .t 6],
 (.seq (.ops none [⟨some 2, .box (.t 0), none⟩,
   ⟨some 4, .alloc [.int .i64 0, .nil], none⟩,
   ⟨some 5, .mv (.c (.int .i64 0)), none⟩,
   ⟨some 6, .mv (.c (.bool false)), none⟩])
  (.seq (.ops none [⟨some 8, .load true 2 (.t 2), none⟩,
    ⟨some 9, .call 34 false [] [(.t 8)], none⟩,
    ⟨none, .store 2 (.t 2) (.t 9), none⟩])
   (.seq (.seq (.ops none [⟨some 10, .faddr 1 (.t 2), none⟩,
      ⟨some 11, .load false 1 (.t 10), none⟩,
      ⟨some 12, .len false (.t 11), none⟩,
      ⟨some 13, .bin .eql (.t 12) (.c (.int .i64 0)), none⟩])
     (.cond (.t 13)
      (.seq (.ops none [⟨some 14, .load true 2 (.t 2), none⟩,
        ⟨none, .store 2 (.t 4) (.t 14), none⟩,
        ⟨some 5, .mv (.c (.int .i64 0)), none⟩,
        ⟨some 6, .mv (.c (.bool false)), none⟩])
       .ret)
      .skip))
    (.seq (.ops none [⟨some 15, .mv (.t 1), none⟩,
      ⟨some 16, .minmax true [(.c (.int .i64 0)), (.t 15)], none⟩,
      ⟨some 17, .faddr 1 (.t 2), none⟩,
      ⟨some 18, .load false 1 (.t 17), none⟩,
      ⟨some 19, .len false (.t 18), none⟩,
      ⟨some 20, .bin .rem (.t 16) (.t 19), none⟩,
      ⟨some 7, .mv (.t 20), none⟩])
     (.seq (.ops (some [(2, 4), (2, 8), (4, 9), (8, 9)]) [⟨some 21, .load true 2 (.t 2), none⟩,
       ⟨some 22, .mv (.t 7), none⟩,
       ⟨some 23, .call 36 false [] [(.t 21), (.t 22)], none⟩,
       ⟨some 24, .faddr 1 (.t 2), none⟩,
       ⟨some 25, .load false 1 (.t 24), none⟩,
       ⟨some 26, .mv (.t 7), none⟩,
       ⟨some 27, .iaddr 3 (.t 25) (.t 26), none⟩,
       ⟨some 28, .faddr 0 (.t 27), none⟩,
       ⟨some 29, .load false 1 (.t 28), none⟩,
       ⟨none, .store 2 (.t 4) (.t 23), none⟩,
       ⟨some 5, .mv (.t 29), none⟩,
       ⟨some 6, .mv (.c (.bool true)), none⟩])
      .ret)))))⟩
theorem cop19 : copF Try.prog raws [] 19 = some ir19 := by kernel_rfl
/-- tenterhook/tenterhookref16.Take -/
def ir20 : F := ⟨10, [.cell 2 true 2, .t 3, .t 4],
 (.seq (.ops none [⟨some 1, .box (.t 0), none⟩,
   ⟨some 2, .alloc [.int .i64 0, .nil], none⟩,
   ⟨some 3, .mv (.c (.int .i64 0)), none⟩,
   ⟨some 4, .mv (.c (.bool false)), none⟩])
  (.seq (.ops none [⟨some 5, .load true 2 (.t 1), none⟩,
    ⟨some 6, .call 19 false [] [(.t 5), (.c (.int .i64 0))], none⟩,
    ⟨some 7, .ext (.t 6) 0, none⟩,
    ⟨some 8, .ext (.t 6) 1, none⟩,
    ⟨some 9, .ext (.t 6) 2, none⟩,
    ⟨none, .store 2 (.t 2) (.t 7), none⟩,
    ⟨some 3, .mv (.t 8), none⟩,
    ⟨some 4, .mv (.t 9), none⟩])
   .ret))⟩
theorem cop20 : copF Try.prog raws [] 20 = some ir20 := by kernel_rfl
/-- tenterhook/tenterhookref16.Drop -/
def ir21 : F := ⟨28, [.cell 4 true 2, .t 5],
 (.seq (.ops none [⟨some 2, .box (.t 0), none⟩,
   ⟨some 4, .alloc [.int .i64 0, .nil], none⟩,
   ⟨some 5, .mv (.c (.bool false)), none⟩])
  (.seq (.ops none [⟨some 7, .load true 2 (.t 2), none⟩,
    ⟨some 8, .call 34 false [] [(.t 7)], none⟩,
    ⟨none, .store 2 (.t 2) (.t 8), none⟩])
   (.seq (.seq (.ops none [⟨some 6, .mv (.c (.int .i64 0)), none⟩])
     (.block 0 (.loop [1, 2, 4, 6] []
       (.seq (.seq (.ops none [⟨some 9, .mv (.t 6), none⟩,
          ⟨some 10, .faddr 1 (.t 2), none⟩,
          ⟨some 11, .load false 1 (.t 10), none⟩,
          ⟨some 12, .len false (.t 11), none⟩,
          ⟨some 13, .bin .lss (.t 9) (.t 12), none⟩])
         (.cond (.t 13)
          .skip
          (.exit 0)))
        (.seq (.block 1 (.seq (.ops none [⟨some 16, .faddr 1 (.t 2), none⟩,
            ⟨some 17, .load false 1 (.t 16), none⟩,
            ⟨some 18, .mv (.t 6), none⟩,
            ⟨some 19, .iaddr 3 (.t 17) (.t 18), none⟩,
            ⟨some 20, .faddr 0 (.t 19), none⟩,
            ⟨some 21, .load false 1 (.t 20), none⟩,
            ⟨some 22, .mv (.t 1), none⟩,
            ⟨some 23, .bin .eql (.t 21) (.t 22), none⟩])
           (.cond (.t 23)
            (.seq (.ops none [⟨some 24, .load true 2 (.t 2), none⟩,
              ⟨some 25, .mv (.t 6), none⟩,
              ⟨some 26, .call 36 false [] [(.t 24), (.t 25)], none⟩,
              ⟨none, .store 2 (.t 4) (.t 26), none⟩,
              ⟨some 5, .mv (.c (.bool true)), none⟩])
             .ret)
            .skip)))
         (.ops none [⟨some 14, .mv (.t 6), none⟩,
          ⟨some 15, .bin .add (.t 14) (.c (.int .i64 1)), none⟩,
          ⟨some 6, .mv (.t 15), none⟩]))))))
    (.seq (.ops none [⟨some 27, .load true 2 (.t 2), none⟩,
      ⟨none, .store 2 (.t 4) (.t 27), none⟩,
      ⟨some 5, .mv (.c (.bool false)), none⟩])
     .ret))))⟩
theorem cop21 : copF Try.prog raws [([1, 2, 4, 6], [])] 21 = some ir21 := by kernel_rfl
/-- tenterhook/tenterhookref16.Same -/
def ir22 : F := ⟨38, [.t 4],
 (.seq (.ops none [⟨some 2, .box (.t 0), none⟩,
   ⟨some 3, .box (.t 1), none⟩,
   ⟨some 4, .mv (.c (.bool false)), none⟩])
  (.seq (.seq (.ops none [⟨some 6, .faddr 0 (.t 2), none⟩,
     ⟨some 7, .load false 1 (.t 6), none⟩,
     ⟨some 8, .faddr 0 (.t 3), none⟩,
     ⟨some 9, .load false 1 (.t 8), none⟩,
     ⟨some 10, .bin .neq (.t 7) (.t 9), none⟩,
     ⟨some 11, .mv (.t 10), none⟩,
     ⟨some 12, .faddr 1 (.t 2), some (11, false)⟩,
     ⟨some 13, .load false 1 (.t 12), some (11, false)⟩,
     ⟨some 14, .len false (.t 13), some (11, false)⟩,
     ⟨some 15, .faddr 1 (.t 3), some (11, false)⟩,
     ⟨some 16, .load false 1 (.t 15), some (11, false)⟩,
     ⟨some 17, .len false (.t 16), some (11, false)⟩,
     ⟨some 18, .bin .neq (.t 14) (.t 17), some (11, false)⟩,
     ⟨some 19, .pick (.t 11) (.c (.bool true)) (.t 18), none⟩])
    (.cond (.t 19)
     (.seq (.ops none [⟨some 4, .mv (.c (.bool false)), none⟩])
      .ret)
     .skip))
   (.seq (.seq (.ops none [⟨some 5, .mv (.c (.int .i64 0)), none⟩])
     (.block 0 (.loop [2, 3, 5] []
       (.seq (.seq (.ops none [⟨some 20, .mv (.t 5), none⟩,
          ⟨some 21, .faddr 1 (.t 2), none⟩,
          ⟨some 22, .load false 1 (.t 21), none⟩,
          ⟨some 23, .len false (.t 22), none⟩,
          ⟨some 24, .bin .lss (.t 20) (.t 23), none⟩])
         (.cond (.t 24)
          .skip
          (.exit 0)))
        (.seq (.block 1 (.seq (.ops (some []) [⟨some 27, .faddr 1 (.t 2), none⟩,
            ⟨some 28, .load false 1 (.t 27), none⟩,
            ⟨some 29, .mv (.t 5), none⟩,
            ⟨some 30, .iaddr 3 (.t 28) (.t 29), none⟩,
            ⟨some 31, .load true 3 (.t 30), none⟩,
            ⟨some 32, .faddr 1 (.t 3), none⟩,
            ⟨some 33, .load false 1 (.t 32), none⟩,
            ⟨some 34, .mv (.t 5), none⟩,
            ⟨some 35, .iaddr 3 (.t 33) (.t 34), none⟩,
            ⟨some 36, .load true 3 (.t 35), none⟩,
            ⟨some 37, .eqS true [0, 0, 0] (.t 31) (.t 36), none⟩])
           (.cond (.t 37)
            (.seq (.ops none [⟨some 4, .mv (.c (.bool false)), none⟩])
             .ret)
            .skip)))
         (.ops none [⟨some 25, .mv (.t 5), none⟩,
          ⟨some 26, .bin .add (.t 25) (.c (.int .i64 1)), none⟩,
          ⟨some 5, .mv (.t 26), none⟩]))))))
    (.seq (.ops none [⟨some 4, .mv (.c (.bool true)), none⟩])
     .ret))))⟩
theorem cop22 : copF Try.prog raws [([2, 3, 5], [])] 22 = some ir22 := by kernel_rfl
/-- tenterhook/tenterhookref16.Ids -/
def ir23 : F := ⟨24, [.t 2],
 (.seq (.ops none [⟨some 1, .box (.t 0), none⟩,
   ⟨some 2, .mv (.c (.nil)), none⟩])
  (.seq (.ops none [⟨some 5, .load true 2 (.t 1), none⟩,
    ⟨some 6, .call 34 false [] [(.t 5)], none⟩,
    ⟨none, .store 2 (.t 1) (.t 6), none⟩])
   (.seq (.ops none [⟨some 3, .mv (.c (.nil)), none⟩])
    (.seq (.seq (.ops none [⟨some 4, .mv (.c (.int .i64 0)), none⟩])
      (.block 0 (.loop [1, 3, 4] [(3, none, 1)]
        (.seq (.seq (.ops none [⟨some 7, .mv (.t 4), none⟩,
           ⟨some 8, .faddr 1 (.t 1), none⟩,
           ⟨some 9, .load false 1 (.t 8), none⟩,
           ⟨some 10, .len false (.t 9), none⟩,
           ⟨some 11, .bin .lss (.t 7) (.t 10), none⟩])
          (.cond (.t 11)
           .skip
           (.exit 0)))
         (.seq (.block 1 (.ops none [⟨some 14, .mv (.t 3), none⟩,
            ⟨some 15, .faddr 1 (.t 1), none⟩,
            ⟨some 16, .load false 1 (.t 15), none⟩,
            ⟨some 17, .mv (.t 4), none⟩,
            ⟨some 18, .iaddr 3 (.t 16) (.t 17), none⟩,
            ⟨some 19, .faddr 0 (.t 18), none⟩,
            ⟨some 20, .load false 1 (.t 19), none⟩,
            ⟨some 21, .bslice 1 1 [.int .i64 0] [(0, (.t 20))], none⟩,
            ⟨some 22, .append 1 (.t 14) (.t 21), none⟩,
            ⟨some 3, .mv (.t 22), none⟩]))
          (.ops none [⟨some 12, .mv (.t 4), none⟩,
           ⟨some 13, .bin .add (.t 12) (.c (.int .i64 1)), none⟩,
           ⟨some 4, .mv (.t 13), none⟩]))))))
     (.seq (.ops none [⟨some 23, .mv (.t 3), none⟩,
       ⟨some 2, .mv (.t 23), none⟩])
      .ret)))))⟩
theorem cop23 : copF Try.prog raws [([1, 3, 4], [(3, none, 1)])] 23 = some ir23 := by kernel_rfl
/-- tenterhook/tenterhookref16.Sane -/
def ir24 : F := ⟨97, [.t 2],
 (.seq (.ops none [⟨some 1, .box (.t 0), none⟩,
   ⟨some 2, .mv (.c (.bool false)), none⟩])
  (.seq (.seq (.ops none [⟨some 6, .faddr 0 (.t 1), none⟩,
     ⟨some 7, .load false 1 (.t 6), none⟩,
     ⟨some 8, .bin .lss (.t 7) (.c (.int .i64 0)), none⟩,
     ⟨some 9, .mv (.t 8), none⟩,
     ⟨some 10, .faddr 0 (.t 1), some (9, false)⟩,
     ⟨some 11, .load false 1 (.t 10), some (9, false)⟩,
     ⟨some 12, .bin .gtr (.t 11) (.c (.int .i64 1099511627776)), some (9, false)⟩,
     ⟨some 13, .pick (.t 9) (.c (.bool true)) (.t 12), none⟩,
     ⟨some 14, .mv (.t 13), none⟩,
     ⟨some 15, .faddr 1 (.t 1), some (14, false)⟩,
     ⟨some 16, .load false 1 (.t 15), some (14, false)⟩,
     ⟨some 17, .len false (.t 16), some (14, false)⟩,
     ⟨some 18, .bin .gtr (.t 17) (.c (.int .i64 8)), some (14, false)⟩,
     ⟨some 19, .pick (.t 14) (.c (.bool true)) (.t 18), none⟩])
    (.cond (.t 19)
     (.seq (.ops none [⟨some 2, .mv (.c (.bool false)), none⟩])
      .ret)
     .skip))
   (.seq (.seq (.ops none [⟨some 3, .mv (.c (.int .i64 0)), none⟩])
     (.block 0 (.loop [1, 3] []
       (.seq (.seq (.ops none [⟨some 20, .mv (.t 3), none⟩,
          ⟨some 21, .faddr 1 (.t 1), none⟩,
          ⟨some 22, .load false 1 (.t 21), none⟩,
          ⟨some 23, .len false (.t 22), none⟩,
          ⟨some 24, .bin .lss (.t 20) (.t 23), none⟩])
         (.cond (.t 24)
          .skip
          (.exit 0)))
        (.seq (.block 1 (.seq (.ops none [⟨some 27, .faddr 1 (.t 1), none⟩,
            ⟨some 28, .load false 1 (.t 27), none⟩,
            ⟨some 29, .mv (.t 3), none⟩,
            ⟨some 30, .iaddr 3 (.t 28) (.t 29), none⟩,
            ⟨some 31, .load true 3 (.t 30), none⟩,
            ⟨some 4, .alloc [.int .i64 0, .int .i64 0, .int .i64 0], none⟩,
            ⟨none, .store 3 (.t 4) (.t 31), none⟩])
           (.seq (.seq (.ops none [⟨some 32, .faddr 0 (.t 4), none⟩,
              ⟨some 33, .load false 1 (.t 32), none⟩,
              ⟨some 34, .bin .lss (.t 33) (.c (.int .i64 0)), none⟩,
              ⟨some 35, .mv (.t 34), none⟩,
              ⟨some 36, .faddr 0 (.t 4), some (35, false)⟩,
              ⟨some 37, .load false 1 (.t 36), some (35, false)⟩,
              ⟨some 38, .bin .gtr (.t 37) (.c (.int .i64 7)), some (35, false)⟩,
              ⟨some 39, .pick (.t 35) (.c (.bool true)) (.t 38), none⟩,
              ⟨some 40, .mv (.t 39), none⟩,
              ⟨some 41, .faddr 1 (.t 4), some (40, false)⟩,
              ⟨some 42, .load false 1 (.t 41), some (40, false)⟩,
              ⟨some 43, .bin .lss (.t 42) (.c (.int .i64 0)), some (40, false)⟩,
              ⟨some 44, .pick (.t 40) (.c (.bool true)) (.t 43), none⟩,
              ⟨some 45, .mv (.t 44), none⟩,
              ⟨some 46, .faddr 1 (.t 4), some (45, false)⟩,
              ⟨some 47, .load false 1 (.t 46), some (45, false)⟩,
              ⟨some 48, .bin .gtr (.t 47) (.c (.int .i64 4)), some (45, false)⟩,
              ⟨some 49, .pick (.t 45) (.c (.bool true)) (.t 48), none⟩,
              ⟨some 50, .mv (.t 49), none⟩,
              ⟨some 51, .faddr 2 (.t 4), some (50, false)⟩,
              ⟨some 52, .load false 1 (.t 51), some (50, false)⟩,
              ⟨some 53, .bin .lss (.t 52) (.c (.int .i64 0)), some (50, false)⟩,
              ⟨some 54, .pick (.t 50) (.c (.bool true)) (.t 53), none⟩,
              ⟨some 55, .mv (.t 54), none⟩,
              ⟨some 56, .faddr 2 (.t 4), some (55, false)⟩,
              ⟨some 57, .load false 1 (.t 56), some (55, false)⟩,
              ⟨some 58, .faddr 0 (.t 1), some (55, false)⟩,
              ⟨some 59, .load false 1 (.t 58), some (55, false)⟩,
              ⟨some 60, .bin .geq (.t 57) (.t 59), some (55, false)⟩,
              ⟨some 61, .pick (.t 55) (.c (.bool true)) (.t 60), none⟩])
             (.cond (.t 61)
              (.seq (.ops none [⟨some 2, .mv (.c (.bool false)), none⟩])
               .ret)
              .skip))
            (.seq (.ops none [⟨some 5, .mv (.c (.int .i64 0)), none⟩])
             (.block 2 (.loop [1, 3, 4, 5] []
               (.seq (.seq (.ops none [⟨some 62, .mv (.t 5), none⟩,
                  ⟨some 63, .mv (.t 3), none⟩,
                  ⟨some 64, .bin .lss (.t 62) (.t 63), none⟩])
                 (.cond (.t 64)
                  .skip
                  (.exit 2)))
                (.seq (.block 3 (.seq (.ops (some []) [⟨some 67, .faddr 1 (.t 1), none⟩,
                    ⟨some 68, .load false 1 (.t 67), none⟩,
                    ⟨some 69, .mv (.t 5), none⟩,
                    ⟨some 70, .iaddr 3 (.t 68) (.t 69), none⟩,
                    ⟨some 71, .faddr 0 (.t 70), none⟩,
                    ⟨some 72, .load false 1 (.t 71), none⟩,
                    ⟨some 73, .faddr 0 (.t 4), none⟩,
                    ⟨some 74, .load false 1 (.t 73), none⟩,
                    ⟨some 75, .bin .eql (.t 72) (.t 74), none⟩,
                    ⟨some 76, .mv (.t 75), none⟩,
                    ⟨some 77, .faddr 1 (.t 1), some (76, false)⟩,
                    ⟨some 78, .load false 1 (.t 77), some (76, false)⟩,
                    ⟨some 79, .mv (.t 5), some (76, false)⟩,
                    ⟨some 80, .iaddr 3 (.t 78) (.t 79), some (76, false)⟩,
                    ⟨some 81, .faddr 2 (.t 80), some (76, false)⟩,
                    ⟨some 82, .load false 1 (.t 81), some (76, false)⟩,
                    ⟨some 83, .faddr 2 (.t 4), some (76, false)⟩,
                    ⟨some 84, .load false 1 (.t 83), some (76, false)⟩,
                    ⟨some 85, .bin .eql (.t 82) (.t 84), some (76, false)⟩,
                    ⟨some 86, .pick (.t 76) (.c (.bool true)) (.t 85), none⟩,
                    ⟨some 87, .mv (.t 86), none⟩,
                    ⟨some 88, .faddr 1 (.t 1), some (87, false)⟩,
                    ⟨some 89, .load false 1 (.t 88), some (87, false)⟩,
                    ⟨some 90, .mv (.t 5), some (87, false)⟩,
                    ⟨some 91, .iaddr 3 (.t 89) (.t 90), some (87, false)⟩,
                    ⟨some 92, .load true 3 (.t 91), some (87, false)⟩,
                    ⟨some 93, .load true 3 (.t 4), some (87, false)⟩,
                    ⟨some 94, .call 35 true [] [(.t 92), (.t 93)], some (87, false)⟩,
                    ⟨some 95, .un .not (.t 94), some (87, false)⟩,
                    ⟨some 96, .pick (.t 87) (.c (.bool true)) (.t 95), none⟩])
                   (.cond (.t 96)
                    (.seq (.ops none [⟨some 2, .mv (.c (.bool false)), none⟩])
                     .ret)
                    .skip)))
                 (.ops none [⟨some 65, .mv (.t 5), none⟩,
                  ⟨some 66, .bin .add (.t 65) (.c (.int .i64 1)), none⟩,
                  ⟨some 5, .mv (.t 66), none⟩])))))))))
         (.ops none [⟨some 25, .mv (.t 3), none⟩,
          ⟨some 26, .bin .add (.t 25) (.c (.int .i64 1)), none⟩,
          ⟨some 3, .mv (.t 26), none⟩]))))))
    (.seq (.ops none [⟨some 2, .mv (.c (.bool true)), none⟩])
     .ret))))⟩
theorem cop24 : copF Try.prog raws [([1, 3], []), ([1, 3, 4, 5], [])] 24 = some ir24 := by kernel_rfl
/-- tenterhook/queue.within -/
def ir25 : F := ⟨12, [.t 4],
 (.seq (.ops none [⟨some 4, .mv (.c (.bool false)), none⟩])
  (.seq (.ops none [⟨some 5, .mv (.t 0), none⟩,
    ⟨some 6, .bin .geq (.t 5) (.c (.int .i64 0)), none⟩,
    ⟨some 7, .mv (.t 6), none⟩,
    ⟨some 8, .mv (.t 0), some (7, true)⟩,
    ⟨some 9, .mv (.t 1), some (7, true)⟩,
    ⟨some 10, .bin .leq (.t 8) (.t 9), some (7, true)⟩,
    ⟨some 11, .pick (.t 7) (.t 10) (.c (.bool false)), none⟩,
    ⟨some 4, .mv (.t 11), none⟩])
   .ret))⟩
theorem cop25 : copF Try.prog raws [] 25 = some ir25 := by kernel_rfl
/-- (tenterhook/queue.Item).may -/
def ir26 : F := ⟨20, [.t 4],
 (.seq (.ops none [⟨some 2, .box (.t 0), none⟩,
   ⟨some 4, .mv (.c (.bool false)), none⟩])
  (.seq (.ops none [⟨some 5, .faddr 0 (.t 2), none⟩,
    ⟨some 6, .load false 1 (.t 5), none⟩,
    ⟨some 7, .call 25 true [] [(.t 6), (.c (.int .i64 7))], none⟩,
    ⟨some 8, .mv (.t 7), none⟩,
    ⟨some 9, .faddr 1 (.t 2), some (8, true)⟩,
    ⟨some 10, .load false 1 (.t 9), some (8, true)⟩,
    ⟨some 11, .call 25 true [] [(.t 10), (.c (.int .i64 4))], some (8, true)⟩,
    ⟨some 12, .pick (.t 8) (.t 11) (.c (.bool false)), none⟩,
    ⟨some 13, .mv (.t 12), none⟩,
    ⟨some 14, .faddr 2 (.t 2), some (13, true)⟩,
    ⟨some 15, .load false 1 (.t 14), some (13, true)⟩,
    ⟨some 16, .mv (.t 1), some (13, true)⟩,
    ⟨some 17, .bin .sub (.t 16) (.c (.int .i64 1)), some (13, true)⟩,
    ⟨some 18, .call 25 true [] [(.t 15), (.t 17)], some (13, true)⟩,
    ⟨some 19, .pick (.t 13) (.t 18) (.c (.bool false)), none⟩,
    ⟨some 4, .mv (.t 19), none⟩])
   .ret))⟩
theorem cop26 : copF Try.prog raws [] 26 = some ir26 := by kernel_rfl
/-- tenterhook/queue.order -/
def ir27 : F := ⟨23, [.t 4],
 (.seq (.ops none [⟨some 2, .box (.t 0), none⟩,
   ⟨some 3, .box (.t 1), none⟩,
   ⟨some 4, .mv (.c (.int .i64 0)), none⟩])
  (.seq (.ops (some []) [⟨some 7, .load true 3 (.t 2), none⟩,
    ⟨some 8, .call 37 true [] [(.t 7)], none⟩,
    ⟨some 9, .load true 3 (.t 3), none⟩,
    ⟨some 10, .call 37 true [] [(.t 9)], none⟩,
    ⟨some 5, .mv (.t 8), none⟩,
    ⟨some 6, .mv (.t 10), none⟩])
   (.seq (.ops none [⟨some 11, .mv (.t 5), none⟩,
     ⟨some 12, .cpart false (.t 11), none⟩,
     ⟨some 13, .mv (.t 6), none⟩,
     ⟨some 14, .cpart false (.t 13), none⟩,
     ⟨some 15, .call 39 true [] [(.t 12), (.t 14)], none⟩,
     ⟨some 16, .mv (.t 5), none⟩,
     ⟨some 17, .cpart true (.t 16), none⟩,
     ⟨some 18, .mv (.t 6), none⟩,
     ⟨some 19, .cpart true (.t 18), none⟩,
     ⟨some 20, .call 39 true [] [(.t 17), (.t 19)], none⟩,
     ⟨some 21, .bslice 1 2 [.int .i64 0] [(0, (.t 15)), (1, (.t 20))], none⟩,
     ⟨some 22, .call 38 true [] [(.t 21)], none⟩,
     ⟨some 4, .mv (.t 22), none⟩])
    .ret)))⟩
theorem cop27 : copF Try.prog raws [] 27 = some ir27 := by kernel_rfl
/-- tenterhook/queue.sane -/
def ir28 : F := ⟨8, [.cell 2 true 2],
 (.seq (.ops none [⟨some 1, .box (.t 0), none⟩,
   ⟨some 2, .alloc [.int .i64 0, .nil], none⟩])
  (.seq (.seq (.ops none [⟨some 3, .load true 2 (.t 1), none⟩,
     ⟨some 4, .call 9 true [] [(.t 3)], none⟩,
     ⟨some 5, .un .not (.t 4), none⟩])
    (.cond (.t 5)
     (.seq (.ops none [⟨some 6, .build [.int .i64 0, .nil] [], none⟩,
       ⟨none, .store 2 (.t 2) (.t 6), none⟩])
      .ret)
     .skip))
   (.seq (.ops none [⟨some 7, .load true 2 (.t 1), none⟩,
     ⟨none, .store 2 (.t 2) (.t 7), none⟩])
    .ret)))⟩
theorem cop28 : copF Try.prog raws [] 28 = some ir28 := by kernel_rfl
/-- (tenterhook/queue.Queue).at -/
def ir29 : F := ⟨9, [.t 4],
 (.seq (.ops none [⟨some 2, .box (.t 0), none⟩,
   ⟨some 3, .box (.t 1), none⟩,
   ⟨some 4, .mv (.c (.int .i64 0)), none⟩])
  (.seq (.ops none [⟨some 5, .faddr 1 (.t 2), none⟩,
    ⟨some 6, .load false 1 (.t 5), none⟩,
    ⟨some 7, .mkfunc 41 [] [(.t 3)], none⟩,
    ⟨some 8, .call 40 true [] [(.t 6), (.t 7)], none⟩,
    ⟨some 4, .mv (.t 8), none⟩])
   .ret))⟩
theorem cop29 : copF Try.prog raws [] 29 = some ir29 := by kernel_rfl
/-- slices.BinarySearchFunc[[]tenterhook/queue.Item,tenterhook/queue.Item,tenterhook/queue.Item] -/
def ir30 : F := ⟨49, [.t 6, .t 7],
 (.seq (.ops none [⟨some 4, .box (.t 1), none⟩,
   ⟨some 6, .mv (.c (.int .i64 0)), none⟩,
   ⟨some 7, .mv (.c (.bool false)), none⟩])
  (.seq (.ops none [⟨some 12, .mv (.t 0), none⟩,
    ⟨some 13, .len false (.t 12), none⟩,
    ⟨some 8, .mv (.t 13), none⟩])
   (.seq (.ops none [⟨some 14, .mv (.t 8), none⟩,
     ⟨some 9, .mv (.c (.int .i64 0)), none⟩,
     ⟨some 10, .mv (.t 14), none⟩])
    (.seq (.block 0 (.loop [0, 2, 4, 8, 9, 10] []
       (.seq (.seq (.ops none [⟨some 15, .mv (.t 9), none⟩,
          ⟨some 16, .mv (.t 10), none⟩,
          ⟨some 17, .bin .lss (.t 15) (.t 16), none⟩])
         (.cond (.t 17)
          .skip
          (.exit 0)))
        (.block 1 (.seq (.ops none [⟨some 18, .mv (.t 9), none⟩,
           ⟨some 19, .mv (.t 10), none⟩,
           ⟨some 20, .bin .add (.t 18) (.t 19), none⟩,
           ⟨some 21, .conv .u64 (.t 20), none⟩,
           ⟨some 22, .bin .shr (.t 21) (.c (.int .u64 1)), none⟩,
           ⟨some 23, .conv .i64 (.t 22), none⟩,
           ⟨some 11, .mv (.t 23), none⟩])
          (.seq (.ops (some []) [⟨some 24, .mv (.t 2), none⟩,
            ⟨some 25, .mv (.t 0), none⟩,
            ⟨some 26, .mv (.t 11), none⟩,
            ⟨some 27, .iaddr 3 (.t 25) (.t 26), none⟩,
            ⟨some 28, .load true 3 (.t 27), none⟩,
            ⟨some 29, .load true 3 (.t 4), none⟩,
            ⟨some 30, .callv false [] (.t 24) [(.t 28), (.t 29)], none⟩,
            ⟨some 31, .bin .lss (.t 30) (.c (.int .i64 0)), none⟩])
           (.cond (.t 31)
            (.ops none [⟨some 32, .mv (.t 11), none⟩,
             ⟨some 33, .bin .add (.t 32) (.c (.int .i64 1)), none⟩,
             ⟨some 9, .mv (.t 33), none⟩])
            (.ops none [⟨some 34, .mv (.t 11), none⟩,
             ⟨some 10, .mv (.t 34), none⟩]))))))))
     (.seq (.ops (some []) [⟨some 35, .mv (.t 9), none⟩,
       ⟨some 36, .mv (.t 9), none⟩,
       ⟨some 37, .mv (.t 8), none⟩,
       ⟨some 38, .bin .lss (.t 36) (.t 37), none⟩,
       ⟨some 39, .mv (.t 38), none⟩,
       ⟨some 40, .mv (.t 2), some (39, true)⟩,
       ⟨some 41, .mv (.t 0), some (39, true)⟩,
       ⟨some 42, .mv (.t 9), some (39, true)⟩,
       ⟨some 43, .iaddr 3 (.t 41) (.t 42), some (39, true)⟩,
       ⟨some 44, .load true 3 (.t 43), some (39, true)⟩,
       ⟨some 45, .load true 3 (.t 4), some (39, true)⟩,
       ⟨some 46, .callv false [] (.t 40) [(.t 44), (.t 45)], some (39, true)⟩,
       ⟨some 47, .bin .eql (.t 46) (.c (.int .i64 0)), some (39, true)⟩,
       ⟨some 48, .pick (.t 39) (.t 47) (.c (.bool false)), none⟩,
       ⟨some 6, .mv (.t 35), none⟩,
       ⟨some 7, .mv (.t 48), none⟩])
      .ret)))))⟩
theorem cop30 : copF Try.prog raws [([0, 2, 4, 8, 9, 10], [])] 30 = some ir30 := by kernel_rfl
/-- slices.Clone[[]tenterhook/queue.Item,tenterhook/queue.Item] -/
def ir32 : F := ⟨8, [.t 2],
 (.seq (.ops none [⟨some 2, .mv (.c (.nil)), none⟩])
  (.seq (.seq (.ops none [⟨some 3, .mv (.t 0), none⟩,
     ⟨some 4, .eqNil false false (.t 3), none⟩])
    (.cond (.t 4)
     (.seq (.ops none [⟨some 2, .mv (.c (.nil)), none⟩])
      .ret)
     .skip))
   (.seq (.ops none [⟨some 5, .bslice 3 0 [.int .i64 0, .int .i64 0, .int .i64 0] [], none⟩,
     ⟨some 6, .mv (.t 0), none⟩,
     ⟨some 7, .append 3 (.t 5) (.t 6), none⟩,
     ⟨some 2, .mv (.t 7), none⟩])
    .ret)))⟩
theorem cop32 : copF Try.prog raws [] 32 = some ir32 := by kernel_rfl
/-- (tenterhook/queue.Queue).without -/
def ir33 : F := ⟨14, [.cell 4 true 2],
 (.seq (.ops none [⟨some 2, .box (.t 0), none⟩,
   ⟨some 4, .alloc [.int .i64 0, .nil], none⟩])
  (.seq (.ops none [⟨some 5, .faddr 1 (.t 2), none⟩,
    ⟨some 6, .load false 1 (.t 5), none⟩,
    ⟨some 7, .call 32 false [] [(.t 6)], none⟩,
    ⟨some 8, .mv (.t 1), none⟩,
    ⟨some 9, .mv (.t 1), none⟩,
    ⟨some 10, .bin .add (.t 9) (.c (.int .i64 1)), none⟩,
    ⟨some 11, .call 44 false [true, false, false] [(.t 7), (.t 8), (.t 10)], none⟩,
    ⟨some 12, .faddr 1 (.t 2), none⟩,
    ⟨none, .store 1 (.t 12) (.t 11), none⟩])
   (.seq (.ops none [⟨some 13, .load true 2 (.t 2), none⟩,
     ⟨none, .store 2 (.t 4) (.t 13), none⟩])
    .ret)))⟩
theorem cop33 : copF Try.prog raws [] 33 = some ir33 := by kernel_rfl
/-- tenterhook/tenterhookref16.sane -/
def ir34 : F := ⟨8, [.cell 2 true 2],
 (.seq (.ops none [⟨some 1, .box (.t 0), none⟩,
   ⟨some 2, .alloc [.int .i64 0, .nil], none⟩])
  (.seq (.seq (.ops none [⟨some 3, .load true 2 (.t 1), none⟩,
     ⟨some 4, .call 24 true [] [(.t 3)], none⟩,
     ⟨some 5, .un .not (.t 4), none⟩])
    (.cond (.t 5)
     (.seq (.ops none [⟨some 6, .build [.int .i64 0, .nil] [], none⟩,
       ⟨none, .store 2 (.t 2) (.t 6), none⟩])
      .ret)
     .skip))
   (.seq (.ops none [⟨some 7, .load true 2 (.t 1), none⟩,
     ⟨none, .store 2 (.t 2) (.t 7), none⟩])
    .ret)))⟩
theorem cop34 : copF Try.prog raws [] 34 = some ir34 := by kernel_rfl
/-- tenterhook/tenterhookref16.ahead -/
def ir35 : F := ⟨24, [.t 4],
 (.seq (.ops none [⟨some 2, .box (.t 0), none⟩,
   ⟨some 3, .box (.t 1), none⟩,
   ⟨some 4, .mv (.c (.bool false)), none⟩])
  (.seq (.ops none [⟨some 5, .faddr 1 (.t 2), none⟩,
    ⟨some 6, .load false 1 (.t 5), none⟩,
    ⟨some 7, .faddr 1 (.t 3), none⟩,
    ⟨some 8, .load false 1 (.t 7), none⟩,
    ⟨some 9, .bin .gtr (.t 6) (.t 8), none⟩,
    ⟨some 10, .mv (.t 9), none⟩,
    ⟨some 11, .faddr 1 (.t 2), some (10, false)⟩,
    ⟨some 12, .load false 1 (.t 11), some (10, false)⟩,
    ⟨some 13, .faddr 1 (.t 3), some (10, false)⟩,
    ⟨some 14, .load false 1 (.t 13), some (10, false)⟩,
    ⟨some 15, .bin .eql (.t 12) (.t 14), some (10, false)⟩,
    ⟨some 16, .mv (.t 15), some (10, false)⟩,
    ⟨some 17, .faddr 2 (.t 2), some (16, true)⟩,
    ⟨some 18, .load false 1 (.t 17), some (16, true)⟩,
    ⟨some 19, .faddr 2 (.t 3), some (16, true)⟩,
    ⟨some 20, .load false 1 (.t 19), some (16, true)⟩,
    ⟨some 21, .bin .lss (.t 18) (.t 20), some (16, true)⟩,
    ⟨some 22, .pick (.t 16) (.t 21) (.c (.bool false)), some (10, false)⟩,
    ⟨some 23, .pick (.t 10) (.c (.bool true)) (.t 22), none⟩,
    ⟨some 4, .mv (.t 23), none⟩])
   .ret))⟩
theorem cop35 : copF Try.prog raws [] 35 = some ir35 := by kernel_rfl
/-- tenterhook/tenterhookref16.without -/
def ir36 : F := ⟨23, [.cell 4 true 2],
 (.seq (.ops none [⟨some 2, .box (.t 0), none⟩,
   ⟨some 4, .alloc [.int .i64 0, .nil], none⟩])
  (.seq (.ops none [⟨some 6, .bslice 3 0 [.int .i64 0, .int .i64 0, .int .i64 0] [], none⟩,
    ⟨some 7, .faddr 1 (.t 2), none⟩,
    ⟨some 8, .load false 1 (.t 7), none⟩,
    ⟨some 9, .mv (.t 1), none⟩,
    ⟨some 10, .slice false 3 (.t 8) none (some (.t 9)) none, none⟩,
    ⟨some 11, .append 3 (.t 6) (.t 10), none⟩,
    ⟨some 5, .mv (.t 11), none⟩])
   (.seq (.ops none [⟨some 12, .mv (.t 5), none⟩,
     ⟨some 13, .faddr 1 (.t 2), none⟩,
     ⟨some 14, .load false 1 (.t 13), none⟩,
     ⟨some 15, .mv (.t 1), none⟩,
     ⟨some 16, .bin .add (.t 15) (.c (.int .i64 1)), none⟩,
     ⟨some 17, .slice false 3 (.t 14) (some (.t 16)) none none, none⟩,
     ⟨some 18, .append 3 (.t 12) (.t 17), none⟩,
     ⟨some 5, .mv (.t 18), none⟩])
    (.seq (.ops none [⟨some 19, .faddr 0 (.t 2), none⟩,
      ⟨some 20, .load false 1 (.t 19), none⟩,
      ⟨some 21, .mv (.t 5), none⟩,
      ⟨some 22, .build [.int .i64 0, .nil] [(0, 1, (.t 20)), (1, 1, (.t 21))], none⟩,
      ⟨none, .store 2 (.t 4) (.t 22), none⟩])
     .ret))))⟩
theorem cop36 : copF Try.prog raws [] 36 = some ir36 := by kernel_rfl
/-- (tenterhook/queue.Item).place -/
def ir37 : F := ⟨11, [.t 2],
 (.seq (.ops none [⟨some 1, .box (.t 0), none⟩,
   ⟨some 2, .mv (.c (.cpx .f64 0 0)), none⟩])
  (.seq (.ops none [⟨some 3, .faddr 1 (.t 1), none⟩,
    ⟨some 4, .load false 1 (.t 3), none⟩,
    ⟨some 5, .i2f .f64 (.t 4), none⟩,
    ⟨some 6, .un .neg (.t 5), none⟩,
    ⟨some 7, .faddr 2 (.t 1), none⟩,
    ⟨some 8, .load false 1 (.t 7), none⟩,
    ⟨some 9, .i2f .f64 (.t 8), none⟩,
    ⟨some 10, .cplx (.t 6) (.t 9), none⟩,
    ⟨some 2, .mv (.t 10), none⟩])
   .ret))⟩
theorem cop37 : copF Try.prog raws [] 37 = some ir37 := by kernel_rfl
/-- cmp.Or[int] -/
def ir38 : F := ⟨18, [.t 2],
 (.seq (.ops none [⟨some 2, .mv (.c (.int .i64 0)), none⟩])
  (.seq (.ops none [⟨some 3, .mv (.c (.int .i64 0)), none⟩])
   (.seq (.seq (.ops none [⟨some 6, .mv (.t 0), none⟩,
      ⟨some 7, .len false (.t 6), none⟩,
      ⟨some 8, .mv (.c (.int .i64 0)), none⟩])
     (.block 0 (.loop [3, 6, 7, 8] []
       (.seq (.ops none [⟨some 9, .bin .lss (.t 8) (.t 7), none⟩])
        (.seq (.cond (.t 9)
          .skip
          (.exit 0))
         (.seq (.block 1 (.seq (.ops none [⟨some 10, .iaddr 1 (.t 6) (.t 8), none⟩,
             ⟨some 11, .load false 1 (.t 10), none⟩,
             ⟨some 5, .mv (.t 11), none⟩])
            (.seq (.ops none [⟨some 12, .mv (.t 5), none⟩,
              ⟨some 13, .mv (.t 3), none⟩,
              ⟨some 14, .bin .neq (.t 12) (.t 13), none⟩])
             (.cond (.t 14)
              (.seq (.ops none [⟨some 15, .mv (.t 5), none⟩,
                ⟨some 2, .mv (.t 15), none⟩])
               .ret)
              .skip))))
          (.ops none [⟨some 16, .bin .add (.t 8) (.c (.int .i64 1)), none⟩,
           ⟨some 8, .mv (.t 16), none⟩])))))))
    (.seq (.ops none [⟨some 17, .mv (.t 3), none⟩,
      ⟨some 2, .mv (.t 17), none⟩])
     .ret))))⟩
theorem cop38 : copF Try.prog raws [([3, 6, 7, 8], [])] 38 = some ir38 := by kernel_rfl
/-- cmp.Compare[float64] -/
def ir39 : F := ⟨20, [.t 4],
 (.seq (.ops none [⟨some 4, .mv (.c (.int .i64 0)), none⟩])
  (.seq (.ops none [⟨some 7, .mv (.t 0), none⟩,
    ⟨some 8, .call 45 true [] [(.t 7)], none⟩,
    ⟨some 5, .mv (.t 8), none⟩])
   (.seq (.ops none [⟨some 9, .mv (.t 1), none⟩,
     ⟨some 10, .call 45 true [] [(.t 9)], none⟩,
     ⟨some 6, .mv (.t 10), none⟩])
    (.seq (.seq (.ops none [⟨some 11, .mv (.t 5), none⟩])
      (.cond (.t 11)
       (.seq (.seq (.ops none [⟨some 12, .mv (.t 6), none⟩])
         (.cond (.t 12)
          (.seq (.ops none [⟨some 4, .mv (.c (.int .i64 0)), none⟩])
           .ret)
          .skip))
        (.seq (.ops none [⟨some 4, .mv (.c (.int .i64 (-1))), none⟩])
         .ret))
       .skip))
     (.seq (.seq (.ops none [⟨some 13, .mv (.t 6), none⟩])
       (.cond (.t 13)
        (.seq (.ops none [⟨some 4, .mv (.c (.int .i64 1)), none⟩])
         .ret)
        .skip))
      (.seq (.seq (.ops none [⟨some 14, .mv (.t 0), none⟩,
         ⟨some 15, .mv (.t 1), none⟩,
         ⟨some 16, .bin .lss (.t 14) (.t 15), none⟩])
        (.cond (.t 16)
         (.seq (.ops none [⟨some 4, .mv (.c (.int .i64 (-1))), none⟩])
          .ret)
         .skip))
       (.seq (.seq (.ops none [⟨some 17, .mv (.t 0), none⟩,
          ⟨some 18, .mv (.t 1), none⟩,
          ⟨some 19, .bin .gtr (.t 17) (.t 18), none⟩])
         (.cond (.t 19)
          (.seq (.ops none [⟨some 4, .mv (.c (.int .i64 1)), none⟩])
           .ret)
          .skip))
        (.seq (.ops none [⟨some 4, .mv (.c (.int .i64 0)), none⟩])
         .ret))))))))⟩
theorem cop39 : copF Try.prog raws [] 39 = some ir39 := by kernel_rfl
/-- slices.IndexFunc[[]tenterhook/queue.Item,tenterhook/queue.Item] -/
def ir40 : F := ⟨19, [.t 4],
 (.seq (.ops none [⟨some 4, .mv (.c (.int .i64 0)), none⟩])
  (.seq (.seq (.ops none [⟨some 6, .mv (.t 0), none⟩,
     ⟨some 7, .len false (.t 6), none⟩,
     ⟨some 8, .mv (.c (.int .i64 0)), none⟩])
    (.block 0 (.loop [0, 1, 7, 8] []
      (.seq (.ops none [⟨some 9, .bin .lss (.t 8) (.t 7), none⟩])
       (.seq (.cond (.t 9)
         .skip
         (.exit 0))
        (.seq (.block 1 (.seq (.ops none [⟨some 10, .mv (.t 8), none⟩,
            ⟨some 5, .mv (.t 10), none⟩])
           (.seq (.ops none [⟨some 11, .mv (.t 1), none⟩,
             ⟨some 12, .mv (.t 0), none⟩,
             ⟨some 13, .mv (.t 5), none⟩,
             ⟨some 14, .iaddr 3 (.t 12) (.t 13), none⟩,
             ⟨some 15, .load true 3 (.t 14), none⟩,
             ⟨some 16, .callv false [] (.t 11) [(.t 15)], none⟩])
            (.cond (.t 16)
             (.seq (.ops none [⟨some 17, .mv (.t 5), none⟩,
               ⟨some 4, .mv (.t 17), none⟩])
              .ret)
             .skip))))
         (.ops none [⟨some 18, .bin .add (.t 8) (.c (.int .i64 1)), none⟩,
          ⟨some 8, .mv (.t 18), none⟩])))))))
   (.seq (.ops none [⟨some 4, .mv (.c (.int .i64 (-1))), none⟩])
    .ret)))⟩
theorem cop40 : copF Try.prog raws [([0, 1, 7, 8], [])] 40 = some ir40 := by kernel_rfl
/-- (tenterhook/queue.Queue).at$1 -/
def ir41 : F := ⟨8, [.t 3],
 (.seq (.ops none [⟨some 2, .box (.t 0), none⟩,
   ⟨some 3, .mv (.c (.bool false)), none⟩])
  (.seq (.ops none [⟨some 4, .faddr 0 (.t 2), none⟩,
    ⟨some 5, .load false 1 (.t 4), none⟩,
    ⟨some 6, .load false 1 (.t 1), none⟩,
    ⟨some 7, .bin .eql (.t 5) (.t 6), none⟩,
    ⟨some 3, .mv (.t 7), none⟩])
   .ret))⟩
theorem cop41 : copF Try.prog raws [] 41 = some ir41 := by kernel_rfl
/-- slices.rotateRight[tenterhook/queue.Item] -/
def ir43 : F := ⟨10, [],
 (.ops none [⟨some 4, .mv (.t 0), none⟩,
  ⟨some 5, .mv (.t 0), none⟩,
  ⟨some 6, .len false (.t 5), none⟩,
  ⟨some 7, .mv (.t 1), none⟩,
  ⟨some 8, .bin .sub (.t 6) (.t 7), none⟩,
  ⟨some 9, .call 46 true [] [(.t 4), (.t 8)], none⟩])⟩
theorem cop43 : copF Try.prog raws [] 43 = some ir43 := by kernel_rfl
/-- slices.Delete[[]tenterhook/queue.Item,tenterhook/queue.Item] -/
def ir44 : F := ⟨33, [.t 6],
 (.seq (.ops none [⟨some 6, .mv (.c (.nil)), none⟩])
  (.seq (.ops none [⟨some 8, .mv (.t 0), none⟩,
    ⟨some 9, .mv (.t 1), none⟩,
    ⟨some 10, .mv (.t 2), none⟩,
    ⟨some 11, .mv (.t 0), none⟩,
    ⟨some 12, .len false (.t 11), none⟩,
    ⟨some 13, .slice false 3 (.t 8) (some (.t 9)) (some (.t 10)) (some (.t 12)), none⟩])
   (.seq (.seq (.ops none [⟨some 14, .mv (.t 1), none⟩,
      ⟨some 15, .mv (.t 2), none⟩,
      ⟨some 16, .bin .eql (.t 14) (.t 15), none⟩])
     (.cond (.t 16)
      (.seq (.ops none [⟨some 17, .mv (.t 0), none⟩,
        ⟨some 6, .mv (.t 17), none⟩])
       .ret)
      .skip))
    (.seq (.ops none [⟨some 18, .mv (.t 0), none⟩,
      ⟨some 19, .len false (.t 18), none⟩,
      ⟨some 7, .mv (.t 19), none⟩])
     (.seq (.ops (some []) [⟨some 20, .mv (.t 0), none⟩,
       ⟨some 21, .mv (.t 1), none⟩,
       ⟨some 22, .slice false 3 (.t 20) none (some (.t 21)) none, none⟩,
       ⟨some 23, .mv (.t 0), none⟩,
       ⟨some 24, .mv (.t 2), none⟩,
       ⟨some 25, .slice false 3 (.t 23) (some (.t 24)) none none, none⟩,
       ⟨some 26, .append 3 (.t 22) (.t 25), none⟩,
       ⟨some 0, .mv (.t 26), none⟩])
      (.seq (.ops none [⟨some 27, .mv (.t 0), none⟩,
        ⟨some 28, .mv (.t 0), none⟩,
        ⟨some 29, .len false (.t 28), none⟩,
        ⟨some 30, .mv (.t 7), none⟩,
        ⟨some 31, .slice false 3 (.t 27) (some (.t 29)) (some (.t 30)) none, none⟩,
        ⟨none, .clear 3 [.int .i64 0, .int .i64 0, .int .i64 0] (.t 31), none⟩])
       (.seq (.ops none [⟨some 32, .mv (.t 0), none⟩,
         ⟨some 6, .mv (.t 32), none⟩])
        .ret)))))))⟩
theorem cop44 : copF Try.prog raws [] 44 = some ir44 := by kernel_rfl
/-- cmp.isNaN[float64] -/
def ir45 : F := ⟨6, [.t 2],
 (.seq (.ops none [⟨some 2, .mv (.c (.bool false)), none⟩])
  (.seq (.ops none [⟨some 3, .mv (.t 0), none⟩,
    ⟨some 4, .mv (.t 0), none⟩,
    ⟨some 5, .bin .neq (.t 3) (.t 4), none⟩,
    ⟨some 2, .mv (.t 5), none⟩])
   .ret))⟩
theorem cop45 : copF Try.prog raws [] 45 = some ir45 := by kernel_rfl
/-- slices.rotateLeft[tenterhook/queue.Item] -/
def ir46 : F := ⟨14, [],
 (.seq (.ops none [⟨some 4, .mv (.t 0), none⟩,
   ⟨some 5, .mv (.t 1), none⟩,
   ⟨some 6, .slice false 3 (.t 4) none (some (.t 5)) none, none⟩,
   ⟨some 7, .call 47 true [] [(.t 6)], none⟩])
  (.seq (.ops none [⟨some 8, .mv (.t 0), none⟩,
    ⟨some 9, .mv (.t 1), none⟩,
    ⟨some 10, .slice false 3 (.t 8) (some (.t 9)) none none, none⟩,
    ⟨some 11, .call 47 true [] [(.t 10)], none⟩])
   (.ops none [⟨some 12, .mv (.t 0), none⟩,
    ⟨some 13, .call 47 true [] [(.t 12)], none⟩])))⟩
theorem cop46 : copF Try.prog raws [] 46 = some ir46 := by kernel_rfl
/-- slices.Reverse[[]tenterhook/queue.Item,tenterhook/queue.Item] -/
def ir47 : F := ⟨28, [],
 (.seq (.ops none [⟨some 4, .mv (.t 0), none⟩,
   ⟨some 5, .len false (.t 4), none⟩,
   ⟨some 6, .bin .sub (.t 5) (.c (.int .i64 1)), none⟩,
   ⟨some 2, .mv (.c (.int .i64 0)), none⟩,
   ⟨some 3, .mv (.t 6), none⟩])
  (.block 0 (.loop [0, 2, 3] []
    (.seq (.seq (.ops none [⟨some 7, .mv (.t 2), none⟩,
       ⟨some 8, .mv (.t 3), none⟩,
       ⟨some 9, .bin .lss (.t 7) (.t 8), none⟩])
      (.cond (.t 9)
       .skip
       (.exit 0)))
     (.seq (.block 1 (.ops (some []) [⟨some 14, .mv (.t 0), none⟩,
        ⟨some 15, .mv (.t 2), none⟩,
        ⟨some 16, .mv (.t 0), none⟩,
        ⟨some 17, .mv (.t 3), none⟩,
        ⟨some 18, .mv (.t 0), none⟩,
        ⟨some 19, .mv (.t 3), none⟩,
        ⟨some 20, .iaddr 3 (.t 18) (.t 19), none⟩,
        ⟨some 21, .load true 3 (.t 20), none⟩,
        ⟨some 22, .mv (.t 0), none⟩,
        ⟨some 23, .mv (.t 2), none⟩,
        ⟨some 24, .iaddr 3 (.t 22) (.t 23), none⟩,
        ⟨some 25, .load true 3 (.t 24), none⟩,
        ⟨some 26, .iaddr 3 (.t 14) (.t 15), none⟩,
        ⟨none, .store 3 (.t 26) (.t 21), none⟩,
        ⟨some 27, .iaddr 3 (.t 16) (.t 17), none⟩,
        ⟨none, .store 3 (.t 27) (.t 25), none⟩]))
      (.ops none [⟨some 10, .mv (.t 2), none⟩,
       ⟨some 11, .bin .add (.t 10) (.c (.int .i64 1)), none⟩,
       ⟨some 12, .mv (.t 3), none⟩,
       ⟨some 13, .bin .sub (.t 12) (.c (.int .i64 1)), none⟩,
       ⟨some 2, .mv (.t 11), none⟩,
       ⟨some 3, .mv (.t 13), none⟩]))))))⟩
theorem cop47 : copF Try.prog raws [([0, 2, 3], [])] 47 = some ir47 := by kernel_rfl
def tab : List (Nat × Def) := [(3, .pub ir3), (4, .pub ir4), (5, .pub ir5), (6, .pub ir6), (7, .pub ir7), (8, .pub ir8), (9, .pub ir9), (10, .pub ir10), (11, .pub ir11), (12, .pub ir12), (13, .pub ir13), (14, .pub ir14), (15, .pub ir15), (16, .pub ir16), (17, .pub ir17), (18, .pub ir18), (19, .pub ir19), (20, .pub ir20), (21, .pub ir21), (22, .pub ir22), (23, .pub ir23), (24, .pub ir24), (25, .pub ir25), (26, .pub ir26), (27, .pub ir27), (28, .pub ir28), (29, .pub ir29), (30, .body ir30), (32, .body ir32), (33, .pub ir33), (34, .pub ir34), (35, .pub ir35), (36, .pub ir36), (37, .pub ir37), (38, .body ir38), (39, .body ir39), (40, .body ir40), (41, .body ir41), (43, .body ir43), (44, .body ir44), (45, .body ir45), (46, .body ir46), (47, .body ir47)]
def env0 : Env := fun f => tab.lookup f
theorem env0Ok : EnvOk Try.prog raws env0 := envOk_of (tab := tab) (by
  unfold tab
  exact List.forall_mem_cons.2 ⟨⟨_, cop3⟩, List.forall_mem_cons.2 ⟨⟨_, cop4⟩, List.forall_mem_cons.2 ⟨⟨_, cop5⟩, List.forall_mem_cons.2 ⟨⟨_, cop6⟩, List.forall_mem_cons.2 ⟨⟨_, cop7⟩, List.forall_mem_cons.2 ⟨⟨_, cop8⟩, List.forall_mem_cons.2 ⟨⟨_, cop9⟩, List.forall_mem_cons.2 ⟨⟨_, cop10⟩, List.forall_mem_cons.2 ⟨⟨_, cop11⟩, List.forall_mem_cons.2 ⟨⟨_, cop12⟩, List.forall_mem_cons.2 ⟨⟨_, cop13⟩, List.forall_mem_cons.2 ⟨⟨_, cop14⟩, List.forall_mem_cons.2 ⟨⟨_, cop15⟩, List.forall_mem_cons.2 ⟨⟨_, cop16⟩, List.forall_mem_cons.2 ⟨⟨_, cop17⟩, List.forall_mem_cons.2 ⟨⟨_, cop18⟩, List.forall_mem_cons.2 ⟨⟨_, cop19⟩, List.forall_mem_cons.2 ⟨⟨_, cop20⟩, List.forall_mem_cons.2 ⟨⟨_, cop21⟩, List.forall_mem_cons.2 ⟨⟨_, cop22⟩, List.forall_mem_cons.2 ⟨⟨_, cop23⟩, List.forall_mem_cons.2 ⟨⟨_, cop24⟩, List.forall_mem_cons.2 ⟨⟨_, cop25⟩, List.forall_mem_cons.2 ⟨⟨_, cop26⟩, List.forall_mem_cons.2 ⟨⟨_, cop27⟩, List.forall_mem_cons.2 ⟨⟨_, cop28⟩, List.forall_mem_cons.2 ⟨⟨_, cop29⟩, List.forall_mem_cons.2 ⟨⟨_, cop30⟩, List.forall_mem_cons.2 ⟨⟨_, cop32⟩, List.forall_mem_cons.2 ⟨⟨_, cop33⟩, List.forall_mem_cons.2 ⟨⟨_, cop34⟩, List.forall_mem_cons.2 ⟨⟨_, cop35⟩, List.forall_mem_cons.2 ⟨⟨_, cop36⟩, List.forall_mem_cons.2 ⟨⟨_, cop37⟩, List.forall_mem_cons.2 ⟨⟨_, cop38⟩, List.forall_mem_cons.2 ⟨⟨_, cop39⟩, List.forall_mem_cons.2 ⟨⟨_, cop40⟩, List.forall_mem_cons.2 ⟨⟨_, cop41⟩, List.forall_mem_cons.2 ⟨⟨_, cop43⟩, List.forall_mem_cons.2 ⟨⟨_, cop44⟩, List.forall_mem_cons.2 ⟨⟨_, cop45⟩, List.forall_mem_cons.2 ⟨⟨_, cop46⟩, List.forall_mem_cons.2 ⟨⟨_, cop47⟩, List.forall_mem_nil _⟩⟩⟩⟩⟩⟩⟩⟩⟩⟩⟩⟩⟩⟩⟩⟩⟩⟩⟩⟩⟩⟩⟩⟩⟩⟩⟩⟩⟩⟩⟩⟩⟩⟩⟩⟩⟩⟩⟩⟩⟩⟩⟩)
section
open Go.RowKit
set_option maxHeartbeats 4000000
set_option maxRecDepth 100000
theorem cl32n (cap : Nat) (w : World) : Calls Try.prog 32 #[.slice none 0 cap] w (fun e w' => e = .returned (.slice none 0 0) ∧ w' = w) := by
  have heq : ∀ (n c : Nat) (W : World), (binOp .eql 27 (.slice none n c) (.slice none 0 0)).run Try.prog W = .ok (.bool true) W := fun n c W => Go.Lib.run_eql_slice_nil W 27 60 none n c 0 0 Try.underlying27
  go_enter Try.func32, Try.ntmps32
  go_wp2
  go_ret
  exact ⟨rfl, rfl⟩
theorem cl32e (a : Addr) (cap : Nat) (w : World) : Calls Try.prog 32 #[.slice (some a) 0 cap] w (fun e w' => e = .returned (.slice (some ⟨w.heap.size, 0, none⟩) 0 0) ∧ w' = w.alloc (.cells #[] 60)) := by
  have heq : ∀ (n c : Nat) (W : World), (binOp .eql 27 (.slice (some a) n c) (.slice none 0 0)).run Try.prog W = .ok (.bool false) W := fun n c W => Go.Lib.run_eql_slice_nil W 27 60 (some a) n c 0 0 Try.underlying27
  go_enter Try.func32, Try.ntmps32
  go_wp2
  go_ret
  exact ⟨rfl, rfl⟩
end
noncomputable def envh : Env := fun n => if n = 32 then some (.prim (cloneG 3 (ev env0) 32)) else env0 n
theorem envhOk : EnvOk Try.prog raws envh := envOk_prim env0Ok ⟨Try.f32, _, Try.func32, rfl, by decide⟩ (clone_ok cl32n cl32e (ev_sound env0Ok))
theorem envhP32 : envh 32 = some (.prim (cloneG 3 (ev env0) 32)) := rfl
theorem envZ32 : env0 32 = some (.body ir32) := by kernel_rfl
end Go.Proofs.YtoihpjpgihhcjaaR
