/- EvIs17: a part of the proof. -/
import Derived.Test.YtppnijapeepbnaaEv5
import Derived.Test.YtppnijapeepbnaaEv6
import Derived.Test.YtppnijapeepbnaaEvCln2
import Derived.Test.YtppnijapeepbnaaEvOwn
import Derived.WalkKit
import Derived.WalkSpells
import Derived.Test.YtppnijapeepbnaaRows
import Derived.KernelRfl
set_option linter.unusedVariables false
set_option linter.unusedSimpArgs false
set_option maxRecDepth 20000
namespace Go.Proofs.YtppnijapeepbnaaR
open Go Go.Proofs.YtppnijapeepbnaaEv Go.Proofs
def raws : Nat → List Bool := fun f => ([(27, [true, false]), (33, [true, false]), (37, [true, false, false]), (40, [true, false, false, false]), (41, [true, false, false, false, false]), (43, [true, false, false, false, false]), (44, [true, false, false, false, false])] : List (Nat × List Bool)).lookup f |>.getD []
/-- tenterhook/tenterhooklaw17.TimerWakes -/
def ir3 : F := ⟨114, [.t 4],
 (.seq (.ops none [⟨some 4, .mv (.c (.bool false)), none⟩])
  (.seq (.ops none [⟨some 18, .call 7 true [] [], none⟩,
    ⟨some 5, .mv (.t 18), none⟩])
   (.seq (.seq (.ops none [⟨some 19, .mv (.t 0), none⟩,
      ⟨some 20, .len false (.t 19), none⟩,
      ⟨some 21, .bin .gtr (.t 20) (.c (.int .i64 8)), none⟩])
     (.cond (.t 21)
      (.seq (.ops none [⟨some 22, .mv (.t 5), none⟩,
        ⟨some 4, .mv (.t 22), none⟩])
       .ret)
      .skip))
    (.seq (.ops none [⟨some 6, .mv (.c (.nil)), none⟩])
     (.seq (.seq (.ops none [⟨some 7, .mv (.c (.int .i64 0)), none⟩])
       (.block 0 (.loop [0, 1, 5, 6, 7] []
         (.seq (.seq (.ops none [⟨some 23, .mv (.t 7), none⟩,
            ⟨some 24, .mv (.t 0), none⟩,
            ⟨some 25, .len false (.t 24), none⟩,
            ⟨some 26, .bin .lss (.t 23) (.t 25), none⟩])
           (.cond (.t 26)
            .skip
            (.exit 0)))
          (.seq (.block 1 (.seq (.ops none [⟨some 30, .mv (.t 6), none⟩,
              ⟨some 31, .mv (.t 7), none⟩,
              ⟨some 32, .mv (.t 0), none⟩,
              ⟨some 33, .mv (.t 7), none⟩,
              ⟨some 34, .iaddr 1 (.t 32) (.t 33), none⟩,
              ⟨some 35, .load false 1 (.t 34), none⟩,
              ⟨some 36, .bin .and (.t 35) (.c (.int .i64 31)), none⟩,
              ⟨some 37, .call 8 false [] [(.t 30), (.t 31), (.t 36)], none⟩,
              ⟨some 29, .mv (.t 37), none⟩,
              ⟨some 38, .ext (.t 29) 0, none⟩,
              ⟨some 39, .ext (.t 29) 1, none⟩,
              ⟨some 8, .mv (.t 38), none⟩,
              ⟨some 9, .mv (.t 39), none⟩])
             (.seq (.seq (.ops none [⟨some 40, .mv (.t 9), none⟩,
                ⟨some 41, .un .not (.t 40), none⟩])
               (.cond (.t 41)
                (.seq (.ops none [⟨some 4, .mv (.c (.bool false)), none⟩])
                 .ret)
                .skip))
              (.ops none [⟨some 42, .mv (.t 8), none⟩,
               ⟨some 6, .mv (.t 42), none⟩]))))
           (.ops none [⟨some 27, .mv (.t 7), none⟩,
            ⟨some 28, .bin .add (.t 27) (.c (.int .i64 1)), none⟩,
            ⟨some 7, .mv (.t 28), none⟩]))))))
      (.seq (.ops none [⟨some 43, .build [.int .i64 0, .int .i64 0, .int .i64 0, .int .i64 0, .int .i64 0, .int .i64 0, .int .i64 0, .int .i64 0] [], none⟩,
        ⟨some 10, .alloc [.int .i64 0, .int .i64 0, .int .i64 0, .int .i64 0, .int .i64 0, .int .i64 0, .int .i64 0, .int .i64 0], none⟩,
        ⟨none, .store 8 (.t 10) (.t 43), none⟩])
       (.seq (.ops none [⟨some 44, .mv (.t 1), none⟩,
         ⟨some 45, .bin .and (.t 44) (.c (.int .i64 15)), none⟩,
         ⟨some 11, .mv (.t 45), none⟩])
        (.seq (.seq (.ops none [⟨some 46, .mv (.t 11), none⟩,
           ⟨some 12, .mv (.t 46), none⟩])
          (.block 2 (.loop [0, 5, 6, 10, 11, 12] []
            (.seq (.seq (.ops none [⟨some 47, .mv (.t 12), none⟩,
               ⟨some 48, .bin .lss (.t 47) (.c (.int .i64 40)), none⟩])
              (.cond (.t 48)
               .skip
               (.exit 2)))
             (.seq (.block 3 (.seq (.ops none [⟨some 52, .mv (.t 6), none⟩,
                 ⟨some 53, .mv (.t 12), none⟩,
                 ⟨some 54, .call 9 false [] [(.t 52), (.t 53)], none⟩,
                 ⟨some 51, .mv (.t 54), none⟩,
                 ⟨some 55, .ext (.t 51) 0, none⟩,
                 ⟨some 56, .ext (.t 51) 1, none⟩,
                 ⟨some 13, .mv (.t 55), none⟩,
                 ⟨some 14, .mv (.t 56), none⟩])
                (.seq (.seq (.ops none [⟨some 15, .mv (.c (.int .i64 0)), none⟩])
                  (.block 4 (.loop [0, 5, 10, 11, 12, 13, 14, 15] []
                    (.seq (.seq (.ops none [⟨some 57, .mv (.t 15), none⟩,
                       ⟨some 58, .mv (.t 14), none⟩,
                       ⟨some 59, .len false (.t 58), none⟩,
                       ⟨some 60, .bin .lss (.t 57) (.t 59), none⟩])
                      (.cond (.t 60)
                       .skip
                       (.exit 4)))
                     (.seq (.block 5 (.seq (.ops none [⟨some 63, .mv (.t 14), none⟩,
                         ⟨some 64, .mv (.t 15), none⟩,
                         ⟨some 65, .iaddr 1 (.t 63) (.t 64), none⟩,
                         ⟨some 66, .load false 1 (.t 65), none⟩,
                         ⟨some 16, .mv (.t 66), none⟩])
                        (.seq (.seq (.ops none [⟨some 67, .mv (.t 16), none⟩,
                           ⟨some 68, .bin .lss (.t 67) (.c (.int .i64 0)), none⟩,
                           ⟨some 69, .mv (.t 68), none⟩,
                           ⟨some 70, .mv (.t 16), some (69, false)⟩,
                           ⟨some 71, .mv (.t 0), some (69, false)⟩,
                           ⟨some 72, .len false (.t 71), some (69, false)⟩,
                           ⟨some 73, .bin .geq (.t 70) (.t 72), some (69, false)⟩,
                           ⟨some 74, .pick (.t 69) (.c (.bool true)) (.t 73), none⟩,
                           ⟨some 75, .mv (.t 74), none⟩,
                           ⟨some 76, .mv (.t 16), some (75, false)⟩,
                           ⟨some 77, .iaddrA 1 8 (.t 10) (.t 76), some (75, false)⟩,
                           ⟨some 78, .load false 1 (.t 77), some (75, false)⟩,
                           ⟨some 79, .bin .gtr (.t 78) (.c (.int .i64 0)), some (75, false)⟩,
                           ⟨some 80, .pick (.t 75) (.c (.bool true)) (.t 79), none⟩,
                           ⟨some 81, .mv (.t 80), none⟩,
                           ⟨some 82, .mv (.t 12), some (81, false)⟩,
                           ⟨some 83, .mv (.t 11), some (81, false)⟩,
                           ⟨some 84, .mv (.t 0), some (81, false)⟩,
                           ⟨some 85, .mv (.t 16), some (81, false)⟩,
                           ⟨some 86, .iaddr 1 (.t 84) (.t 85), some (81, false)⟩,
                           ⟨some 87, .load false 1 (.t 86), some (81, false)⟩,
                           ⟨some 88, .bin .and (.t 87) (.c (.int .i64 31)), some (81, false)⟩,
                           ⟨some 89, .minmax true [(.t 83), (.t 88)], some (81, false)⟩,
                           ⟨some 90, .bin .neq (.t 82) (.t 89), some (81, false)⟩,
                           ⟨some 91, .pick (.t 81) (.c (.bool true)) (.t 90), none⟩])
                          (.cond (.t 91)
                           (.seq (.ops none [⟨some 4, .mv (.c (.bool false)), none⟩])
                            .ret)
                           .skip))
                         (.ops none [⟨some 92, .mv (.t 16), none⟩,
                          ⟨some 93, .iaddrA 1 8 (.t 10) (.t 92), none⟩,
                          ⟨some 94, .load false 1 (.t 93), none⟩,
                          ⟨some 95, .bin .add (.t 94) (.c (.int .i64 1)), none⟩,
                          ⟨some 96, .iaddrA 1 8 (.t 10) (.t 92), none⟩,
                          ⟨none, .store 1 (.t 96) (.t 95), none⟩]))))
                      (.ops none [⟨some 61, .mv (.t 15), none⟩,
                       ⟨some 62, .bin .add (.t 61) (.c (.int .i64 1)), none⟩,
                       ⟨some 15, .mv (.t 62), none⟩]))))))
                 (.ops none [⟨some 97, .mv (.t 13), none⟩,
                  ⟨some 6, .mv (.t 97), none⟩]))))
              (.ops none [⟨some 49, .mv (.t 12), none⟩,
               ⟨some 50, .bin .add (.t 49) (.c (.int .i64 1)), none⟩,
               ⟨some 12, .mv (.t 50), none⟩]))))))
         (.seq (.seq (.ops none [⟨some 17, .mv (.c (.int .i64 0)), none⟩])
           (.block 6 (.loop [0, 5, 6, 10, 17] []
             (.seq (.seq (.ops none [⟨some 98, .mv (.t 17), none⟩,
                ⟨some 99, .mv (.t 0), none⟩,
                ⟨some 100, .len false (.t 99), none⟩,
                ⟨some 101, .bin .lss (.t 98) (.t 100), none⟩])
               (.cond (.t 101)
                .skip
                (.exit 6)))
              (.seq (.block 7 (.seq (.ops none [⟨some 104, .mv (.t 17), none⟩,
                  ⟨some 105, .iaddrA 1 8 (.t 10) (.t 104), none⟩,
                  ⟨some 106, .load false 1 (.t 105), none⟩,
                  ⟨some 107, .bin .neq (.t 106) (.c (.int .i64 1)), none⟩])
                 (.cond (.t 107)
                  (.seq (.ops none [⟨some 4, .mv (.c (.bool false)), none⟩])
                   .ret)
                  .skip)))
               (.ops none [⟨some 102, .mv (.t 17), none⟩,
                ⟨some 103, .bin .add (.t 102) (.c (.int .i64 1)), none⟩,
                ⟨some 17, .mv (.t 103), none⟩]))))))
          (.seq (.ops none [⟨some 108, .mv (.t 5), none⟩,
            ⟨some 109, .mv (.t 108), none⟩,
            ⟨some 110, .mv (.t 6), some (109, true)⟩,
            ⟨some 111, .len false (.t 110), some (109, true)⟩,
            ⟨some 112, .bin .eql (.t 111) (.c (.int .i64 0)), some (109, true)⟩,
            ⟨some 113, .pick (.t 109) (.t 112) (.c (.bool false)), none⟩,
            ⟨some 4, .mv (.t 113), none⟩])
           .ret))))))))))⟩
theorem cop3 : copF Try.prog raws [([0, 1, 5, 6, 7], []), ([0, 5, 6, 10, 11, 12], []), ([0, 5, 10, 11, 12, 13, 14, 15], []), ([0, 5, 6, 10, 17], [])] 3 = some ir3 := by kernel_rfl
/-- tenterhook/tenterhooklaw17.TimerParts -/
def ir4 : F := ⟨123, [.t 6],
 (.seq (.ops none [⟨some 6, .mv (.c (.bool false)), none⟩])
  (.seq (.ops none [⟨some 16, .call 7 true [] [], none⟩,
    ⟨some 7, .mv (.t 16), none⟩])
   (.seq (.seq (.ops none [⟨some 17, .mv (.t 0), none⟩,
      ⟨some 18, .len false (.t 17), none⟩,
      ⟨some 19, .bin .gtr (.t 18) (.c (.int .i64 30)), none⟩,
      ⟨some 20, .mv (.t 19), none⟩,
      ⟨some 21, .mv (.t 0), some (20, false)⟩,
      ⟨some 22, .call 11 false [] [(.t 21)], some (20, false)⟩,
      ⟨some 23, .call 10 true [] [(.t 22)], some (20, false)⟩,
      ⟨some 24, .un .not (.t 23), some (20, false)⟩,
      ⟨some 25, .pick (.t 20) (.c (.bool true)) (.t 24), none⟩,
      ⟨some 26, .mv (.t 25), none⟩,
      ⟨some 27, .mv (.t 1), some (26, false)⟩,
      ⟨some 28, .bin .gtr (.t 27) (.c (.int .i64 1125899906842624)), some (26, false)⟩,
      ⟨some 29, .pick (.t 26) (.c (.bool true)) (.t 28), none⟩])
     (.cond (.t 29)
      (.seq (.ops none [⟨some 30, .mv (.t 7), none⟩,
        ⟨some 6, .mv (.t 30), none⟩])
       .ret)
      .skip))
    (.seq (.ops none [⟨some 31, .mv (.t 1), none⟩,
      ⟨some 32, .mv (.t 2), none⟩,
      ⟨some 33, .bin .and (.t 32) (.c (.int .i64 65535)), none⟩,
      ⟨some 34, .bin .add (.t 31) (.t 33), none⟩,
      ⟨some 8, .mv (.t 34), none⟩])
     (.seq (.ops none [⟨some 36, .mv (.t 0), none⟩,
       ⟨some 37, .call 11 false [] [(.t 36)], none⟩,
       ⟨some 38, .mv (.t 1), none⟩,
       ⟨some 39, .call 9 false [] [(.t 37), (.t 38)], none⟩,
       ⟨some 35, .mv (.t 39), none⟩,
       ⟨some 40, .ext (.t 35) 0, none⟩,
       ⟨some 41, .ext (.t 35) 1, none⟩,
       ⟨some 9, .mv (.t 40), none⟩,
       ⟨some 10, .mv (.t 41), none⟩])
      (.seq (.ops none [⟨some 43, .mv (.t 9), none⟩,
        ⟨some 44, .mv (.t 8), none⟩,
        ⟨some 45, .call 9 false [] [(.t 43), (.t 44)], none⟩,
        ⟨some 42, .mv (.t 45), none⟩,
        ⟨some 46, .ext (.t 42) 0, none⟩,
        ⟨some 47, .ext (.t 42) 1, none⟩,
        ⟨some 11, .mv (.t 46), none⟩,
        ⟨some 12, .mv (.t 47), none⟩])
       (.seq (.ops none [⟨some 49, .mv (.t 0), none⟩,
         ⟨some 50, .call 11 false [] [(.t 49)], none⟩,
         ⟨some 51, .mv (.t 8), none⟩,
         ⟨some 52, .call 9 false [] [(.t 50), (.t 51)], none⟩,
         ⟨some 48, .mv (.t 52), none⟩,
         ⟨some 53, .ext (.t 48) 0, none⟩,
         ⟨some 54, .ext (.t 48) 1, none⟩,
         ⟨some 13, .mv (.t 53), none⟩,
         ⟨some 14, .mv (.t 54), none⟩])
        (.seq (.seq (.ops none [⟨some 55, .mv (.t 10), none⟩,
           ⟨some 56, .len false (.t 55), none⟩,
           ⟨some 57, .mv (.t 12), none⟩,
           ⟨some 58, .len false (.t 57), none⟩,
           ⟨some 59, .bin .add (.t 56) (.t 58), none⟩,
           ⟨some 60, .mv (.t 14), none⟩,
           ⟨some 61, .len false (.t 60), none⟩,
           ⟨some 62, .bin .neq (.t 59) (.t 61), none⟩,
           ⟨some 63, .mv (.t 62), none⟩,
           ⟨some 64, .mv (.t 11), some (63, false)⟩,
           ⟨some 65, .call 13 false [] [(.t 64)], some (63, false)⟩,
           ⟨some 66, .mv (.t 13), some (63, false)⟩,
           ⟨some 67, .call 13 false [] [(.t 66)], some (63, false)⟩,
           ⟨some 68, .call 12 true [] [(.t 65), (.t 67)], some (63, false)⟩,
           ⟨some 69, .un .not (.t 68), some (63, false)⟩,
           ⟨some 70, .pick (.t 63) (.c (.bool true)) (.t 69), none⟩,
           ⟨some 71, .mv (.t 70), none⟩,
           ⟨some 72, .mv (.t 13), some (71, false)⟩,
           ⟨some 73, .len false (.t 72), some (71, false)⟩,
           ⟨some 74, .mv (.t 14), some (71, false)⟩,
           ⟨some 75, .len false (.t 74), some (71, false)⟩,
           ⟨some 76, .bin .add (.t 73) (.t 75), some (71, false)⟩,
           ⟨some 77, .mv (.t 0), some (71, false)⟩,
           ⟨some 78, .len false (.t 77), some (71, false)⟩,
           ⟨some 79, .bin .neq (.t 76) (.t 78), some (71, false)⟩,
           ⟨some 80, .pick (.t 71) (.c (.bool true)) (.t 79), none⟩])
          (.cond (.t 80)
           (.seq (.ops none [⟨some 6, .mv (.c (.bool false)), none⟩])
            .ret)
           .skip))
         (.seq (.seq (.ops none [⟨some 15, .mv (.c (.int .i64 0)), none⟩])
           (.block 0 (.loop [7, 10, 12, 14, 15] []
             (.seq (.seq (.ops none [⟨some 81, .mv (.t 15), none⟩,
                ⟨some 82, .mv (.t 14), none⟩,
                ⟨some 83, .len false (.t 82), none⟩,
                ⟨some 84, .bin .lss (.t 81) (.t 83), none⟩])
               (.cond (.t 84)
                .skip
                (.exit 0)))
              (.seq (.block 1 (.seq (.ops (some []) [⟨some 87, .mv (.t 15), none⟩,
                  ⟨some 88, .mv (.t 10), none⟩,
                  ⟨some 89, .len false (.t 88), none⟩,
                  ⟨some 90, .bin .lss (.t 87) (.t 89), none⟩,
                  ⟨some 91, .mv (.t 90), none⟩,
                  ⟨some 92, .mv (.t 14), some (91, true)⟩,
                  ⟨some 93, .mv (.t 15), some (91, true)⟩,
                  ⟨some 94, .iaddr 1 (.t 92) (.t 93), some (91, true)⟩,
                  ⟨some 95, .load false 1 (.t 94), some (91, true)⟩,
                  ⟨some 96, .mv (.t 10), some (91, true)⟩,
                  ⟨some 97, .mv (.t 15), some (91, true)⟩,
                  ⟨some 98, .iaddr 1 (.t 96) (.t 97), some (91, true)⟩,
                  ⟨some 99, .load false 1 (.t 98), some (91, true)⟩,
                  ⟨some 100, .bin .neq (.t 95) (.t 99), some (91, true)⟩,
                  ⟨some 101, .pick (.t 91) (.t 100) (.c (.bool false)), none⟩,
                  ⟨some 102, .mv (.t 101), none⟩,
                  ⟨some 103, .mv (.t 15), some (102, false)⟩,
                  ⟨some 104, .mv (.t 10), some (102, false)⟩,
                  ⟨some 105, .len false (.t 104), some (102, false)⟩,
                  ⟨some 106, .bin .geq (.t 103) (.t 105), some (102, false)⟩,
                  ⟨some 107, .mv (.t 106), some (102, false)⟩,
                  ⟨some 108, .mv (.t 14), some (107, true)⟩,
                  ⟨some 109, .mv (.t 15), some (107, true)⟩,
                  ⟨some 110, .iaddr 1 (.t 108) (.t 109), some (107, true)⟩,
                  ⟨some 111, .load false 1 (.t 110), some (107, true)⟩,
                  ⟨some 112, .mv (.t 12), some (107, true)⟩,
                  ⟨some 113, .mv (.t 15), some (107, true)⟩,
                  ⟨some 114, .mv (.t 10), some (107, true)⟩,
                  ⟨some 115, .len false (.t 114), some (107, true)⟩,
                  ⟨some 116, .bin .sub (.t 113) (.t 115), some (107, true)⟩,
                  ⟨some 117, .iaddr 1 (.t 112) (.t 116), some (107, true)⟩,
                  ⟨some 118, .load false 1 (.t 117), some (107, true)⟩,
                  ⟨some 119, .bin .neq (.t 111) (.t 118), some (107, true)⟩,
                  ⟨some 120, .pick (.t 107) (.t 119) (.c (.bool false)), some (102, false)⟩,
                  ⟨some 121, .pick (.t 102) (.c (.bool true)) (.t 120), none⟩])
                 (.cond (.t 121)
                  (.seq (.ops none [⟨some 6, .mv (.c (.bool false)), none⟩])
                   .ret)
                  .skip)))
               (.ops none [⟨some 85, .mv (.t 15), none⟩,
                ⟨some 86, .bin .add (.t 85) (.c (.int .i64 1)), none⟩,
                ⟨some 15, .mv (.t 86), none⟩]))))))
          (.seq (.ops none [⟨some 122, .mv (.t 7), none⟩,
            ⟨some 6, .mv (.t 122), none⟩])
           .ret))))))))))⟩
theorem cop4 : copF Try.prog raws [([7, 10, 12, 14, 15], [])] 4 = some ir4 := by kernel_rfl
/-- tenterhook/tenterhooklaw17.TimerIs -/
def ir5 : F := ⟨133, [.t 6],
 (.seq (.ops none [⟨some 6, .mv (.c (.bool false)), none⟩])
  (.seq (.ops none [⟨some 24, .call 7 true [] [], none⟩,
    ⟨some 7, .mv (.t 24), none⟩])
   (.seq (.seq (.ops none [⟨some 25, .mv (.t 0), none⟩,
      ⟨some 26, .len false (.t 25), none⟩,
      ⟨some 27, .bin .gtr (.t 26) (.c (.int .i64 30)), none⟩])
     (.cond (.t 27)
      (.seq (.ops none [⟨some 28, .mv (.t 7), none⟩,
        ⟨some 6, .mv (.t 28), none⟩])
       .ret)
      .skip))
    (.seq (.ops none [⟨some 30, .mv (.t 0), none⟩,
      ⟨some 31, .call 11 false [] [(.t 30)], none⟩,
      ⟨some 32, .mv (.t 1), none⟩,
      ⟨some 33, .mv (.t 2), none⟩,
      ⟨some 34, .call 8 false [] [(.t 31), (.t 32), (.t 33)], none⟩,
      ⟨some 29, .mv (.t 34), none⟩,
      ⟨some 35, .ext (.t 29) 0, none⟩,
      ⟨some 36, .ext (.t 29) 1, none⟩,
      ⟨some 8, .mv (.t 35), none⟩,
      ⟨some 9, .mv (.t 36), none⟩])
     (.seq (.ops none [⟨some 38, .mv (.t 0), none⟩,
       ⟨some 39, .mv (.t 1), none⟩,
       ⟨some 40, .mv (.t 2), none⟩,
       ⟨some 41, .call 14 false [] [(.t 38), (.t 39), (.t 40)], none⟩,
       ⟨some 37, .mv (.t 41), none⟩,
       ⟨some 42, .ext (.t 37) 0, none⟩,
       ⟨some 43, .ext (.t 37) 1, none⟩,
       ⟨some 10, .mv (.t 42), none⟩,
       ⟨some 11, .mv (.t 43), none⟩])
      (.seq (.ops none [⟨some 45, .mv (.t 0), none⟩,
        ⟨some 46, .call 11 false [] [(.t 45)], none⟩,
        ⟨some 47, .mv (.t 2), none⟩,
        ⟨some 48, .call 9 false [] [(.t 46), (.t 47)], none⟩,
        ⟨some 44, .mv (.t 48), none⟩,
        ⟨some 49, .ext (.t 44) 0, none⟩,
        ⟨some 50, .ext (.t 44) 1, none⟩,
        ⟨some 12, .mv (.t 49), none⟩,
        ⟨some 13, .mv (.t 50), none⟩])
       (.seq (.ops none [⟨some 52, .mv (.t 0), none⟩,
         ⟨some 53, .mv (.t 2), none⟩,
         ⟨some 54, .call 15 false [] [(.t 52), (.t 53)], none⟩,
         ⟨some 51, .mv (.t 54), none⟩,
         ⟨some 55, .ext (.t 51) 0, none⟩,
         ⟨some 56, .ext (.t 51) 1, none⟩,
         ⟨some 14, .mv (.t 55), none⟩,
         ⟨some 15, .mv (.t 56), none⟩])
        (.seq (.ops none [⟨some 58, .mv (.t 0), none⟩,
          ⟨some 59, .call 11 false [] [(.t 58)], none⟩,
          ⟨some 60, .mv (.t 1), none⟩,
          ⟨some 61, .call 16 false [] [(.t 59), (.t 60)], none⟩,
          ⟨some 57, .mv (.t 61), none⟩,
          ⟨some 62, .ext (.t 57) 0, none⟩,
          ⟨some 63, .ext (.t 57) 1, none⟩,
          ⟨some 16, .mv (.t 62), none⟩,
          ⟨some 17, .mv (.t 63), none⟩])
         (.seq (.ops none [⟨some 65, .mv (.t 0), none⟩,
           ⟨some 66, .mv (.t 1), none⟩,
           ⟨some 67, .call 17 false [] [(.t 65), (.t 66)], none⟩,
           ⟨some 64, .mv (.t 67), none⟩,
           ⟨some 68, .ext (.t 64) 0, none⟩,
           ⟨some 69, .ext (.t 64) 1, none⟩,
           ⟨some 18, .mv (.t 68), none⟩,
           ⟨some 19, .mv (.t 69), none⟩])
          (.seq (.ops none [⟨some 71, .mv (.t 0), none⟩,
            ⟨some 72, .call 11 false [] [(.t 71)], none⟩,
            ⟨some 73, .call 18 true [] [(.t 72)], none⟩,
            ⟨some 70, .mv (.t 73), none⟩,
            ⟨some 74, .ext (.t 70) 0, none⟩,
            ⟨some 75, .ext (.t 70) 1, none⟩,
            ⟨some 20, .mv (.t 74), none⟩,
            ⟨some 21, .mv (.t 75), none⟩])
           (.seq (.ops none [⟨some 77, .mv (.t 0), none⟩,
             ⟨some 78, .call 19 true [] [(.t 77)], none⟩,
             ⟨some 76, .mv (.t 78), none⟩,
             ⟨some 79, .ext (.t 76) 0, none⟩,
             ⟨some 80, .ext (.t 76) 1, none⟩,
             ⟨some 22, .mv (.t 79), none⟩,
             ⟨some 23, .mv (.t 80), none⟩])
            (.seq (.ops none [⟨some 81, .mv (.t 7), none⟩,
              ⟨some 82, .mv (.t 81), none⟩,
              ⟨some 83, .mv (.t 8), some (82, true)⟩,
              ⟨some 84, .call 13 false [] [(.t 83)], some (82, true)⟩,
              ⟨some 85, .mv (.t 10), some (82, true)⟩,
              ⟨some 86, .call 12 true [] [(.t 84), (.t 85)], some (82, true)⟩,
              ⟨some 87, .pick (.t 82) (.t 86) (.c (.bool false)), none⟩,
              ⟨some 88, .mv (.t 87), none⟩,
              ⟨some 89, .mv (.t 9), some (88, true)⟩,
              ⟨some 90, .mv (.t 11), some (88, true)⟩,
              ⟨some 91, .eqB false (.t 89) (.t 90), some (88, true)⟩,
              ⟨some 92, .pick (.t 88) (.t 91) (.c (.bool false)), none⟩,
              ⟨some 93, .mv (.t 92), none⟩,
              ⟨some 94, .mv (.t 12), some (93, true)⟩,
              ⟨some 95, .call 13 false [] [(.t 94)], some (93, true)⟩,
              ⟨some 96, .mv (.t 14), some (93, true)⟩,
              ⟨some 97, .call 12 true [] [(.t 95), (.t 96)], some (93, true)⟩,
              ⟨some 98, .pick (.t 93) (.t 97) (.c (.bool false)), none⟩,
              ⟨some 99, .mv (.t 98), none⟩,
              ⟨some 100, .mv (.t 13), some (99, true)⟩,
              ⟨some 101, .mv (.t 15), some (99, true)⟩,
              ⟨some 102, .call 20 true [] [(.t 100), (.t 101)], some (99, true)⟩,
              ⟨some 103, .pick (.t 99) (.t 102) (.c (.bool false)), none⟩,
              ⟨some 104, .mv (.t 103), none⟩,
              ⟨some 105, .mv (.t 16), some (104, true)⟩,
              ⟨some 106, .call 13 false [] [(.t 105)], some (104, true)⟩,
              ⟨some 107, .mv (.t 18), some (104, true)⟩,
              ⟨some 108, .call 12 true [] [(.t 106), (.t 107)], some (104, true)⟩,
              ⟨some 109, .pick (.t 104) (.t 108) (.c (.bool false)), none⟩,
              ⟨some 110, .mv (.t 109), none⟩,
              ⟨some 111, .mv (.t 17), some (110, true)⟩,
              ⟨some 112, .mv (.t 19), some (110, true)⟩,
              ⟨some 113, .eqB false (.t 111) (.t 112), some (110, true)⟩,
              ⟨some 114, .pick (.t 110) (.t 113) (.c (.bool false)), none⟩,
              ⟨some 115, .mv (.t 114), none⟩,
              ⟨some 116, .mv (.t 20), some (115, true)⟩,
              ⟨some 117, .mv (.t 22), some (115, true)⟩,
              ⟨some 118, .bin .eql (.t 116) (.t 117), some (115, true)⟩,
              ⟨some 119, .pick (.t 115) (.t 118) (.c (.bool false)), none⟩,
              ⟨some 120, .mv (.t 119), none⟩,
              ⟨some 121, .mv (.t 21), some (120, true)⟩,
              ⟨some 122, .mv (.t 23), some (120, true)⟩,
              ⟨some 123, .eqB false (.t 121) (.t 122), some (120, true)⟩,
              ⟨some 124, .pick (.t 120) (.t 123) (.c (.bool false)), none⟩,
              ⟨some 125, .mv (.t 124), none⟩,
              ⟨some 126, .mv (.t 0), some (125, true)⟩,
              ⟨some 127, .call 11 false [] [(.t 126)], some (125, true)⟩,
              ⟨some 128, .call 10 true [] [(.t 127)], some (125, true)⟩,
              ⟨some 129, .mv (.t 0), some (125, true)⟩,
              ⟨some 130, .call 21 true [] [(.t 129)], some (125, true)⟩,
              ⟨some 131, .eqB false (.t 128) (.t 130), some (125, true)⟩,
              ⟨some 132, .pick (.t 125) (.t 131) (.c (.bool false)), none⟩,
              ⟨some 6, .mv (.t 132), none⟩])
             .ret))))))))))))⟩
theorem cop5 : copF Try.prog raws [] 5 = some ir5 := by kernel_rfl
/-- tenterhook/tenterhooklaw17.TimerOrder -/
def ir6 : F := ⟨118, [.t 6],
 (.seq (.ops none [⟨some 6, .mv (.c (.bool false)), none⟩])
  (.seq (.ops none [⟨some 16, .call 7 true [] [], none⟩,
    ⟨some 7, .mv (.t 16), none⟩])
   (.seq (.seq (.ops none [⟨some 17, .mv (.t 0), none⟩,
      ⟨some 18, .len false (.t 17), none⟩,
      ⟨some 19, .bin .gtr (.t 18) (.c (.int .i64 30)), none⟩,
      ⟨some 20, .mv (.t 19), none⟩,
      ⟨some 21, .mv (.t 0), some (20, false)⟩,
      ⟨some 22, .call 11 false [] [(.t 21)], some (20, false)⟩,
      ⟨some 23, .call 10 true [] [(.t 22)], some (20, false)⟩,
      ⟨some 24, .un .not (.t 23), some (20, false)⟩,
      ⟨some 25, .pick (.t 20) (.c (.bool true)) (.t 24), none⟩])
     (.cond (.t 25)
      (.seq (.ops none [⟨some 26, .mv (.t 7), none⟩,
        ⟨some 6, .mv (.t 26), none⟩])
       .ret)
      .skip))
    (.seq (.ops none [⟨some 28, .mv (.t 0), none⟩,
      ⟨some 29, .call 11 false [] [(.t 28)], none⟩,
      ⟨some 30, .mv (.t 1), none⟩,
      ⟨some 31, .mv (.t 2), none⟩,
      ⟨some 32, .call 8 false [] [(.t 29), (.t 30), (.t 31)], none⟩,
      ⟨some 27, .mv (.t 32), none⟩,
      ⟨some 33, .ext (.t 27) 0, none⟩,
      ⟨some 34, .ext (.t 27) 1, none⟩,
      ⟨some 8, .mv (.t 33), none⟩,
      ⟨some 9, .mv (.t 34), none⟩])
     (.seq (.seq (.ops none [⟨some 35, .mv (.t 9), none⟩,
        ⟨some 36, .un .not (.t 35), none⟩])
       (.cond (.t 36)
        (.seq (.ops none [⟨some 37, .mv (.t 7), none⟩,
          ⟨some 38, .mv (.t 37), none⟩,
          ⟨some 39, .mv (.t 8), some (38, true)⟩,
          ⟨some 40, .call 13 false [] [(.t 39)], some (38, true)⟩,
          ⟨some 41, .mv (.t 0), some (38, true)⟩,
          ⟨some 42, .call 12 true [] [(.t 40), (.t 41)], some (38, true)⟩,
          ⟨some 43, .pick (.t 38) (.t 42) (.c (.bool false)), none⟩,
          ⟨some 6, .mv (.t 43), none⟩])
         .ret)
        .skip))
      (.seq (.ops none [⟨some 45, .mv (.t 8), none⟩,
        ⟨some 46, .mv (.t 1), none⟩,
        ⟨some 47, .call 16 false [] [(.t 45), (.t 46)], none⟩,
        ⟨some 44, .mv (.t 47), none⟩,
        ⟨some 48, .ext (.t 44) 0, none⟩,
        ⟨some 49, .ext (.t 44) 1, none⟩,
        ⟨some 10, .mv (.t 48), none⟩,
        ⟨some 11, .mv (.t 49), none⟩])
       (.seq (.ops none [⟨some 51, .mv (.t 8), none⟩,
         ⟨some 52, .call 18 true [] [(.t 51)], none⟩,
         ⟨some 50, .mv (.t 52), none⟩,
         ⟨some 53, .ext (.t 50) 0, none⟩,
         ⟨some 54, .ext (.t 50) 1, none⟩,
         ⟨some 12, .mv (.t 53), none⟩,
         ⟨some 13, .mv (.t 54), none⟩])
        (.seq (.ops none [⟨some 14, .mv (.c (.bool false)), none⟩])
         (.seq (.seq (.ops none [⟨some 15, .mv (.c (.int .i64 0)), none⟩])
           (.block 0 (.loop [0, 1, 2, 7, 8, 10, 11, 12, 13, 14, 15] []
             (.seq (.seq (.ops none [⟨some 55, .mv (.t 15), none⟩,
                ⟨some 56, .mv (.t 8), none⟩,
                ⟨some 57, .len false (.t 56), none⟩,
                ⟨some 58, .bin .lss (.t 55) (.t 57), none⟩])
               (.cond (.t 58)
                .skip
                (.exit 0)))
              (.seq (.block 1 (.seq (.seq (.ops none [⟨some 61, .mv (.t 8), none⟩,
                   ⟨some 62, .mv (.t 15), none⟩,
                   ⟨some 63, .iaddr 2 (.t 61) (.t 62), none⟩,
                   ⟨some 64, .faddr 1 (.t 63), none⟩,
                   ⟨some 65, .load false 1 (.t 64), none⟩,
                   ⟨some 66, .mv (.t 12), none⟩,
                   ⟨some 67, .bin .lss (.t 65) (.t 66), none⟩,
                   ⟨some 68, .mv (.t 67), none⟩,
                   ⟨some 69, .mv (.t 14), some (68, false)⟩,
                   ⟨some 70, .mv (.t 69), some (68, false)⟩,
                   ⟨some 71, .mv (.t 8), some (70, true)⟩,
                   ⟨some 72, .mv (.t 15), some (70, true)⟩,
                   ⟨some 73, .iaddr 2 (.t 71) (.t 72), some (70, true)⟩,
                   ⟨some 74, .faddr 1 (.t 73), some (70, true)⟩,
                   ⟨some 75, .load false 1 (.t 74), some (70, true)⟩,
                   ⟨some 76, .mv (.t 2), some (70, true)⟩,
                   ⟨some 77, .bin .leq (.t 75) (.t 76), some (70, true)⟩,
                   ⟨some 78, .pick (.t 70) (.t 77) (.c (.bool false)), some (68, false)⟩,
                   ⟨some 79, .pick (.t 68) (.c (.bool true)) (.t 78), none⟩])
                  (.cond (.t 79)
                   (.seq (.ops none [⟨some 6, .mv (.c (.bool false)), none⟩])
                    .ret)
                   .skip))
                 (.ops none [⟨some 80, .mv (.t 14), none⟩,
                  ⟨some 81, .mv (.t 80), none⟩,
                  ⟨some 82, .mv (.t 8), some (81, false)⟩,
                  ⟨some 83, .mv (.t 15), some (81, false)⟩,
                  ⟨some 84, .iaddr 2 (.t 82) (.t 83), some (81, false)⟩,
                  ⟨some 85, .faddr 0 (.t 84), some (81, false)⟩,
                  ⟨some 86, .load false 1 (.t 85), some (81, false)⟩,
                  ⟨some 87, .mv (.t 1), some (81, false)⟩,
                  ⟨some 88, .bin .eql (.t 86) (.t 87), some (81, false)⟩,
                  ⟨some 89, .pick (.t 81) (.c (.bool true)) (.t 88), none⟩,
                  ⟨some 14, .mv (.t 89), none⟩])))
               (.ops none [⟨some 59, .mv (.t 15), none⟩,
                ⟨some 60, .bin .add (.t 59) (.c (.int .i64 1)), none⟩,
                ⟨some 15, .mv (.t 60), none⟩]))))))
          (.seq (.ops none [⟨some 90, .mv (.t 7), none⟩,
            ⟨some 91, .mv (.t 90), none⟩,
            ⟨some 92, .mv (.t 11), some (91, true)⟩,
            ⟨some 93, .pick (.t 91) (.t 92) (.c (.bool false)), none⟩,
            ⟨some 94, .mv (.t 93), none⟩,
            ⟨some 95, .mv (.t 13), some (94, true)⟩,
            ⟨some 96, .pick (.t 94) (.t 95) (.c (.bool false)), none⟩,
            ⟨some 97, .mv (.t 96), none⟩,
            ⟨some 98, .mv (.t 10), some (97, true)⟩,
            ⟨some 99, .call 13 false [] [(.t 98)], some (97, true)⟩,
            ⟨some 100, .mv (.t 0), some (97, true)⟩,
            ⟨some 101, .call 12 true [] [(.t 99), (.t 100)], some (97, true)⟩,
            ⟨some 102, .pick (.t 97) (.t 101) (.c (.bool false)), none⟩,
            ⟨some 103, .mv (.t 102), none⟩,
            ⟨some 104, .mv (.t 8), some (103, true)⟩,
            ⟨some 105, .call 10 true [] [(.t 104)], some (103, true)⟩,
            ⟨some 106, .pick (.t 103) (.t 105) (.c (.bool false)), none⟩,
            ⟨some 107, .mv (.t 106), none⟩,
            ⟨some 108, .mv (.t 8), some (107, true)⟩,
            ⟨some 109, .len false (.t 108), some (107, true)⟩,
            ⟨some 110, .mv (.t 0), some (107, true)⟩,
            ⟨some 111, .len false (.t 110), some (107, true)⟩,
            ⟨some 112, .bin .add (.t 111) (.c (.int .i64 1)), some (107, true)⟩,
            ⟨some 113, .bin .eql (.t 109) (.t 112), some (107, true)⟩,
            ⟨some 114, .pick (.t 107) (.t 113) (.c (.bool false)), none⟩,
            ⟨some 115, .mv (.t 114), none⟩,
            ⟨some 116, .mv (.t 14), some (115, true)⟩,
            ⟨some 117, .pick (.t 115) (.t 116) (.c (.bool false)), none⟩,
            ⟨some 6, .mv (.t 117), none⟩])
           .ret))))))))))⟩
theorem cop6 : copF Try.prog raws [([0, 1, 2, 7, 8, 10, 11, 12, 13, 14, 15], [])] 6 = some ir6 := by kernel_rfl
/-- tenterhook/tenterhooklaw17.awake -/
def ir7 : F := ⟨66, [.t 0],
 (.seq (.ops none [⟨some 0, .mv (.c (.bool false)), none⟩])
  (.seq (.ops none [⟨some 10, .call 8 false [] [(.c (.nil)), (.c (.int .i64 1)), (.c (.int .i64 5))], none⟩,
    ⟨some 9, .mv (.t 10), none⟩,
    ⟨some 11, .ext (.t 9) 0, none⟩,
    ⟨some 12, .ext (.t 9) 1, none⟩,
    ⟨some 1, .mv (.t 11), none⟩,
    ⟨some 2, .mv (.t 12), none⟩])
   (.seq (.ops none [⟨some 14, .mv (.t 1), none⟩,
     ⟨some 15, .call 8 false [] [(.t 14), (.c (.int .i64 2)), (.c (.int .i64 3))], none⟩,
     ⟨some 13, .mv (.t 15), none⟩,
     ⟨some 16, .ext (.t 13) 0, none⟩,
     ⟨some 17, .ext (.t 13) 1, none⟩,
     ⟨some 3, .mv (.t 16), none⟩,
     ⟨some 4, .mv (.t 17), none⟩])
    (.seq (.ops none [⟨some 19, .mv (.t 3), none⟩,
      ⟨some 20, .call 9 false [] [(.t 19), (.c (.int .i64 4))], none⟩,
      ⟨some 18, .mv (.t 20), none⟩,
      ⟨some 21, .ext (.t 18) 0, none⟩,
      ⟨some 22, .ext (.t 18) 1, none⟩,
      ⟨some 5, .mv (.t 21), none⟩,
      ⟨some 6, .mv (.t 22), none⟩])
     (.seq (.ops none [⟨some 24, .mv (.t 3), none⟩,
       ⟨some 25, .call 18 true [] [(.t 24)], none⟩,
       ⟨some 23, .mv (.t 25), none⟩,
       ⟨some 26, .ext (.t 23) 0, none⟩,
       ⟨some 27, .ext (.t 23) 1, none⟩,
       ⟨some 7, .mv (.t 26), none⟩,
       ⟨some 8, .mv (.t 27), none⟩])
      (.seq (.ops none [⟨some 28, .mv (.t 2), none⟩,
        ⟨some 29, .mv (.t 28), none⟩,
        ⟨some 30, .mv (.t 4), some (29, true)⟩,
        ⟨some 31, .pick (.t 29) (.t 30) (.c (.bool false)), none⟩,
        ⟨some 32, .mv (.t 31), none⟩,
        ⟨some 33, .mv (.t 5), some (32, true)⟩,
        ⟨some 34, .len false (.t 33), some (32, true)⟩,
        ⟨some 35, .bin .eql (.t 34) (.c (.int .i64 1)), some (32, true)⟩,
        ⟨some 36, .pick (.t 32) (.t 35) (.c (.bool false)), none⟩,
        ⟨some 37, .mv (.t 36), none⟩,
        ⟨some 38, .mv (.t 5), some (37, true)⟩,
        ⟨some 39, .iaddr 2 (.t 38) (.c (.int .i64 0)), some (37, true)⟩,
        ⟨some 40, .faddr 0 (.t 39), some (37, true)⟩,
        ⟨some 41, .load false 1 (.t 40), some (37, true)⟩,
        ⟨some 42, .bin .eql (.t 41) (.c (.int .i64 1)), some (37, true)⟩,
        ⟨some 43, .pick (.t 37) (.t 42) (.c (.bool false)), none⟩,
        ⟨some 44, .mv (.t 43), none⟩,
        ⟨some 45, .mv (.t 6), some (44, true)⟩,
        ⟨some 46, .len false (.t 45), some (44, true)⟩,
        ⟨some 47, .bin .eql (.t 46) (.c (.int .i64 1)), some (44, true)⟩,
        ⟨some 48, .pick (.t 44) (.t 47) (.c (.bool false)), none⟩,
        ⟨some 49, .mv (.t 48), none⟩,
        ⟨some 50, .mv (.t 6), some (49, true)⟩,
        ⟨some 51, .iaddr 1 (.t 50) (.c (.int .i64 0)), some (49, true)⟩,
        ⟨some 52, .load false 1 (.t 51), some (49, true)⟩,
        ⟨some 53, .bin .eql (.t 52) (.c (.int .i64 2)), some (49, true)⟩,
        ⟨some 54, .pick (.t 49) (.t 53) (.c (.bool false)), none⟩,
        ⟨some 55, .mv (.t 54), none⟩,
        ⟨some 56, .mv (.t 7), some (55, true)⟩,
        ⟨some 57, .bin .eql (.t 56) (.c (.int .i64 3)), some (55, true)⟩,
        ⟨some 58, .pick (.t 55) (.t 57) (.c (.bool false)), none⟩,
        ⟨some 59, .mv (.t 58), none⟩,
        ⟨some 60, .mv (.t 8), some (59, true)⟩,
        ⟨some 61, .pick (.t 59) (.t 60) (.c (.bool false)), none⟩,
        ⟨some 62, .mv (.t 61), none⟩,
        ⟨some 63, .mv (.t 3), some (62, true)⟩,
        ⟨some 64, .call 10 true [] [(.t 63)], some (62, true)⟩,
        ⟨some 65, .pick (.t 62) (.t 64) (.c (.bool false)), none⟩,
        ⟨some 0, .mv (.t 65), none⟩])
       .ret))))))⟩
theorem cop7 : copF Try.prog raws [] 7 = some ir7 := by kernel_rfl
/-- tenterhook/timer.Put -/
def ir8 : F := ⟨33, [.t 6, .t 7],
 (.seq (.ops none [⟨some 6, .mv (.c (.nil)), none⟩,
   ⟨some 7, .mv (.c (.bool false)), none⟩])
  (.seq (.ops none [⟨some 10, .mv (.t 0), none⟩,
    ⟨some 11, .call 22 false [] [(.t 10)], none⟩,
    ⟨some 0, .mv (.t 11), none⟩])
   (.seq (.ops none [⟨some 12, .mv (.t 1), none⟩,
     ⟨some 13, .mv (.t 2), none⟩,
     ⟨some 14, .build [.int .i64 0, .int .i64 0] [(0, 1, (.t 12)), (1, 1, (.t 13))], none⟩,
     ⟨some 8, .alloc [.int .i64 0, .int .i64 0], none⟩,
     ⟨none, .store 2 (.t 8) (.t 14), none⟩])
    (.seq (.seq (.ops none [⟨some 15, .load true 2 (.t 8), none⟩,
       ⟨some 16, .call 23 true [] [(.t 15)], none⟩,
       ⟨some 17, .un .not (.t 16), none⟩,
       ⟨some 18, .mv (.t 17), none⟩,
       ⟨some 19, .mv (.t 0), some (18, false)⟩,
       ⟨some 20, .mv (.t 1), some (18, false)⟩,
       ⟨some 21, .call 25 false [] [(.t 20)], some (18, false)⟩,
       ⟨some 22, .call 24 true [] [(.t 19), (.t 21)], some (18, false)⟩,
       ⟨some 23, .pick (.t 18) (.c (.bool true)) (.t 22), none⟩])
      (.cond (.t 23)
       (.seq (.ops none [⟨some 24, .mv (.t 0), none⟩,
         ⟨some 6, .mv (.t 24), none⟩,
         ⟨some 7, .mv (.c (.bool false)), none⟩])
        .ret)
       .skip))
     (.seq (.ops (some [(1, 2), (1, 3)]) [⟨some 25, .mv (.t 0), none⟩,
       ⟨some 26, .call 26 false [] [(.t 25)], none⟩,
       ⟨some 27, .load true 2 (.t 8), none⟩,
       ⟨some 28, .bslice 2 1 [.int .i64 0, .int .i64 0] [(0, (.t 27))], none⟩,
       ⟨some 29, .append 2 (.t 26) (.t 28), none⟩,
       ⟨some 9, .mv (.t 29), none⟩])
      (.seq (.ops none [⟨some 30, .mv (.t 9), none⟩,
        ⟨some 31, .call 27 false [true, false] [(.t 30), (.c (.fn 28 [] []))], none⟩])
       (.seq (.ops none [⟨some 32, .mv (.t 9), none⟩,
         ⟨some 6, .mv (.t 32), none⟩,
         ⟨some 7, .mv (.c (.bool true)), none⟩])
        .ret)))))))⟩
theorem cop8 : copF Try.prog raws [] 8 = some ir8 := by kernel_rfl
/-- tenterhook/timer.Sane -/
def ir10 : F := ⟨28, [.t 2],
 (.seq (.ops none [⟨some 2, .mv (.c (.bool false)), none⟩])
  (.seq (.ops none [⟨some 6, .mkmap, none⟩,
    ⟨some 3, .mv (.t 6), none⟩])
   (.seq (.seq (.ops none [⟨some 7, .mv (.t 0), none⟩,
      ⟨some 8, .len false (.t 7), none⟩,
      ⟨some 9, .mv (.c (.int .i64 0)), none⟩])
     (.block 0 (.loop [0, 3, 7, 8, 9] []
       (.seq (.ops none [⟨some 10, .bin .lss (.t 9) (.t 8), none⟩])
        (.seq (.cond (.t 10)
          .skip
          (.exit 0))
         (.seq (.block 1 (.seq (.ops none [⟨some 11, .iaddr 2 (.t 7) (.t 9), none⟩,
             ⟨some 12, .load true 2 (.t 11), none⟩,
             ⟨some 5, .alloc [.int .i64 0, .int .i64 0], none⟩,
             ⟨none, .store 2 (.t 5) (.t 12), none⟩])
            (.seq (.seq (.ops none [⟨some 13, .load true 2 (.t 5), none⟩,
               ⟨some 14, .call 23 true [] [(.t 13)], none⟩,
               ⟨some 15, .un .not (.t 14), none⟩,
               ⟨some 16, .mv (.t 15), none⟩,
               ⟨some 17, .mv (.t 3), some (16, false)⟩,
               ⟨some 18, .faddr 0 (.t 5), some (16, false)⟩,
               ⟨some 19, .load false 1 (.t 18), some (16, false)⟩,
               ⟨some 20, .lookup 0 [.bool false] false (.t 17) (.t 19), some (16, false)⟩,
               ⟨some 21, .pick (.t 16) (.c (.bool true)) (.t 20), none⟩])
              (.cond (.t 21)
               (.seq (.ops none [⟨some 2, .mv (.c (.bool false)), none⟩])
                .ret)
               .skip))
             (.ops none [⟨some 22, .mv (.t 3), none⟩,
              ⟨some 23, .faddr 0 (.t 5), none⟩,
              ⟨some 24, .load false 1 (.t 23), none⟩,
              ⟨none, .mapup 0 (.t 22) (.t 24) (.c (.bool true)), none⟩]))))
          (.ops none [⟨some 25, .bin .add (.t 9) (.c (.int .i64 1)), none⟩,
           ⟨some 9, .mv (.t 25), none⟩])))))))
    (.seq (.ops none [⟨some 26, .mv (.t 0), none⟩,
      ⟨some 27, .call 30 true [] [(.t 26), (.c (.fn 28 [] []))], none⟩,
      ⟨some 2, .mv (.t 27), none⟩])
     .ret))))⟩
theorem cop10 : copF Try.prog raws [([0, 3, 7, 8, 9], [])] 10 = some ir10 := by kernel_rfl
/-- tenterhook/tenterhooklaw17.naps -/
def ir11 : F := ⟨26, [.t 2],
 (.seq (.ops none [⟨some 2, .mv (.c (.nil)), none⟩])
  (.seq (.ops none [⟨some 3, .mv (.c (.nil)), none⟩])
   (.seq (.seq (.ops none [⟨some 4, .mv (.c (.int .i64 0)), none⟩])
     (.block 0 (.loop [0, 3, 4] [(3, none, 2)]
       (.seq (.seq (.ops none [⟨some 5, .mv (.t 4), none⟩,
          ⟨some 6, .mv (.t 0), none⟩,
          ⟨some 7, .len false (.t 6), none⟩,
          ⟨some 8, .bin .lss (.t 5) (.t 7), none⟩])
         (.cond (.t 8)
          .skip
          (.exit 0)))
        (.seq (.block 1 (.ops (some []) [⟨some 11, .mv (.t 3), none⟩,
           ⟨some 12, .mv (.t 0), none⟩,
           ⟨some 13, .mv (.t 4), none⟩,
           ⟨some 14, .iaddr 2 (.t 12) (.t 13), none⟩,
           ⟨some 15, .faddr 0 (.t 14), none⟩,
           ⟨some 16, .load false 1 (.t 15), none⟩,
           ⟨some 17, .mv (.t 0), none⟩,
           ⟨some 18, .mv (.t 4), none⟩,
           ⟨some 19, .iaddr 2 (.t 17) (.t 18), none⟩,
           ⟨some 20, .faddr 1 (.t 19), none⟩,
           ⟨some 21, .load false 1 (.t 20), none⟩,
           ⟨some 22, .build [.int .i64 0, .int .i64 0] [(0, 1, (.t 16)), (1, 1, (.t 21))], none⟩,
           ⟨some 23, .bslice 2 1 [.int .i64 0, .int .i64 0] [(0, (.t 22))], none⟩,
           ⟨some 24, .append 2 (.t 11) (.t 23), none⟩,
           ⟨some 3, .mv (.t 24), none⟩]))
         (.ops none [⟨some 9, .mv (.t 4), none⟩,
          ⟨some 10, .bin .add (.t 9) (.c (.int .i64 1)), none⟩,
          ⟨some 4, .mv (.t 10), none⟩]))))))
    (.seq (.ops none [⟨some 25, .mv (.t 3), none⟩,
      ⟨some 2, .mv (.t 25), none⟩])
     .ret))))⟩
theorem cop11 : copF Try.prog raws [([0, 3, 4], [(3, none, 2)])] 11 = some ir11 := by kernel_rfl
/-- tenterhook/tenterhookref17.Same -/
def ir12 : F := ⟨26, [.t 4],
 (.seq (.ops none [⟨some 4, .mv (.c (.bool false)), none⟩])
  (.seq (.seq (.ops none [⟨some 6, .mv (.t 0), none⟩,
     ⟨some 7, .len false (.t 6), none⟩,
     ⟨some 8, .mv (.t 1), none⟩,
     ⟨some 9, .len false (.t 8), none⟩,
     ⟨some 10, .bin .neq (.t 7) (.t 9), none⟩])
    (.cond (.t 10)
     (.seq (.ops none [⟨some 4, .mv (.c (.bool false)), none⟩])
      .ret)
     .skip))
   (.seq (.seq (.ops none [⟨some 5, .mv (.c (.int .i64 0)), none⟩])
     (.block 0 (.loop [0, 1, 5] []
       (.seq (.seq (.ops none [⟨some 11, .mv (.t 5), none⟩,
          ⟨some 12, .mv (.t 0), none⟩,
          ⟨some 13, .len false (.t 12), none⟩,
          ⟨some 14, .bin .lss (.t 11) (.t 13), none⟩])
         (.cond (.t 14)
          .skip
          (.exit 0)))
        (.seq (.block 1 (.seq (.ops (some []) [⟨some 17, .mv (.t 0), none⟩,
            ⟨some 18, .mv (.t 5), none⟩,
            ⟨some 19, .iaddr 2 (.t 17) (.t 18), none⟩,
            ⟨some 20, .load true 2 (.t 19), none⟩,
            ⟨some 21, .mv (.t 1), none⟩,
            ⟨some 22, .mv (.t 5), none⟩,
            ⟨some 23, .iaddr 2 (.t 21) (.t 22), none⟩,
            ⟨some 24, .load true 2 (.t 23), none⟩,
            ⟨some 25, .eqS true [0, 0] (.t 20) (.t 24), none⟩])
           (.cond (.t 25)
            (.seq (.ops none [⟨some 4, .mv (.c (.bool false)), none⟩])
             .ret)
            .skip)))
         (.ops none [⟨some 15, .mv (.t 5), none⟩,
          ⟨some 16, .bin .add (.t 15) (.c (.int .i64 1)), none⟩,
          ⟨some 5, .mv (.t 16), none⟩]))))))
    (.seq (.ops none [⟨some 4, .mv (.c (.bool true)), none⟩])
     .ret))))⟩
theorem cop12 : copF Try.prog raws [([0, 1, 5], [])] 12 = some ir12 := by kernel_rfl
/-- tenterhook/tenterhooklaw17.slept -/
def ir13 : F := ⟨26, [.t 2],
 (.seq (.ops none [⟨some 2, .mv (.c (.nil)), none⟩])
  (.seq (.ops none [⟨some 3, .mv (.c (.nil)), none⟩])
   (.seq (.seq (.ops none [⟨some 4, .mv (.c (.int .i64 0)), none⟩])
     (.block 0 (.loop [0, 3, 4] [(3, none, 2)]
       (.seq (.seq (.ops none [⟨some 5, .mv (.t 4), none⟩,
          ⟨some 6, .mv (.t 0), none⟩,
          ⟨some 7, .len false (.t 6), none⟩,
          ⟨some 8, .bin .lss (.t 5) (.t 7), none⟩])
         (.cond (.t 8)
          .skip
          (.exit 0)))
        (.seq (.block 1 (.ops (some []) [⟨some 11, .mv (.t 3), none⟩,
           ⟨some 12, .mv (.t 0), none⟩,
           ⟨some 13, .mv (.t 4), none⟩,
           ⟨some 14, .iaddr 2 (.t 12) (.t 13), none⟩,
           ⟨some 15, .faddr 0 (.t 14), none⟩,
           ⟨some 16, .load false 1 (.t 15), none⟩,
           ⟨some 17, .mv (.t 0), none⟩,
           ⟨some 18, .mv (.t 4), none⟩,
           ⟨some 19, .iaddr 2 (.t 17) (.t 18), none⟩,
           ⟨some 20, .faddr 1 (.t 19), none⟩,
           ⟨some 21, .load false 1 (.t 20), none⟩,
           ⟨some 22, .build [.int .i64 0, .int .i64 0] [(0, 1, (.t 16)), (1, 1, (.t 21))], none⟩,
           ⟨some 23, .bslice 2 1 [.int .i64 0, .int .i64 0] [(0, (.t 22))], none⟩,
           ⟨some 24, .append 2 (.t 11) (.t 23), none⟩,
           ⟨some 3, .mv (.t 24), none⟩]))
         (.ops none [⟨some 9, .mv (.t 4), none⟩,
          ⟨some 10, .bin .add (.t 9) (.c (.int .i64 1)), none⟩,
          ⟨some 4, .mv (.t 10), none⟩]))))))
    (.seq (.ops none [⟨some 25, .mv (.t 3), none⟩,
      ⟨some 2, .mv (.t 25), none⟩])
     .ret))))⟩
theorem cop13 : copF Try.prog raws [([0, 3, 4], [(3, none, 2)])] 13 = some ir13 := by kernel_rfl
/-- tenterhook/tenterhookref17.Put -/
def ir14 : F := ⟨80, [.t 6, .t 7],
 (.seq (.ops none [⟨some 6, .mv (.c (.nil)), none⟩,
   ⟨some 7, .mv (.c (.bool false)), none⟩])
  (.seq (.ops none [⟨some 11, .mv (.t 0), none⟩,
    ⟨some 12, .call 31 false [] [(.t 11)], none⟩,
    ⟨some 0, .mv (.t 12), none⟩])
   (.seq (.seq (.ops none [⟨some 13, .mv (.t 1), none⟩,
      ⟨some 14, .bin .lss (.t 13) (.c (.int .i64 0)), none⟩,
      ⟨some 15, .mv (.t 14), none⟩,
      ⟨some 16, .mv (.t 1), some (15, false)⟩,
      ⟨some 17, .bin .gtr (.t 16) (.c (.int .i64 7)), some (15, false)⟩,
      ⟨some 18, .pick (.t 15) (.c (.bool true)) (.t 17), none⟩,
      ⟨some 19, .mv (.t 18), none⟩,
      ⟨some 20, .mv (.t 2), some (19, false)⟩,
      ⟨some 21, .bin .lss (.t 20) (.c (.int .i64 0)), some (19, false)⟩,
      ⟨some 22, .pick (.t 19) (.c (.bool true)) (.t 21), none⟩,
      ⟨some 23, .mv (.t 22), none⟩,
      ⟨some 24, .mv (.t 2), some (23, false)⟩,
      ⟨some 25, .bin .gtr (.t 24) (.c (.int .i64 1125899906842624)), some (23, false)⟩,
      ⟨some 26, .pick (.t 23) (.c (.bool true)) (.t 25), none⟩,
      ⟨some 27, .mv (.t 26), none⟩,
      ⟨some 28, .mv (.t 0), some (27, false)⟩,
      ⟨some 29, .mv (.t 1), some (27, false)⟩,
      ⟨some 30, .call 32 true [] [(.t 28), (.t 29)], some (27, false)⟩,
      ⟨some 31, .pick (.t 27) (.c (.bool true)) (.t 30), none⟩])
     (.cond (.t 31)
      (.seq (.ops none [⟨some 32, .mv (.t 0), none⟩,
        ⟨some 6, .mv (.t 32), none⟩,
        ⟨some 7, .mv (.c (.bool false)), none⟩])
       .ret)
      .skip))
    (.seq (.ops none [⟨some 8, .mv (.c (.nil)), none⟩])
     (.seq (.seq (.ops none [⟨some 9, .mv (.c (.int .i64 0)), none⟩])
       (.block 0 (.loop [0, 1, 2, 8, 9] [(8, none, 2)]
         (.seq (.seq (.ops none [⟨some 33, .mv (.t 9), none⟩,
            ⟨some 34, .mv (.t 0), none⟩,
            ⟨some 35, .len false (.t 34), none⟩,
            ⟨some 36, .bin .lss (.t 33) (.t 35), none⟩])
           (.cond (.t 36)
            .skip
            (.exit 0)))
          (.seq (.block 1 (.seq (.ops none [⟨some 39, .mv (.t 0), none⟩,
              ⟨some 40, .mv (.t 9), none⟩,
              ⟨some 41, .iaddr 2 (.t 39) (.t 40), none⟩,
              ⟨some 42, .faddr 1 (.t 41), none⟩,
              ⟨some 43, .load false 1 (.t 42), none⟩,
              ⟨some 44, .mv (.t 2), none⟩,
              ⟨some 45, .bin .leq (.t 43) (.t 44), none⟩])
             (.cond (.t 45)
              (.ops none [⟨some 46, .mv (.t 8), none⟩,
               ⟨some 47, .mv (.t 0), none⟩,
               ⟨some 48, .mv (.t 9), none⟩,
               ⟨some 49, .iaddr 2 (.t 47) (.t 48), none⟩,
               ⟨some 50, .load true 2 (.t 49), none⟩,
               ⟨some 51, .bslice 2 1 [.int .i64 0, .int .i64 0] [(0, (.t 50))], none⟩,
               ⟨some 52, .append 2 (.t 46) (.t 51), none⟩,
               ⟨some 8, .mv (.t 52), none⟩])
              .skip)))
           (.ops none [⟨some 37, .mv (.t 9), none⟩,
            ⟨some 38, .bin .add (.t 37) (.c (.int .i64 1)), none⟩,
            ⟨some 9, .mv (.t 38), none⟩]))))))
      (.seq (.ops none [⟨some 53, .mv (.t 8), none⟩,
        ⟨some 54, .mv (.t 1), none⟩,
        ⟨some 55, .mv (.t 2), none⟩,
        ⟨some 56, .build [.int .i64 0, .int .i64 0] [(0, 1, (.t 54)), (1, 1, (.t 55))], none⟩,
        ⟨some 57, .bslice 2 1 [.int .i64 0, .int .i64 0] [(0, (.t 56))], none⟩,
        ⟨some 58, .append 2 (.t 53) (.t 57), none⟩,
        ⟨some 8, .mv (.t 58), none⟩])
       (.seq (.seq (.ops none [⟨some 10, .mv (.c (.int .i64 0)), none⟩])
         (.block 2 (.loop [0, 2, 8, 10] [(8, none, 2)]
           (.seq (.seq (.ops none [⟨some 59, .mv (.t 10), none⟩,
              ⟨some 60, .mv (.t 0), none⟩,
              ⟨some 61, .len false (.t 60), none⟩,
              ⟨some 62, .bin .lss (.t 59) (.t 61), none⟩])
             (.cond (.t 62)
              .skip
              (.exit 2)))
            (.seq (.block 3 (.seq (.ops none [⟨some 65, .mv (.t 0), none⟩,
                ⟨some 66, .mv (.t 10), none⟩,
                ⟨some 67, .iaddr 2 (.t 65) (.t 66), none⟩,
                ⟨some 68, .faddr 1 (.t 67), none⟩,
                ⟨some 69, .load false 1 (.t 68), none⟩,
                ⟨some 70, .mv (.t 2), none⟩,
                ⟨some 71, .bin .gtr (.t 69) (.t 70), none⟩])
               (.cond (.t 71)
                (.ops none [⟨some 72, .mv (.t 8), none⟩,
                 ⟨some 73, .mv (.t 0), none⟩,
                 ⟨some 74, .mv (.t 10), none⟩,
                 ⟨some 75, .iaddr 2 (.t 73) (.t 74), none⟩,
                 ⟨some 76, .load true 2 (.t 75), none⟩,
                 ⟨some 77, .bslice 2 1 [.int .i64 0, .int .i64 0] [(0, (.t 76))], none⟩,
                 ⟨some 78, .append 2 (.t 72) (.t 77), none⟩,
                 ⟨some 8, .mv (.t 78), none⟩])
                .skip)))
             (.ops none [⟨some 63, .mv (.t 10), none⟩,
              ⟨some 64, .bin .add (.t 63) (.c (.int .i64 1)), none⟩,
              ⟨some 10, .mv (.t 64), none⟩]))))))
        (.seq (.ops none [⟨some 79, .mv (.t 8), none⟩,
          ⟨some 6, .mv (.t 79), none⟩,
          ⟨some 7, .mv (.c (.bool true)), none⟩])
         .ret))))))))⟩
theorem cop14 : copF Try.prog raws [([0, 1, 2, 8, 9], [(8, none, 2)]), ([0, 2, 8, 10], [(8, none, 2)])] 14 = some ir14 := by kernel_rfl
/-- tenterhook/tenterhookref17.Due -/
def ir15 : F := ⟨41, [.t 4, .t 5],
 (.seq (.ops none [⟨some 4, .mv (.c (.nil)), none⟩,
   ⟨some 5, .mv (.c (.nil)), none⟩])
  (.seq (.ops none [⟨some 9, .mv (.t 0), none⟩,
    ⟨some 10, .call 31 false [] [(.t 9)], none⟩,
    ⟨some 0, .mv (.t 10), none⟩])
   (.seq (.ops none [⟨some 6, .mv (.c (.nil)), none⟩])
    (.seq (.ops none [⟨some 7, .mv (.c (.nil)), none⟩])
     (.seq (.seq (.ops none [⟨some 8, .mv (.c (.int .i64 0)), none⟩])
       (.block 0 (.loop [0, 1, 6, 7, 8] [(6, none, 2), (7, none, 1)]
         (.seq (.seq (.ops none [⟨some 11, .mv (.t 8), none⟩,
            ⟨some 12, .mv (.t 0), none⟩,
            ⟨some 13, .len false (.t 12), none⟩,
            ⟨some 14, .bin .lss (.t 11) (.t 13), none⟩])
           (.cond (.t 14)
            .skip
            (.exit 0)))
          (.seq (.block 1 (.seq (.ops none [⟨some 17, .mv (.t 0), none⟩,
              ⟨some 18, .mv (.t 8), none⟩,
              ⟨some 19, .iaddr 2 (.t 17) (.t 18), none⟩,
              ⟨some 20, .faddr 1 (.t 19), none⟩,
              ⟨some 21, .load false 1 (.t 20), none⟩,
              ⟨some 22, .mv (.t 1), none⟩,
              ⟨some 23, .bin .gtr (.t 21) (.t 22), none⟩])
             (.cond (.t 23)
              (.ops none [⟨some 24, .mv (.t 6), none⟩,
               ⟨some 25, .mv (.t 0), none⟩,
               ⟨some 26, .mv (.t 8), none⟩,
               ⟨some 27, .iaddr 2 (.t 25) (.t 26), none⟩,
               ⟨some 28, .load true 2 (.t 27), none⟩,
               ⟨some 29, .bslice 2 1 [.int .i64 0, .int .i64 0] [(0, (.t 28))], none⟩,
               ⟨some 30, .append 2 (.t 24) (.t 29), none⟩,
               ⟨some 6, .mv (.t 30), none⟩])
              (.ops none [⟨some 31, .mv (.t 7), none⟩,
               ⟨some 32, .mv (.t 0), none⟩,
               ⟨some 33, .mv (.t 8), none⟩,
               ⟨some 34, .iaddr 2 (.t 32) (.t 33), none⟩,
               ⟨some 35, .faddr 0 (.t 34), none⟩,
               ⟨some 36, .load false 1 (.t 35), none⟩,
               ⟨some 37, .bslice 1 1 [.int .i64 0] [(0, (.t 36))], none⟩,
               ⟨some 38, .append 1 (.t 31) (.t 37), none⟩,
               ⟨some 7, .mv (.t 38), none⟩]))))
           (.ops none [⟨some 15, .mv (.t 8), none⟩,
            ⟨some 16, .bin .add (.t 15) (.c (.int .i64 1)), none⟩,
            ⟨some 8, .mv (.t 16), none⟩]))))))
      (.seq (.ops none [⟨some 39, .mv (.t 6), none⟩,
        ⟨some 40, .mv (.t 7), none⟩,
        ⟨some 4, .mv (.t 39), none⟩,
        ⟨some 5, .mv (.t 40), none⟩])
       .ret))))))⟩
theorem cop15 : copF Try.prog raws [([0, 1, 6, 7, 8], [(6, none, 2), (7, none, 1)])] 15 = some ir15 := by kernel_rfl
/-- tenterhook/timer.Drop -/
def ir16 : F := ⟨20, [.t 4, .t 5],
 (.seq (.ops none [⟨some 4, .mv (.c (.nil)), none⟩,
   ⟨some 5, .mv (.c (.bool false)), none⟩])
  (.seq (.ops none [⟨some 7, .mv (.t 0), none⟩,
    ⟨some 8, .call 22 false [] [(.t 7)], none⟩,
    ⟨some 0, .mv (.t 8), none⟩])
   (.seq (.ops none [⟨some 9, .mv (.t 0), none⟩,
     ⟨some 10, .call 26 false [] [(.t 9)], none⟩,
     ⟨some 11, .mv (.t 1), none⟩,
     ⟨some 12, .call 25 false [] [(.t 11)], none⟩,
     ⟨some 13, .call 33 false [true, false] [(.t 10), (.t 12)], none⟩,
     ⟨some 6, .mv (.t 13), none⟩])
    (.seq (.ops none [⟨some 14, .mv (.t 6), none⟩,
      ⟨some 15, .mv (.t 6), none⟩,
      ⟨some 16, .len false (.t 15), none⟩,
      ⟨some 17, .mv (.t 0), none⟩,
      ⟨some 18, .len false (.t 17), none⟩,
      ⟨some 19, .bin .lss (.t 16) (.t 18), none⟩,
      ⟨some 4, .mv (.t 14), none⟩,
      ⟨some 5, .mv (.t 19), none⟩])
     .ret))))⟩
theorem cop16 : copF Try.prog raws [] 16 = some ir16 := by kernel_rfl
/-- tenterhook/tenterhookref17.Drop -/
def ir17 : F := ⟨36, [.t 4, .t 5],
 (.seq (.ops none [⟨some 4, .mv (.c (.nil)), none⟩,
   ⟨some 5, .mv (.c (.bool false)), none⟩])
  (.seq (.ops none [⟨some 8, .mv (.t 0), none⟩,
    ⟨some 9, .call 31 false [] [(.t 8)], none⟩,
    ⟨some 0, .mv (.t 9), none⟩])
   (.seq (.ops none [⟨some 6, .mv (.c (.nil)), none⟩])
    (.seq (.seq (.ops none [⟨some 7, .mv (.c (.int .i64 0)), none⟩])
      (.block 0 (.loop [0, 1, 6, 7] [(6, none, 2)]
        (.seq (.seq (.ops none [⟨some 10, .mv (.t 7), none⟩,
           ⟨some 11, .mv (.t 0), none⟩,
           ⟨some 12, .len false (.t 11), none⟩,
           ⟨some 13, .bin .lss (.t 10) (.t 12), none⟩])
          (.cond (.t 13)
           .skip
           (.exit 0)))
         (.seq (.block 1 (.seq (.ops none [⟨some 16, .mv (.t 0), none⟩,
             ⟨some 17, .mv (.t 7), none⟩,
             ⟨some 18, .iaddr 2 (.t 16) (.t 17), none⟩,
             ⟨some 19, .faddr 0 (.t 18), none⟩,
             ⟨some 20, .load false 1 (.t 19), none⟩,
             ⟨some 21, .mv (.t 1), none⟩,
             ⟨some 22, .bin .neq (.t 20) (.t 21), none⟩])
            (.cond (.t 22)
             (.ops none [⟨some 23, .mv (.t 6), none⟩,
              ⟨some 24, .mv (.t 0), none⟩,
              ⟨some 25, .mv (.t 7), none⟩,
              ⟨some 26, .iaddr 2 (.t 24) (.t 25), none⟩,
              ⟨some 27, .load true 2 (.t 26), none⟩,
              ⟨some 28, .bslice 2 1 [.int .i64 0, .int .i64 0] [(0, (.t 27))], none⟩,
              ⟨some 29, .append 2 (.t 23) (.t 28), none⟩,
              ⟨some 6, .mv (.t 29), none⟩])
             .skip)))
          (.ops none [⟨some 14, .mv (.t 7), none⟩,
           ⟨some 15, .bin .add (.t 14) (.c (.int .i64 1)), none⟩,
           ⟨some 7, .mv (.t 15), none⟩]))))))
     (.seq (.ops none [⟨some 30, .mv (.t 6), none⟩,
       ⟨some 31, .mv (.t 6), none⟩,
       ⟨some 32, .len false (.t 31), none⟩,
       ⟨some 33, .mv (.t 0), none⟩,
       ⟨some 34, .len false (.t 33), none⟩,
       ⟨some 35, .bin .lss (.t 32) (.t 34), none⟩,
       ⟨some 4, .mv (.t 30), none⟩,
       ⟨some 5, .mv (.t 35), none⟩])
      .ret)))))⟩
theorem cop17 : copF Try.prog raws [([0, 1, 6, 7], [(6, none, 2)])] 17 = some ir17 := by kernel_rfl
/-- tenterhook/timer.Next -/
def ir18 : F := ⟨13, [.t 2, .t 3],
 (.seq (.ops none [⟨some 2, .mv (.c (.int .i64 0)), none⟩,
   ⟨some 3, .mv (.c (.bool false)), none⟩])
  (.seq (.seq (.ops none [⟨some 4, .mv (.t 0), none⟩,
     ⟨some 5, .call 22 false [] [(.t 4)], none⟩,
     ⟨some 0, .mv (.t 5), none⟩])
    (.seq (.ops none [⟨some 6, .mv (.t 0), none⟩,
      ⟨some 7, .len false (.t 6), none⟩,
      ⟨some 8, .bin .gtr (.t 7) (.c (.int .i64 0)), none⟩])
     (.cond (.t 8)
      (.seq (.ops none [⟨some 9, .mv (.t 0), none⟩,
        ⟨some 10, .iaddr 2 (.t 9) (.c (.int .i64 0)), none⟩,
        ⟨some 11, .faddr 1 (.t 10), none⟩,
        ⟨some 12, .load false 1 (.t 11), none⟩,
        ⟨some 2, .mv (.t 12), none⟩,
        ⟨some 3, .mv (.c (.bool true)), none⟩])
       .ret)
      .skip)))
   (.seq (.ops none [⟨some 2, .mv (.c (.int .i64 0)), none⟩,
     ⟨some 3, .mv (.c (.bool false)), none⟩])
    .ret)))⟩
theorem cop18 : copF Try.prog raws [] 18 = some ir18 := by kernel_rfl
/-- tenterhook/tenterhookref17.Next -/
def ir19 : F := ⟨13, [.t 2, .t 3],
 (.seq (.ops none [⟨some 2, .mv (.c (.int .i64 0)), none⟩,
   ⟨some 3, .mv (.c (.bool false)), none⟩])
  (.seq (.ops none [⟨some 4, .mv (.t 0), none⟩,
    ⟨some 5, .call 31 false [] [(.t 4)], none⟩,
    ⟨some 0, .mv (.t 5), none⟩])
   (.seq (.seq (.ops none [⟨some 6, .mv (.t 0), none⟩,
      ⟨some 7, .len false (.t 6), none⟩,
      ⟨some 8, .bin .eql (.t 7) (.c (.int .i64 0)), none⟩])
     (.cond (.t 8)
      (.seq (.ops none [⟨some 2, .mv (.c (.int .i64 0)), none⟩,
        ⟨some 3, .mv (.c (.bool false)), none⟩])
       .ret)
      .skip))
    (.seq (.ops none [⟨some 9, .mv (.t 0), none⟩,
      ⟨some 10, .iaddr 2 (.t 9) (.c (.int .i64 0)), none⟩,
      ⟨some 11, .faddr 1 (.t 10), none⟩,
      ⟨some 12, .load false 1 (.t 11), none⟩,
      ⟨some 2, .mv (.t 12), none⟩,
      ⟨some 3, .mv (.c (.bool true)), none⟩])
     .ret))))⟩
theorem cop19 : copF Try.prog raws [] 19 = some ir19 := by kernel_rfl
/-- tenterhook/tenterhookref04.Same -/
def ir20 : F := ⟨26, [.t 4],
 (.seq (.ops none [⟨some 4, .mv (.c (.bool false)), none⟩])
  (.seq (.seq (.ops none [⟨some 6, .mv (.t 0), none⟩,
     ⟨some 7, .len false (.t 6), none⟩,
     ⟨some 8, .mv (.t 1), none⟩,
     ⟨some 9, .len false (.t 8), none⟩,
     ⟨some 10, .bin .neq (.t 7) (.t 9), none⟩])
    (.cond (.t 10)
     (.seq (.ops none [⟨some 4, .mv (.c (.bool false)), none⟩])
      .ret)
     .skip))
   (.seq (.seq (.ops none [⟨some 5, .mv (.c (.int .i64 0)), none⟩])
     (.block 0 (.loop [0, 1, 5] []
       (.seq (.seq (.ops none [⟨some 11, .mv (.t 5), none⟩,
          ⟨some 12, .mv (.t 0), none⟩,
          ⟨some 13, .len false (.t 12), none⟩,
          ⟨some 14, .bin .lss (.t 11) (.t 13), none⟩])
         (.cond (.t 14)
          .skip
          (.exit 0)))
        (.seq (.block 1 (.seq (.ops (some []) [⟨some 17, .mv (.t 0), none⟩,
            ⟨some 18, .mv (.t 5), none⟩,
            ⟨some 19, .iaddr 1 (.t 17) (.t 18), none⟩,
            ⟨some 20, .load false 1 (.t 19), none⟩,
            ⟨some 21, .mv (.t 1), none⟩,
            ⟨some 22, .mv (.t 5), none⟩,
            ⟨some 23, .iaddr 1 (.t 21) (.t 22), none⟩,
            ⟨some 24, .load false 1 (.t 23), none⟩,
            ⟨some 25, .bin .neq (.t 20) (.t 24), none⟩])
           (.cond (.t 25)
            (.seq (.ops none [⟨some 4, .mv (.c (.bool false)), none⟩])
             .ret)
            .skip)))
         (.ops none [⟨some 15, .mv (.t 5), none⟩,
          ⟨some 16, .bin .add (.t 15) (.c (.int .i64 1)), none⟩,
          ⟨some 5, .mv (.t 16), none⟩]))))))
    (.seq (.ops none [⟨some 4, .mv (.c (.bool true)), none⟩])
     .ret))))⟩
theorem cop20 : copF Try.prog raws [([0, 1, 5], [])] 20 = some ir20 := by kernel_rfl
/-- tenterhook/tenterhookref17.Sane -/
def ir21 : F := ⟨78, [.t 2],
 (.seq (.ops none [⟨some 2, .mv (.c (.bool false)), none⟩])
  (.seq (.seq (.ops none [⟨some 3, .mv (.c (.int .i64 0)), none⟩])
    (.block 0 (.loop [0, 3] []
      (.seq (.seq (.ops none [⟨some 5, .mv (.t 3), none⟩,
         ⟨some 6, .mv (.t 0), none⟩,
         ⟨some 7, .len false (.t 6), none⟩,
         ⟨some 8, .bin .lss (.t 5) (.t 7), none⟩])
        (.cond (.t 8)
         .skip
         (.exit 0)))
       (.seq (.block 1 (.seq (.seq (.ops (some []) [⟨some 11, .mv (.t 0), none⟩,
            ⟨some 12, .mv (.t 3), none⟩,
            ⟨some 13, .iaddr 2 (.t 11) (.t 12), none⟩,
            ⟨some 14, .faddr 0 (.t 13), none⟩,
            ⟨some 15, .load false 1 (.t 14), none⟩,
            ⟨some 16, .bin .lss (.t 15) (.c (.int .i64 0)), none⟩,
            ⟨some 17, .mv (.t 16), none⟩,
            ⟨some 18, .mv (.t 0), some (17, false)⟩,
            ⟨some 19, .mv (.t 3), some (17, false)⟩,
            ⟨some 20, .iaddr 2 (.t 18) (.t 19), some (17, false)⟩,
            ⟨some 21, .faddr 0 (.t 20), some (17, false)⟩,
            ⟨some 22, .load false 1 (.t 21), some (17, false)⟩,
            ⟨some 23, .bin .gtr (.t 22) (.c (.int .i64 7)), some (17, false)⟩,
            ⟨some 24, .pick (.t 17) (.c (.bool true)) (.t 23), none⟩,
            ⟨some 25, .mv (.t 24), none⟩,
            ⟨some 26, .mv (.t 0), some (25, false)⟩,
            ⟨some 27, .mv (.t 3), some (25, false)⟩,
            ⟨some 28, .iaddr 2 (.t 26) (.t 27), some (25, false)⟩,
            ⟨some 29, .faddr 1 (.t 28), some (25, false)⟩,
            ⟨some 30, .load false 1 (.t 29), some (25, false)⟩,
            ⟨some 31, .bin .lss (.t 30) (.c (.int .i64 0)), some (25, false)⟩,
            ⟨some 32, .pick (.t 25) (.c (.bool true)) (.t 31), none⟩,
            ⟨some 33, .mv (.t 32), none⟩,
            ⟨some 34, .mv (.t 0), some (33, false)⟩,
            ⟨some 35, .mv (.t 3), some (33, false)⟩,
            ⟨some 36, .iaddr 2 (.t 34) (.t 35), some (33, false)⟩,
            ⟨some 37, .faddr 1 (.t 36), some (33, false)⟩,
            ⟨some 38, .load false 1 (.t 37), some (33, false)⟩,
            ⟨some 39, .bin .gtr (.t 38) (.c (.int .i64 1125899906842624)), some (33, false)⟩,
            ⟨some 40, .pick (.t 33) (.c (.bool true)) (.t 39), none⟩,
            ⟨some 41, .mv (.t 40), none⟩,
            ⟨some 42, .mv (.t 3), some (41, false)⟩,
            ⟨some 43, .bin .gtr (.t 42) (.c (.int .i64 0)), some (41, false)⟩,
            ⟨some 44, .mv (.t 43), some (41, false)⟩,
            ⟨some 45, .mv (.t 0), some (44, true)⟩,
            ⟨some 46, .mv (.t 3), some (44, true)⟩,
            ⟨some 47, .iaddr 2 (.t 45) (.t 46), some (44, true)⟩,
            ⟨some 48, .faddr 1 (.t 47), some (44, true)⟩,
            ⟨some 49, .load false 1 (.t 48), some (44, true)⟩,
            ⟨some 50, .mv (.t 0), some (44, true)⟩,
            ⟨some 51, .mv (.t 3), some (44, true)⟩,
            ⟨some 52, .bin .sub (.t 51) (.c (.int .i64 1)), some (44, true)⟩,
            ⟨some 53, .iaddr 2 (.t 50) (.t 52), some (44, true)⟩,
            ⟨some 54, .faddr 1 (.t 53), some (44, true)⟩,
            ⟨some 55, .load false 1 (.t 54), some (44, true)⟩,
            ⟨some 56, .bin .lss (.t 49) (.t 55), some (44, true)⟩,
            ⟨some 57, .pick (.t 44) (.t 56) (.c (.bool false)), some (41, false)⟩,
            ⟨some 58, .pick (.t 41) (.c (.bool true)) (.t 57), none⟩])
           (.cond (.t 58)
            (.seq (.ops none [⟨some 2, .mv (.c (.bool false)), none⟩])
             .ret)
            .skip))
          (.seq (.ops none [⟨some 4, .mv (.c (.int .i64 0)), none⟩])
           (.block 2 (.loop [0, 3, 4] []
             (.seq (.seq (.ops none [⟨some 59, .mv (.t 4), none⟩,
                ⟨some 60, .mv (.t 3), none⟩,
                ⟨some 61, .bin .lss (.t 59) (.t 60), none⟩])
               (.cond (.t 61)
                .skip
                (.exit 2)))
              (.seq (.block 3 (.seq (.ops (some []) [⟨some 64, .mv (.t 0), none⟩,
                  ⟨some 65, .mv (.t 4), none⟩,
                  ⟨some 66, .iaddr 2 (.t 64) (.t 65), none⟩,
                  ⟨some 67, .faddr 0 (.t 66), none⟩,
                  ⟨some 68, .load false 1 (.t 67), none⟩,
                  ⟨some 69, .mv (.t 0), none⟩,
                  ⟨some 70, .mv (.t 3), none⟩,
                  ⟨some 71, .iaddr 2 (.t 69) (.t 70), none⟩,
                  ⟨some 72, .faddr 0 (.t 71), none⟩,
                  ⟨some 73, .load false 1 (.t 72), none⟩,
                  ⟨some 74, .bin .eql (.t 68) (.t 73), none⟩])
                 (.cond (.t 74)
                  (.seq (.ops none [⟨some 2, .mv (.c (.bool false)), none⟩])
                   .ret)
                  .skip)))
               (.ops none [⟨some 62, .mv (.t 4), none⟩,
                ⟨some 63, .bin .add (.t 62) (.c (.int .i64 1)), none⟩,
                ⟨some 4, .mv (.t 63), none⟩]))))))))
        (.ops none [⟨some 9, .mv (.t 3), none⟩,
         ⟨some 10, .bin .add (.t 9) (.c (.int .i64 1)), none⟩,
         ⟨some 3, .mv (.t 10), none⟩]))))))
   (.seq (.ops none [⟨some 75, .mv (.t 0), none⟩,
     ⟨some 76, .len false (.t 75), none⟩,
     ⟨some 77, .bin .leq (.t 76) (.c (.int .i64 8)), none⟩,
     ⟨some 2, .mv (.t 77), none⟩])
    .ret)))⟩
theorem cop21 : copF Try.prog raws [([0, 3], []), ([0, 3, 4], [])] 21 = some ir21 := by kernel_rfl
/-- tenterhook/timer.sane -/
def ir22 : F := ⟨7, [.t 2],
 (.seq (.ops none [⟨some 2, .mv (.c (.nil)), none⟩])
  (.seq (.seq (.ops none [⟨some 3, .mv (.t 0), none⟩,
     ⟨some 4, .call 10 true [] [(.t 3)], none⟩,
     ⟨some 5, .un .not (.t 4), none⟩])
    (.cond (.t 5)
     (.seq (.ops none [⟨some 2, .mv (.c (.nil)), none⟩])
      .ret)
     .skip))
   (.seq (.ops none [⟨some 6, .mv (.t 0), none⟩,
     ⟨some 2, .mv (.t 6), none⟩])
    .ret)))⟩
theorem cop22 : copF Try.prog raws [] 22 = some ir22 := by kernel_rfl
/-- (tenterhook/timer.Nap).may -/
def ir23 : F := ⟨11, [.t 2],
 (.seq (.ops none [⟨some 1, .box (.t 0), none⟩,
   ⟨some 2, .mv (.c (.bool false)), none⟩])
  (.seq (.ops none [⟨some 3, .faddr 0 (.t 1), none⟩,
    ⟨some 4, .load false 1 (.t 3), none⟩,
    ⟨some 5, .call 34 true [] [(.t 4), (.c (.int .i64 7))], none⟩,
    ⟨some 6, .mv (.t 5), none⟩,
    ⟨some 7, .faddr 1 (.t 1), some (6, true)⟩,
    ⟨some 8, .load false 1 (.t 7), some (6, true)⟩,
    ⟨some 9, .call 34 true [] [(.t 8), (.c (.int .i64 1125899906842624))], some (6, true)⟩,
    ⟨some 10, .pick (.t 6) (.t 9) (.c (.bool false)), none⟩,
    ⟨some 2, .mv (.t 10), none⟩])
   .ret))⟩
theorem cop23 : copF Try.prog raws [] 23 = some ir23 := by kernel_rfl
/-- slices.ContainsFunc[[]tenterhook/timer.Nap,tenterhook/timer.Nap] -/
def ir24 : F := ⟨9, [.t 4],
 (.seq (.ops none [⟨some 4, .mv (.c (.bool false)), none⟩])
  (.seq (.ops none [⟨some 5, .mv (.t 0), none⟩,
    ⟨some 6, .mv (.t 1), none⟩,
    ⟨some 7, .call 35 true [] [(.t 5), (.t 6)], none⟩,
    ⟨some 8, .bin .geq (.t 7) (.c (.int .i64 0)), none⟩,
    ⟨some 4, .mv (.t 8), none⟩])
   .ret))⟩
theorem cop24 : copF Try.prog raws [] 24 = some ir24 := by kernel_rfl
/-- tenterhook/timer.is -/
def ir25 : F := ⟨4, [.t 2],
 (.seq (.ops none [⟨some 1, .box (.t 0), none⟩,
   ⟨some 2, .mv (.c (.nilfn)), none⟩])
  (.seq (.ops none [⟨some 3, .mkfunc 36 [] [(.t 1)], none⟩,
    ⟨some 2, .mv (.t 3), none⟩])
   .ret))⟩
theorem cop25 : copF Try.prog raws [] 25 = some ir25 := by kernel_rfl
/-- slices.Clone[[]tenterhook/timer.Nap,tenterhook/timer.Nap] -/
def ir26 : F := ⟨8, [.t 2],
 (.seq (.ops none [⟨some 2, .mv (.c (.nil)), none⟩])
  (.seq (.seq (.ops none [⟨some 3, .mv (.t 0), none⟩,
     ⟨some 4, .eqNil false false (.t 3), none⟩])
    (.cond (.t 4)
     (.seq (.ops none [⟨some 2, .mv (.c (.nil)), none⟩])
      .ret)
     .skip))
   (.seq (.ops none [⟨some 5, .bslice 2 0 [.int .i64 0, .int .i64 0] [], none⟩,
     ⟨some 6, .mv (.t 0), none⟩,
     ⟨some 7, .append 2 (.t 5) (.t 6), none⟩,
     ⟨some 2, .mv (.t 7), none⟩])
    .ret)))⟩
theorem cop26 : copF Try.prog raws [] 26 = some ir26 := by kernel_rfl
/-- slices.SortStableFunc[[]tenterhook/timer.Nap,tenterhook/timer.Nap] -/
def ir27 : F := ⟨9, [],
 (.ops none [⟨some 4, .mv (.t 0), none⟩,
  ⟨some 5, .mv (.t 0), none⟩,
  ⟨some 6, .len false (.t 5), none⟩,
  ⟨some 7, .mv (.t 1), none⟩,
  ⟨some 8, .call 37 false [true, false, false] [(.t 4), (.t 6), (.t 7)], none⟩])⟩
theorem cop27 : copF Try.prog raws [] 27 = some ir27 := by kernel_rfl
/-- tenterhook/timer.byWake -/
def ir28 : F := ⟨10, [.t 4],
 (.seq (.ops none [⟨some 2, .box (.t 0), none⟩,
   ⟨some 3, .box (.t 1), none⟩,
   ⟨some 4, .mv (.c (.int .i64 0)), none⟩])
  (.seq (.ops none [⟨some 5, .faddr 1 (.t 2), none⟩,
    ⟨some 6, .load false 1 (.t 5), none⟩,
    ⟨some 7, .faddr 1 (.t 3), none⟩,
    ⟨some 8, .load false 1 (.t 7), none⟩,
    ⟨some 9, .call 38 true [] [(.t 6), (.t 8)], none⟩,
    ⟨some 4, .mv (.t 9), none⟩])
   .ret))⟩
theorem cop28 : copF Try.prog raws [] 28 = some ir28 := by kernel_rfl
/-- tenterhook/timer.due -/
def ir29 : F := ⟨6, [.t 4],
 (.seq (.ops none [⟨some 2, .box (.t 0), none⟩,
   ⟨some 3, .box (.t 1), none⟩,
   ⟨some 4, .mv (.c (.nilfn)), none⟩])
  (.seq (.ops none [⟨some 5, .mkfunc 39 [] [(.t 2), (.t 3)], none⟩,
    ⟨some 4, .mv (.t 5), none⟩])
   .ret))⟩
theorem cop29 : copF Try.prog raws [] 29 = some ir29 := by kernel_rfl
/-- slices.IsSortedFunc[[]tenterhook/timer.Nap,tenterhook/timer.Nap] -/
def ir30 : F := ⟨25, [.t 4],
 (.seq (.ops none [⟨some 4, .mv (.c (.bool false)), none⟩])
  (.seq (.seq (.ops none [⟨some 6, .mv (.t 0), none⟩,
     ⟨some 7, .len false (.t 6), none⟩,
     ⟨some 8, .bin .sub (.t 7) (.c (.int .i64 1)), none⟩,
     ⟨some 5, .mv (.t 8), none⟩])
    (.block 0 (.loop [0, 1, 5] []
      (.seq (.seq (.ops none [⟨some 9, .mv (.t 5), none⟩,
         ⟨some 10, .bin .gtr (.t 9) (.c (.int .i64 0)), none⟩])
        (.cond (.t 10)
         .skip
         (.exit 0)))
       (.seq (.block 1 (.seq (.ops (some []) [⟨some 13, .mv (.t 1), none⟩,
           ⟨some 14, .mv (.t 0), none⟩,
           ⟨some 15, .mv (.t 5), none⟩,
           ⟨some 16, .iaddr 2 (.t 14) (.t 15), none⟩,
           ⟨some 17, .load true 2 (.t 16), none⟩,
           ⟨some 18, .mv (.t 0), none⟩,
           ⟨some 19, .mv (.t 5), none⟩,
           ⟨some 20, .bin .sub (.t 19) (.c (.int .i64 1)), none⟩,
           ⟨some 21, .iaddr 2 (.t 18) (.t 20), none⟩,
           ⟨some 22, .load true 2 (.t 21), none⟩,
           ⟨some 23, .callv false [] (.t 13) [(.t 17), (.t 22)], none⟩,
           ⟨some 24, .bin .lss (.t 23) (.c (.int .i64 0)), none⟩])
          (.cond (.t 24)
           (.seq (.ops none [⟨some 4, .mv (.c (.bool false)), none⟩])
            .ret)
           .skip)))
        (.ops none [⟨some 11, .mv (.t 5), none⟩,
         ⟨some 12, .bin .sub (.t 11) (.c (.int .i64 1)), none⟩,
         ⟨some 5, .mv (.t 12), none⟩]))))))
   (.seq (.ops none [⟨some 4, .mv (.c (.bool true)), none⟩])
    .ret)))⟩
theorem cop30 : copF Try.prog raws [([0, 1, 5], [])] 30 = some ir30 := by kernel_rfl
/-- tenterhook/tenterhookref17.sane -/
def ir31 : F := ⟨7, [.t 2],
 (.seq (.ops none [⟨some 2, .mv (.c (.nil)), none⟩])
  (.seq (.seq (.ops none [⟨some 3, .mv (.t 0), none⟩,
     ⟨some 4, .call 21 true [] [(.t 3)], none⟩,
     ⟨some 5, .un .not (.t 4), none⟩])
    (.cond (.t 5)
     (.seq (.ops none [⟨some 2, .mv (.c (.nil)), none⟩])
      .ret)
     .skip))
   (.seq (.ops none [⟨some 6, .mv (.t 0), none⟩,
     ⟨some 2, .mv (.t 6), none⟩])
    .ret)))⟩
theorem cop31 : copF Try.prog raws [] 31 = some ir31 := by kernel_rfl
/-- tenterhook/tenterhookref17.has -/
def ir32 : F := ⟨19, [.t 4],
 (.seq (.ops none [⟨some 4, .mv (.c (.bool false)), none⟩])
  (.seq (.seq (.ops none [⟨some 5, .mv (.c (.int .i64 0)), none⟩])
    (.block 0 (.loop [0, 1, 5] []
      (.seq (.seq (.ops none [⟨some 6, .mv (.t 5), none⟩,
         ⟨some 7, .mv (.t 0), none⟩,
         ⟨some 8, .len false (.t 7), none⟩,
         ⟨some 9, .bin .lss (.t 6) (.t 8), none⟩])
        (.cond (.t 9)
         .skip
         (.exit 0)))
       (.seq (.block 1 (.seq (.ops none [⟨some 12, .mv (.t 0), none⟩,
           ⟨some 13, .mv (.t 5), none⟩,
           ⟨some 14, .iaddr 2 (.t 12) (.t 13), none⟩,
           ⟨some 15, .faddr 0 (.t 14), none⟩,
           ⟨some 16, .load false 1 (.t 15), none⟩,
           ⟨some 17, .mv (.t 1), none⟩,
           ⟨some 18, .bin .eql (.t 16) (.t 17), none⟩])
          (.cond (.t 18)
           (.seq (.ops none [⟨some 4, .mv (.c (.bool true)), none⟩])
            .ret)
           .skip)))
        (.ops none [⟨some 10, .mv (.t 5), none⟩,
         ⟨some 11, .bin .add (.t 10) (.c (.int .i64 1)), none⟩,
         ⟨some 5, .mv (.t 11), none⟩]))))))
   (.seq (.ops none [⟨some 4, .mv (.c (.bool false)), none⟩])
    .ret)))⟩
theorem cop32 : copF Try.prog raws [([0, 1, 5], [])] 32 = some ir32 := by kernel_rfl
/-- slices.DeleteFunc[[]tenterhook/timer.Nap,tenterhook/timer.Nap] -/
def ir33 : F := ⟨42, [.t 4],
 (.seq (.ops none [⟨some 4, .mv (.c (.nil)), none⟩])
  (.seq (.ops none [⟨some 8, .mv (.t 0), none⟩,
    ⟨some 9, .mv (.t 1), none⟩,
    ⟨some 10, .call 35 true [] [(.t 8), (.t 9)], none⟩,
    ⟨some 5, .mv (.t 10), none⟩])
   (.seq (.seq (.ops none [⟨some 11, .mv (.t 5), none⟩,
      ⟨some 12, .bin .eql (.t 11) (.c (.int .i64 (-1))), none⟩])
     (.cond (.t 12)
      (.seq (.ops none [⟨some 13, .mv (.t 0), none⟩,
        ⟨some 4, .mv (.t 13), none⟩])
       .ret)
      .skip))
    (.seq (.seq (.ops none [⟨some 14, .mv (.t 5), none⟩,
       ⟨some 15, .bin .add (.t 14) (.c (.int .i64 1)), none⟩,
       ⟨some 6, .mv (.t 15), none⟩])
      (.block 0 (.loop [0, 1, 5, 6] []
        (.seq (.seq (.ops none [⟨some 16, .mv (.t 6), none⟩,
           ⟨some 17, .mv (.t 0), none⟩,
           ⟨some 18, .len false (.t 17), none⟩,
           ⟨some 19, .bin .lss (.t 16) (.t 18), none⟩])
          (.cond (.t 19)
           .skip
           (.exit 0)))
         (.seq (.block 1 (.seq (.ops none [⟨some 22, .mv (.t 0), none⟩,
             ⟨some 23, .mv (.t 6), none⟩,
             ⟨some 24, .iaddr 2 (.t 22) (.t 23), none⟩,
             ⟨some 25, .load true 2 (.t 24), none⟩,
             ⟨some 7, .alloc [.int .i64 0, .int .i64 0], none⟩,
             ⟨none, .store 2 (.t 7) (.t 25), none⟩])
            (.seq (.ops none [⟨some 26, .mv (.t 1), none⟩,
              ⟨some 27, .load true 2 (.t 7), none⟩,
              ⟨some 28, .callv false [] (.t 26) [(.t 27)], none⟩,
              ⟨some 29, .un .not (.t 28), none⟩])
             (.cond (.t 29)
              (.seq (.ops none [⟨some 30, .mv (.t 0), none⟩,
                ⟨some 31, .mv (.t 5), none⟩,
                ⟨some 32, .load true 2 (.t 7), none⟩,
                ⟨some 33, .iaddr 2 (.t 30) (.t 31), none⟩,
                ⟨none, .store 2 (.t 33) (.t 32), none⟩])
               (.ops none [⟨some 34, .mv (.t 5), none⟩,
                ⟨some 35, .bin .add (.t 34) (.c (.int .i64 1)), none⟩,
                ⟨some 5, .mv (.t 35), none⟩]))
              .skip))))
          (.ops none [⟨some 20, .mv (.t 6), none⟩,
           ⟨some 21, .bin .add (.t 20) (.c (.int .i64 1)), none⟩,
           ⟨some 6, .mv (.t 21), none⟩]))))))
     (.seq (.ops none [⟨some 36, .mv (.t 0), none⟩,
       ⟨some 37, .mv (.t 5), none⟩,
       ⟨some 38, .slice false 2 (.t 36) (some (.t 37)) none none, none⟩,
       ⟨none, .clear 2 [.int .i64 0, .int .i64 0] (.t 38), none⟩])
      (.seq (.ops none [⟨some 39, .mv (.t 0), none⟩,
        ⟨some 40, .mv (.t 5), none⟩,
        ⟨some 41, .slice false 2 (.t 39) none (some (.t 40)) none, none⟩,
        ⟨some 4, .mv (.t 41), none⟩])
       .ret))))))⟩
theorem cop33 : copF Try.prog raws [([0, 1, 5, 6], [])] 33 = some ir33 := by kernel_rfl
/-- tenterhook/timer.within -/
def ir34 : F := ⟨12, [.t 4],
 (.seq (.ops none [⟨some 4, .mv (.c (.bool false)), none⟩])
  (.seq (.ops none [⟨some 5, .mv (.t 0), none⟩,
    ⟨some 6, .bin .geq (.t 5) (.c (.int .i64 0)), none⟩,
    ⟨some 7, .mv (.t 6), none⟩,
    ⟨some 8, .mv (.t 0), some (7, true)⟩,
    ⟨some 9, .mv (.t 1), some (7, true)⟩,
    ⟨some 10, .bin .leq (.t 8) (.t 9), some (7, true)⟩,
    ⟨some 11, .pick (.t 7) (.t 10) (.c (.bool false)), none⟩,
    ⟨some 4, .mv (.t 11), none⟩])
   .ret))⟩
theorem cop34 : copF Try.prog raws [] 34 = some ir34 := by kernel_rfl
/-- slices.IndexFunc[[]tenterhook/timer.Nap,tenterhook/timer.Nap] -/
def ir35 : F := ⟨19, [.t 4],
 (.seq (.ops none [⟨some 4, .mv (.c (.int .i64 0)), none⟩])
  (.seq (.seq (.ops none [⟨some 6, .mv (.t 0), none⟩,
     ⟨some 7, .len false (.t 6), none⟩,
     ⟨some 8, .mv (.c (.int .i64 0)), none⟩])
    (.block 0 (.loop [0, 1, 7, 8] []
      (.seq (.ops none [⟨some 9, .bin .lss (.t 8) (.t 7), none⟩])
       (.seq (.cond (.t 9)
         .skip
         (.exit 0))
        (.seq (.block 1 (.seq (.ops none [⟨some 10, .mv (.t 8), none⟩,
            ⟨some 5, .mv (.t 10), none⟩])
           (.seq (.ops none [⟨some 11, .mv (.t 1), none⟩,
             ⟨some 12, .mv (.t 0), none⟩,
             ⟨some 13, .mv (.t 5), none⟩,
             ⟨some 14, .iaddr 2 (.t 12) (.t 13), none⟩,
             ⟨some 15, .load true 2 (.t 14), none⟩,
             ⟨some 16, .callv false [] (.t 11) [(.t 15)], none⟩])
            (.cond (.t 16)
             (.seq (.ops none [⟨some 17, .mv (.t 5), none⟩,
               ⟨some 4, .mv (.t 17), none⟩])
              .ret)
             .skip))))
         (.ops none [⟨some 18, .bin .add (.t 8) (.c (.int .i64 1)), none⟩,
          ⟨some 8, .mv (.t 18), none⟩])))))))
   (.seq (.ops none [⟨some 4, .mv (.c (.int .i64 (-1))), none⟩])
    .ret)))⟩
theorem cop35 : copF Try.prog raws [([0, 1, 7, 8], [])] 35 = some ir35 := by kernel_rfl
/-- tenterhook/timer.is$1 -/
def ir36 : F := ⟨8, [.t 3],
 (.seq (.ops none [⟨some 2, .box (.t 0), none⟩,
   ⟨some 3, .mv (.c (.bool false)), none⟩])
  (.seq (.ops none [⟨some 4, .faddr 0 (.t 2), none⟩,
    ⟨some 5, .load false 1 (.t 4), none⟩,
    ⟨some 6, .load false 1 (.t 1), none⟩,
    ⟨some 7, .bin .eql (.t 5) (.t 6), none⟩,
    ⟨some 3, .mv (.t 7), none⟩])
   .ret))⟩
theorem cop36 : copF Try.prog raws [] 36 = some ir36 := by kernel_rfl
/-- slices.stableCmpFunc[tenterhook/timer.Nap] -/
def ir37 : F := ⟨63, [],
 (.seq (.ops none [⟨some 6, .mv (.c (.int .i64 20)), none⟩])
  (.seq (.ops none [⟨some 10, .mv (.t 6), none⟩,
    ⟨some 7, .mv (.c (.int .i64 0)), none⟩,
    ⟨some 8, .mv (.t 10), none⟩])
   (.seq (.block 0 (.loop [0, 1, 2, 6, 7, 8] []
      (.seq (.seq (.ops none [⟨some 11, .mv (.t 8), none⟩,
         ⟨some 12, .mv (.t 1), none⟩,
         ⟨some 13, .bin .leq (.t 11) (.t 12), none⟩])
        (.cond (.t 13)
         .skip
         (.exit 0)))
       (.block 1 (.seq (.ops none [⟨some 14, .mv (.t 0), none⟩,
          ⟨some 15, .mv (.t 7), none⟩,
          ⟨some 16, .mv (.t 8), none⟩,
          ⟨some 17, .mv (.t 2), none⟩,
          ⟨some 18, .call 40 false [true, false, false, false] [(.t 14), (.t 15), (.t 16), (.t 17)], none⟩])
         (.seq (.ops none [⟨some 19, .mv (.t 8), none⟩,
           ⟨some 7, .mv (.t 19), none⟩])
          (.ops none [⟨some 20, .mv (.t 8), none⟩,
           ⟨some 21, .mv (.t 6), none⟩,
           ⟨some 22, .bin .add (.t 20) (.t 21), none⟩,
           ⟨some 8, .mv (.t 22), none⟩])))))))
    (.seq (.ops none [⟨some 23, .mv (.t 0), none⟩,
      ⟨some 24, .mv (.t 7), none⟩,
      ⟨some 25, .mv (.t 1), none⟩,
      ⟨some 26, .mv (.t 2), none⟩,
      ⟨some 27, .call 40 false [true, false, false, false] [(.t 23), (.t 24), (.t 25), (.t 26)], none⟩])
     (.block 2 (.loop [0, 1, 2, 6] []
       (.seq (.seq (.ops none [⟨some 28, .mv (.t 6), none⟩,
          ⟨some 29, .mv (.t 1), none⟩,
          ⟨some 30, .bin .lss (.t 28) (.t 29), none⟩])
         (.cond (.t 30)
          .skip
          (.exit 2)))
        (.block 3 (.seq (.ops none [⟨some 31, .mv (.t 6), none⟩,
           ⟨some 32, .bin .mul (.c (.int .i64 2)) (.t 31), none⟩,
           ⟨some 7, .mv (.c (.int .i64 0)), none⟩,
           ⟨some 8, .mv (.t 32), none⟩])
          (.seq (.block 4 (.loop [0, 1, 2, 6, 7, 8] []
             (.seq (.seq (.ops none [⟨some 33, .mv (.t 8), none⟩,
                ⟨some 34, .mv (.t 1), none⟩,
                ⟨some 35, .bin .leq (.t 33) (.t 34), none⟩])
               (.cond (.t 35)
                .skip
                (.exit 4)))
              (.block 5 (.seq (.ops none [⟨some 36, .mv (.t 0), none⟩,
                 ⟨some 37, .mv (.t 7), none⟩,
                 ⟨some 38, .mv (.t 7), none⟩,
                 ⟨some 39, .mv (.t 6), none⟩,
                 ⟨some 40, .bin .add (.t 38) (.t 39), none⟩,
                 ⟨some 41, .mv (.t 8), none⟩,
                 ⟨some 42, .mv (.t 2), none⟩,
                 ⟨some 43, .call 41 false [true, false, false, false, false] [(.t 36), (.t 37), (.t 40), (.t 41), (.t 42)], none⟩])
                (.seq (.ops none [⟨some 44, .mv (.t 8), none⟩,
                  ⟨some 7, .mv (.t 44), none⟩])
                 (.ops none [⟨some 45, .mv (.t 8), none⟩,
                  ⟨some 46, .mv (.t 6), none⟩,
                  ⟨some 47, .bin .mul (.c (.int .i64 2)) (.t 46), none⟩,
                  ⟨some 48, .bin .add (.t 45) (.t 47), none⟩,
                  ⟨some 8, .mv (.t 48), none⟩])))))))
           (.seq (.seq (.ops none [⟨some 49, .mv (.t 7), none⟩,
              ⟨some 50, .mv (.t 6), none⟩,
              ⟨some 51, .bin .add (.t 49) (.t 50), none⟩,
              ⟨some 9, .mv (.t 51), none⟩])
             (.seq (.ops none [⟨some 52, .mv (.t 9), none⟩,
               ⟨some 53, .mv (.t 1), none⟩,
               ⟨some 54, .bin .lss (.t 52) (.t 53), none⟩])
              (.cond (.t 54)
               (.ops none [⟨some 55, .mv (.t 0), none⟩,
                ⟨some 56, .mv (.t 7), none⟩,
                ⟨some 57, .mv (.t 9), none⟩,
                ⟨some 58, .mv (.t 1), none⟩,
                ⟨some 59, .mv (.t 2), none⟩,
                ⟨some 60, .call 41 false [true, false, false, false, false] [(.t 55), (.t 56), (.t 57), (.t 58), (.t 59)], none⟩])
               .skip)))
            (.ops none [⟨some 61, .mv (.t 6), none⟩,
             ⟨some 62, .bin .mul (.t 61) (.c (.int .i64 2)), none⟩,
             ⟨some 6, .mv (.t 62), none⟩]))))))))))))⟩
theorem cop37 : copF Try.prog raws [([0, 1, 2, 6, 7, 8], []), ([0, 1, 2, 6], []), ([0, 1, 2, 6, 7, 8], [])] 37 = some ir37 := by kernel_rfl
/-- cmp.Compare[int] -/
def ir38 : F := ⟨20, [.t 4],
 (.seq (.ops none [⟨some 4, .mv (.c (.int .i64 0)), none⟩])
  (.seq (.ops none [⟨some 7, .mv (.t 0), none⟩,
    ⟨some 8, .call 42 true [] [(.t 7)], none⟩,
    ⟨some 5, .mv (.t 8), none⟩])
   (.seq (.ops none [⟨some 9, .mv (.t 1), none⟩,
     ⟨some 10, .call 42 true [] [(.t 9)], none⟩,
     ⟨some 6, .mv (.t 10), none⟩])
    (.seq (.seq (.ops none [⟨some 11, .mv (.t 5), none⟩])
      (.cond (.t 11)
       (.seq (.seq (.ops none [⟨some 12, .mv (.t 6), none⟩])
         (.cond (.t 12)
          (.seq (.ops none [⟨some 4, .mv (.c (.int .i64 0)), none⟩])
           .ret)
          .skip))
        (.seq (.ops none [⟨some 4, .mv (.c (.int .i64 (-1))), none⟩])
         .ret))
       .skip))
     (.seq (.seq (.ops none [⟨some 13, .mv (.t 6), none⟩])
       (.cond (.t 13)
        (.seq (.ops none [⟨some 4, .mv (.c (.int .i64 1)), none⟩])
         .ret)
        .skip))
      (.seq (.seq (.ops none [⟨some 14, .mv (.t 0), none⟩,
         ⟨some 15, .mv (.t 1), none⟩,
         ⟨some 16, .bin .lss (.t 14) (.t 15), none⟩])
        (.cond (.t 16)
         (.seq (.ops none [⟨some 4, .mv (.c (.int .i64 (-1))), none⟩])
          .ret)
         .skip))
       (.seq (.seq (.ops none [⟨some 17, .mv (.t 0), none⟩,
          ⟨some 18, .mv (.t 1), none⟩,
          ⟨some 19, .bin .gtr (.t 17) (.t 18), none⟩])
         (.cond (.t 19)
          (.seq (.ops none [⟨some 4, .mv (.c (.int .i64 1)), none⟩])
           .ret)
          .skip))
        (.seq (.ops none [⟨some 4, .mv (.c (.int .i64 0)), none⟩])
         .ret))))))))⟩
theorem cop38 : copF Try.prog raws [] 38 = some ir38 := by kernel_rfl
/-- tenterhook/timer.due$1 -/
def ir39 : F := ⟨23, [],
 (.seq (.ops none [⟨some 6, .load false 1 (.t 1), none⟩,
   ⟨some 7, .len false (.t 6), none⟩,
   ⟨some 8, .mv (.c (.int .i64 0)), none⟩])
  (.block 0 (.loop [0, 2, 6, 7, 8] []
    (.seq (.ops none [⟨some 9, .bin .lss (.t 8) (.t 7), none⟩])
     (.seq (.cond (.t 9)
       .skip
       (.exit 0))
      (.seq (.block 1 (.seq (.ops none [⟨some 10, .iaddr 2 (.t 6) (.t 8), none⟩,
          ⟨some 11, .load true 2 (.t 10), none⟩,
          ⟨some 5, .alloc [.int .i64 0, .int .i64 0], none⟩,
          ⟨none, .store 2 (.t 5) (.t 11), none⟩])
         (.seq (.ops none [⟨some 12, .faddr 1 (.t 5), none⟩,
           ⟨some 13, .load false 1 (.t 12), none⟩,
           ⟨some 14, .load false 1 (.t 2), none⟩,
           ⟨some 15, .bin .gtr (.t 13) (.t 14), none⟩,
           ⟨some 16, .mv (.t 15), none⟩,
           ⟨some 17, .mv (.t 0), some (16, false)⟩,
           ⟨some 18, .load true 2 (.t 5), some (16, false)⟩,
           ⟨some 19, .callv false [] (.t 17) [(.t 18)], some (16, false)⟩,
           ⟨some 20, .un .not (.t 19), some (16, false)⟩,
           ⟨some 21, .pick (.t 16) (.c (.bool true)) (.t 20), none⟩])
          (.cond (.t 21)
           .ret
           .skip))))
       (.ops none [⟨some 22, .bin .add (.t 8) (.c (.int .i64 1)), none⟩,
        ⟨some 8, .mv (.t 22), none⟩])))))))⟩
theorem cop39 : copF Try.prog raws [([0, 2, 6, 7, 8], [])] 39 = some ir39 := by kernel_rfl
/-- slices.insertionSortCmpFunc[tenterhook/timer.Nap] -/
def ir40 : F := ⟨53, [],
 (.seq (.ops none [⟨some 10, .mv (.t 1), none⟩,
   ⟨some 11, .bin .add (.t 10) (.c (.int .i64 1)), none⟩,
   ⟨some 8, .mv (.t 11), none⟩])
  (.block 0 (.loop [0, 1, 2, 3, 8] []
    (.seq (.seq (.ops none [⟨some 12, .mv (.t 8), none⟩,
       ⟨some 13, .mv (.t 2), none⟩,
       ⟨some 14, .bin .lss (.t 12) (.t 13), none⟩])
      (.cond (.t 14)
       .skip
       (.exit 0)))
     (.seq (.block 1 (.seq (.ops none [⟨some 17, .mv (.t 8), none⟩,
         ⟨some 9, .mv (.t 17), none⟩])
        (.block 2 (.loop [0, 1, 2, 3, 8, 9] []
          (.seq (.seq (.ops (some []) [⟨some 18, .mv (.t 9), none⟩,
             ⟨some 19, .mv (.t 1), none⟩,
             ⟨some 20, .bin .gtr (.t 18) (.t 19), none⟩,
             ⟨some 21, .mv (.t 20), none⟩,
             ⟨some 22, .mv (.t 3), some (21, true)⟩,
             ⟨some 23, .mv (.t 0), some (21, true)⟩,
             ⟨some 24, .mv (.t 9), some (21, true)⟩,
             ⟨some 25, .iaddr 2 (.t 23) (.t 24), some (21, true)⟩,
             ⟨some 26, .load true 2 (.t 25), some (21, true)⟩,
             ⟨some 27, .mv (.t 0), some (21, true)⟩,
             ⟨some 28, .mv (.t 9), some (21, true)⟩,
             ⟨some 29, .bin .sub (.t 28) (.c (.int .i64 1)), some (21, true)⟩,
             ⟨some 30, .iaddr 2 (.t 27) (.t 29), some (21, true)⟩,
             ⟨some 31, .load true 2 (.t 30), some (21, true)⟩,
             ⟨some 32, .callv false [] (.t 22) [(.t 26), (.t 31)], some (21, true)⟩,
             ⟨some 33, .bin .lss (.t 32) (.c (.int .i64 0)), some (21, true)⟩,
             ⟨some 34, .pick (.t 21) (.t 33) (.c (.bool false)), none⟩])
            (.cond (.t 34)
             .skip
             (.exit 2)))
           (.seq (.block 3 (.ops (some []) [⟨some 37, .mv (.t 0), none⟩,
              ⟨some 38, .mv (.t 9), none⟩,
              ⟨some 39, .mv (.t 0), none⟩,
              ⟨some 40, .mv (.t 9), none⟩,
              ⟨some 41, .bin .sub (.t 40) (.c (.int .i64 1)), none⟩,
              ⟨some 42, .mv (.t 0), none⟩,
              ⟨some 43, .mv (.t 9), none⟩,
              ⟨some 44, .bin .sub (.t 43) (.c (.int .i64 1)), none⟩,
              ⟨some 45, .iaddr 2 (.t 42) (.t 44), none⟩,
              ⟨some 46, .load true 2 (.t 45), none⟩,
              ⟨some 47, .mv (.t 0), none⟩,
              ⟨some 48, .mv (.t 9), none⟩,
              ⟨some 49, .iaddr 2 (.t 47) (.t 48), none⟩,
              ⟨some 50, .load true 2 (.t 49), none⟩,
              ⟨some 51, .iaddr 2 (.t 37) (.t 38), none⟩,
              ⟨none, .store 2 (.t 51) (.t 46), none⟩,
              ⟨some 52, .iaddr 2 (.t 39) (.t 41), none⟩,
              ⟨none, .store 2 (.t 52) (.t 50), none⟩]))
            (.ops none [⟨some 35, .mv (.t 9), none⟩,
             ⟨some 36, .bin .sub (.t 35) (.c (.int .i64 1)), none⟩,
             ⟨some 9, .mv (.t 36), none⟩])))))))
      (.ops none [⟨some 15, .mv (.t 8), none⟩,
       ⟨some 16, .bin .add (.t 15) (.c (.int .i64 1)), none⟩,
       ⟨some 8, .mv (.t 16), none⟩]))))))⟩
theorem cop40 : copF Try.prog raws [([0, 1, 2, 3, 8], []), ([0, 1, 2, 3, 8, 9], [])] 40 = some ir40 := by kernel_rfl
/-- slices.symMergeCmpFunc[tenterhook/timer.Nap] -/
def ir41 : F := ⟨220, [],
 (.seq (.seq (.ops none [⟨some 25, .mv (.t 2), none⟩,
    ⟨some 26, .mv (.t 1), none⟩,
    ⟨some 27, .bin .sub (.t 25) (.t 26), none⟩,
    ⟨some 28, .bin .eql (.t 27) (.c (.int .i64 1)), none⟩])
   (.cond (.t 28)
    (.seq (.ops none [⟨some 29, .mv (.t 2), none⟩,
      ⟨some 10, .mv (.t 29), none⟩])
     (.seq (.ops none [⟨some 30, .mv (.t 3), none⟩,
       ⟨some 11, .mv (.t 30), none⟩])
      (.seq (.block 0 (.loop [0, 1, 4, 10, 11] []
         (.seq (.seq (.ops none [⟨some 31, .mv (.t 10), none⟩,
            ⟨some 32, .mv (.t 11), none⟩,
            ⟨some 33, .bin .lss (.t 31) (.t 32), none⟩])
           (.cond (.t 33)
            .skip
            (.exit 0)))
          (.block 1 (.seq (.ops none [⟨some 34, .mv (.t 10), none⟩,
             ⟨some 35, .mv (.t 11), none⟩,
             ⟨some 36, .bin .add (.t 34) (.t 35), none⟩,
             ⟨some 37, .conv .u64 (.t 36), none⟩,
             ⟨some 38, .bin .shr (.t 37) (.c (.int .u64 1)), none⟩,
             ⟨some 39, .conv .i64 (.t 38), none⟩,
             ⟨some 12, .mv (.t 39), none⟩])
            (.seq (.ops (some []) [⟨some 40, .mv (.t 4), none⟩,
              ⟨some 41, .mv (.t 0), none⟩,
              ⟨some 42, .mv (.t 12), none⟩,
              ⟨some 43, .iaddr 2 (.t 41) (.t 42), none⟩,
              ⟨some 44, .load true 2 (.t 43), none⟩,
              ⟨some 45, .mv (.t 0), none⟩,
              ⟨some 46, .mv (.t 1), none⟩,
              ⟨some 47, .iaddr 2 (.t 45) (.t 46), none⟩,
              ⟨some 48, .load true 2 (.t 47), none⟩,
              ⟨some 49, .callv false [] (.t 40) [(.t 44), (.t 48)], none⟩,
              ⟨some 50, .bin .lss (.t 49) (.c (.int .i64 0)), none⟩])
             (.cond (.t 50)
              (.ops none [⟨some 51, .mv (.t 12), none⟩,
               ⟨some 52, .bin .add (.t 51) (.c (.int .i64 1)), none⟩,
               ⟨some 10, .mv (.t 52), none⟩])
              (.ops none [⟨some 53, .mv (.t 12), none⟩,
               ⟨some 11, .mv (.t 53), none⟩]))))))))
       (.seq (.seq (.ops none [⟨some 54, .mv (.t 1), none⟩,
          ⟨some 13, .mv (.t 54), none⟩])
         (.block 2 (.loop [0, 10, 13] []
           (.seq (.seq (.ops none [⟨some 55, .mv (.t 13), none⟩,
              ⟨some 56, .mv (.t 10), none⟩,
              ⟨some 57, .bin .sub (.t 56) (.c (.int .i64 1)), none⟩,
              ⟨some 58, .bin .lss (.t 55) (.t 57), none⟩])
             (.cond (.t 58)
              .skip
              (.exit 2)))
            (.seq (.block 3 (.ops (some []) [⟨some 61, .mv (.t 0), none⟩,
               ⟨some 62, .mv (.t 13), none⟩,
               ⟨some 63, .mv (.t 0), none⟩,
               ⟨some 64, .mv (.t 13), none⟩,
               ⟨some 65, .bin .add (.t 64) (.c (.int .i64 1)), none⟩,
               ⟨some 66, .mv (.t 0), none⟩,
               ⟨some 67, .mv (.t 13), none⟩,
               ⟨some 68, .bin .add (.t 67) (.c (.int .i64 1)), none⟩,
               ⟨some 69, .iaddr 2 (.t 66) (.t 68), none⟩,
               ⟨some 70, .load true 2 (.t 69), none⟩,
               ⟨some 71, .mv (.t 0), none⟩,
               ⟨some 72, .mv (.t 13), none⟩,
               ⟨some 73, .iaddr 2 (.t 71) (.t 72), none⟩,
               ⟨some 74, .load true 2 (.t 73), none⟩,
               ⟨some 75, .iaddr 2 (.t 61) (.t 62), none⟩,
               ⟨none, .store 2 (.t 75) (.t 70), none⟩,
               ⟨some 76, .iaddr 2 (.t 63) (.t 65), none⟩,
               ⟨none, .store 2 (.t 76) (.t 74), none⟩]))
             (.ops none [⟨some 59, .mv (.t 13), none⟩,
              ⟨some 60, .bin .add (.t 59) (.c (.int .i64 1)), none⟩,
              ⟨some 13, .mv (.t 60), none⟩]))))))
        .ret))))
    .skip))
  (.seq (.seq (.ops none [⟨some 77, .mv (.t 3), none⟩,
     ⟨some 78, .mv (.t 2), none⟩,
     ⟨some 79, .bin .sub (.t 77) (.t 78), none⟩,
     ⟨some 80, .bin .eql (.t 79) (.c (.int .i64 1)), none⟩])
    (.cond (.t 80)
     (.seq (.ops none [⟨some 81, .mv (.t 1), none⟩,
       ⟨some 14, .mv (.t 81), none⟩])
      (.seq (.ops none [⟨some 82, .mv (.t 2), none⟩,
        ⟨some 15, .mv (.t 82), none⟩])
       (.seq (.block 4 (.loop [0, 2, 4, 14, 15] []
          (.seq (.seq (.ops none [⟨some 83, .mv (.t 14), none⟩,
             ⟨some 84, .mv (.t 15), none⟩,
             ⟨some 85, .bin .lss (.t 83) (.t 84), none⟩])
            (.cond (.t 85)
             .skip
             (.exit 4)))
           (.block 5 (.seq (.ops none [⟨some 86, .mv (.t 14), none⟩,
              ⟨some 87, .mv (.t 15), none⟩,
              ⟨some 88, .bin .add (.t 86) (.t 87), none⟩,
              ⟨some 89, .conv .u64 (.t 88), none⟩,
              ⟨some 90, .bin .shr (.t 89) (.c (.int .u64 1)), none⟩,
              ⟨some 91, .conv .i64 (.t 90), none⟩,
              ⟨some 16, .mv (.t 91), none⟩])
             (.seq (.ops (some []) [⟨some 92, .mv (.t 4), none⟩,
               ⟨some 93, .mv (.t 0), none⟩,
               ⟨some 94, .mv (.t 2), none⟩,
               ⟨some 95, .iaddr 2 (.t 93) (.t 94), none⟩,
               ⟨some 96, .load true 2 (.t 95), none⟩,
               ⟨some 97, .mv (.t 0), none⟩,
               ⟨some 98, .mv (.t 16), none⟩,
               ⟨some 99, .iaddr 2 (.t 97) (.t 98), none⟩,
               ⟨some 100, .load true 2 (.t 99), none⟩,
               ⟨some 101, .callv false [] (.t 92) [(.t 96), (.t 100)], none⟩,
               ⟨some 102, .bin .lss (.t 101) (.c (.int .i64 0)), none⟩,
               ⟨some 103, .un .not (.t 102), none⟩])
              (.cond (.t 103)
               (.ops none [⟨some 104, .mv (.t 16), none⟩,
                ⟨some 105, .bin .add (.t 104) (.c (.int .i64 1)), none⟩,
                ⟨some 14, .mv (.t 105), none⟩])
               (.ops none [⟨some 106, .mv (.t 16), none⟩,
                ⟨some 15, .mv (.t 106), none⟩]))))))))
        (.seq (.seq (.ops none [⟨some 107, .mv (.t 2), none⟩,
           ⟨some 17, .mv (.t 107), none⟩])
          (.block 6 (.loop [0, 14, 17] []
            (.seq (.seq (.ops none [⟨some 108, .mv (.t 17), none⟩,
               ⟨some 109, .mv (.t 14), none⟩,
               ⟨some 110, .bin .gtr (.t 108) (.t 109), none⟩])
              (.cond (.t 110)
               .skip
               (.exit 6)))
             (.seq (.block 7 (.ops (some []) [⟨some 113, .mv (.t 0), none⟩,
                ⟨some 114, .mv (.t 17), none⟩,
                ⟨some 115, .mv (.t 0), none⟩,
                ⟨some 116, .mv (.t 17), none⟩,
                ⟨some 117, .bin .sub (.t 116) (.c (.int .i64 1)), none⟩,
                ⟨some 118, .mv (.t 0), none⟩,
                ⟨some 119, .mv (.t 17), none⟩,
                ⟨some 120, .bin .sub (.t 119) (.c (.int .i64 1)), none⟩,
                ⟨some 121, .iaddr 2 (.t 118) (.t 120), none⟩,
                ⟨some 122, .load true 2 (.t 121), none⟩,
                ⟨some 123, .mv (.t 0), none⟩,
                ⟨some 124, .mv (.t 17), none⟩,
                ⟨some 125, .iaddr 2 (.t 123) (.t 124), none⟩,
                ⟨some 126, .load true 2 (.t 125), none⟩,
                ⟨some 127, .iaddr 2 (.t 113) (.t 114), none⟩,
                ⟨none, .store 2 (.t 127) (.t 122), none⟩,
                ⟨some 128, .iaddr 2 (.t 115) (.t 117), none⟩,
                ⟨none, .store 2 (.t 128) (.t 126), none⟩]))
              (.ops none [⟨some 111, .mv (.t 17), none⟩,
               ⟨some 112, .bin .sub (.t 111) (.c (.int .i64 1)), none⟩,
               ⟨some 17, .mv (.t 112), none⟩]))))))
         .ret))))
     .skip))
   (.seq (.ops none [⟨some 129, .mv (.t 1), none⟩,
     ⟨some 130, .mv (.t 3), none⟩,
     ⟨some 131, .bin .add (.t 129) (.t 130), none⟩,
     ⟨some 132, .conv .u64 (.t 131), none⟩,
     ⟨some 133, .bin .shr (.t 132) (.c (.int .u64 1)), none⟩,
     ⟨some 134, .conv .i64 (.t 133), none⟩,
     ⟨some 18, .mv (.t 134), none⟩])
    (.seq (.ops none [⟨some 135, .mv (.t 18), none⟩,
      ⟨some 136, .mv (.t 2), none⟩,
      ⟨some 137, .bin .add (.t 135) (.t 136), none⟩,
      ⟨some 19, .mv (.t 137), none⟩])
     (.seq (.ops none [⟨some 20, .mv (.c (.int .i64 0)), none⟩,
       ⟨some 21, .mv (.c (.int .i64 0)), none⟩])
      (.seq (.seq (.ops none [⟨some 138, .mv (.t 2), none⟩,
         ⟨some 139, .mv (.t 18), none⟩,
         ⟨some 140, .bin .gtr (.t 138) (.t 139), none⟩])
        (.cond (.t 140)
         (.seq (.ops none [⟨some 141, .mv (.t 19), none⟩,
           ⟨some 142, .mv (.t 3), none⟩,
           ⟨some 143, .bin .sub (.t 141) (.t 142), none⟩,
           ⟨some 20, .mv (.t 143), none⟩])
          (.ops none [⟨some 144, .mv (.t 18), none⟩,
           ⟨some 21, .mv (.t 144), none⟩]))
         (.seq (.ops none [⟨some 145, .mv (.t 1), none⟩,
           ⟨some 20, .mv (.t 145), none⟩])
          (.ops none [⟨some 146, .mv (.t 2), none⟩,
           ⟨some 21, .mv (.t 146), none⟩]))))
       (.seq (.ops none [⟨some 147, .mv (.t 19), none⟩,
         ⟨some 148, .bin .sub (.t 147) (.c (.int .i64 1)), none⟩,
         ⟨some 22, .mv (.t 148), none⟩])
        (.seq (.block 8 (.loop [0, 1, 2, 3, 4, 18, 19, 20, 21, 22] []
           (.seq (.seq (.ops none [⟨some 149, .mv (.t 20), none⟩,
              ⟨some 150, .mv (.t 21), none⟩,
              ⟨some 151, .bin .lss (.t 149) (.t 150), none⟩])
             (.cond (.t 151)
              .skip
              (.exit 8)))
            (.block 9 (.seq (.ops none [⟨some 152, .mv (.t 20), none⟩,
               ⟨some 153, .mv (.t 21), none⟩,
               ⟨some 154, .bin .add (.t 152) (.t 153), none⟩,
               ⟨some 155, .conv .u64 (.t 154), none⟩,
               ⟨some 156, .bin .shr (.t 155) (.c (.int .u64 1)), none⟩,
               ⟨some 157, .conv .i64 (.t 156), none⟩,
               ⟨some 23, .mv (.t 157), none⟩])
              (.seq (.ops (some []) [⟨some 158, .mv (.t 4), none⟩,
                ⟨some 159, .mv (.t 0), none⟩,
                ⟨some 160, .mv (.t 22), none⟩,
                ⟨some 161, .mv (.t 23), none⟩,
                ⟨some 162, .bin .sub (.t 160) (.t 161), none⟩,
                ⟨some 163, .iaddr 2 (.t 159) (.t 162), none⟩,
                ⟨some 164, .load true 2 (.t 163), none⟩,
                ⟨some 165, .mv (.t 0), none⟩,
                ⟨some 166, .mv (.t 23), none⟩,
                ⟨some 167, .iaddr 2 (.t 165) (.t 166), none⟩,
                ⟨some 168, .load true 2 (.t 167), none⟩,
                ⟨some 169, .callv false [] (.t 158) [(.t 164), (.t 168)], none⟩,
                ⟨some 170, .bin .lss (.t 169) (.c (.int .i64 0)), none⟩,
                ⟨some 171, .un .not (.t 170), none⟩])
               (.cond (.t 171)
                (.ops none [⟨some 172, .mv (.t 23), none⟩,
                 ⟨some 173, .bin .add (.t 172) (.c (.int .i64 1)), none⟩,
                 ⟨some 20, .mv (.t 173), none⟩])
                (.ops none [⟨some 174, .mv (.t 23), none⟩,
                 ⟨some 21, .mv (.t 174), none⟩]))))))))
         (.seq (.ops none [⟨some 175, .mv (.t 19), none⟩,
           ⟨some 176, .mv (.t 20), none⟩,
           ⟨some 177, .bin .sub (.t 175) (.t 176), none⟩,
           ⟨some 24, .mv (.t 177), none⟩])
          (.seq (.seq (.ops none [⟨some 178, .mv (.t 20), none⟩,
             ⟨some 179, .mv (.t 2), none⟩,
             ⟨some 180, .bin .lss (.t 178) (.t 179), none⟩,
             ⟨some 181, .mv (.t 180), none⟩,
             ⟨some 182, .mv (.t 2), some (181, true)⟩,
             ⟨some 183, .mv (.t 24), some (181, true)⟩,
             ⟨some 184, .bin .lss (.t 182) (.t 183), some (181, true)⟩,
             ⟨some 185, .pick (.t 181) (.t 184) (.c (.bool false)), none⟩])
            (.cond (.t 185)
             (.ops none [⟨some 186, .mv (.t 0), none⟩,
              ⟨some 187, .mv (.t 20), none⟩,
              ⟨some 188, .mv (.t 2), none⟩,
              ⟨some 189, .mv (.t 24), none⟩,
              ⟨some 190, .mv (.t 4), none⟩,
              ⟨some 191, .call 43 false [true, false, false, false, false] [(.t 186), (.t 187), (.t 188), (.t 189), (.t 190)], none⟩])
             .skip))
           (.seq (.seq (.ops none [⟨some 192, .mv (.t 1), none⟩,
              ⟨some 193, .mv (.t 20), none⟩,
              ⟨some 194, .bin .lss (.t 192) (.t 193), none⟩,
              ⟨some 195, .mv (.t 194), none⟩,
              ⟨some 196, .mv (.t 20), some (195, true)⟩,
              ⟨some 197, .mv (.t 18), some (195, true)⟩,
              ⟨some 198, .bin .lss (.t 196) (.t 197), some (195, true)⟩,
              ⟨some 199, .pick (.t 195) (.t 198) (.c (.bool false)), none⟩])
             (.cond (.t 199)
              (.ops none [⟨some 200, .mv (.t 0), none⟩,
               ⟨some 201, .mv (.t 1), none⟩,
               ⟨some 202, .mv (.t 20), none⟩,
               ⟨some 203, .mv (.t 18), none⟩,
               ⟨some 204, .mv (.t 4), none⟩,
               ⟨some 205, .call 41 false [true, false, false, false, false] [(.t 200), (.t 201), (.t 202), (.t 203), (.t 204)], none⟩])
              .skip))
            (.seq (.ops none [⟨some 206, .mv (.t 18), none⟩,
              ⟨some 207, .mv (.t 24), none⟩,
              ⟨some 208, .bin .lss (.t 206) (.t 207), none⟩,
              ⟨some 209, .mv (.t 208), none⟩,
              ⟨some 210, .mv (.t 24), some (209, true)⟩,
              ⟨some 211, .mv (.t 3), some (209, true)⟩,
              ⟨some 212, .bin .lss (.t 210) (.t 211), some (209, true)⟩,
              ⟨some 213, .pick (.t 209) (.t 212) (.c (.bool false)), none⟩])
             (.cond (.t 213)
              (.ops none [⟨some 214, .mv (.t 0), none⟩,
               ⟨some 215, .mv (.t 18), none⟩,
               ⟨some 216, .mv (.t 24), none⟩,
               ⟨some 217, .mv (.t 3), none⟩,
               ⟨some 218, .mv (.t 4), none⟩,
               ⟨some 219, .call 41 false [true, false, false, false, false] [(.t 214), (.t 215), (.t 216), (.t 217), (.t 218)], none⟩])
              .skip)))))))))))))⟩
theorem cop41 : copF Try.prog raws [([0, 1, 4, 10, 11], []), ([0, 10, 13], []), ([0, 2, 4, 14, 15], []), ([0, 14, 17], []), ([0, 1, 2, 3, 4, 18, 19, 20, 21, 22], [])] 41 = some ir41 := by kernel_rfl
/-- cmp.isNaN[int] -/
def ir42 : F := ⟨6, [.t 2],
 (.seq (.ops none [⟨some 2, .mv (.c (.bool false)), none⟩])
  (.seq (.ops none [⟨some 3, .mv (.t 0), none⟩,
    ⟨some 4, .mv (.t 0), none⟩,
    ⟨some 5, .bin .neq (.t 3) (.t 4), none⟩,
    ⟨some 2, .mv (.t 5), none⟩])
   .ret))⟩
theorem cop42 : copF Try.prog raws [] 42 = some ir42 := by kernel_rfl
/-- slices.rotateCmpFunc[tenterhook/timer.Nap] -/
def ir43 : F := ⟨58, [],
 (.seq (.ops none [⟨some 12, .mv (.t 2), none⟩,
   ⟨some 13, .mv (.t 1), none⟩,
   ⟨some 14, .bin .sub (.t 12) (.t 13), none⟩,
   ⟨some 10, .mv (.t 14), none⟩])
  (.seq (.ops none [⟨some 15, .mv (.t 3), none⟩,
    ⟨some 16, .mv (.t 2), none⟩,
    ⟨some 17, .bin .sub (.t 15) (.t 16), none⟩,
    ⟨some 11, .mv (.t 17), none⟩])
   (.seq (.block 0 (.loop [0, 2, 4, 10, 11] []
      (.seq (.seq (.ops none [⟨some 18, .mv (.t 10), none⟩,
         ⟨some 19, .mv (.t 11), none⟩,
         ⟨some 20, .bin .neq (.t 18) (.t 19), none⟩])
        (.cond (.t 20)
         .skip
         (.exit 0)))
       (.block 1 (.seq (.ops none [⟨some 21, .mv (.t 10), none⟩,
          ⟨some 22, .mv (.t 11), none⟩,
          ⟨some 23, .bin .gtr (.t 21) (.t 22), none⟩])
         (.cond (.t 23)
          (.seq (.ops none [⟨some 24, .mv (.t 0), none⟩,
            ⟨some 25, .mv (.t 2), none⟩,
            ⟨some 26, .mv (.t 10), none⟩,
            ⟨some 27, .bin .sub (.t 25) (.t 26), none⟩,
            ⟨some 28, .mv (.t 2), none⟩,
            ⟨some 29, .mv (.t 11), none⟩,
            ⟨some 30, .mv (.t 4), none⟩,
            ⟨some 31, .call 44 false [true, false, false, false, false] [(.t 24), (.t 27), (.t 28), (.t 29), (.t 30)], none⟩])
           (.ops none [⟨some 32, .mv (.t 10), none⟩,
            ⟨some 33, .mv (.t 11), none⟩,
            ⟨some 34, .bin .sub (.t 32) (.t 33), none⟩,
            ⟨some 10, .mv (.t 34), none⟩]))
          (.seq (.ops none [⟨some 35, .mv (.t 0), none⟩,
            ⟨some 36, .mv (.t 2), none⟩,
            ⟨some 37, .mv (.t 10), none⟩,
            ⟨some 38, .bin .sub (.t 36) (.t 37), none⟩,
            ⟨some 39, .mv (.t 2), none⟩,
            ⟨some 40, .mv (.t 11), none⟩,
            ⟨some 41, .bin .add (.t 39) (.t 40), none⟩,
            ⟨some 42, .mv (.t 10), none⟩,
            ⟨some 43, .bin .sub (.t 41) (.t 42), none⟩,
            ⟨some 44, .mv (.t 10), none⟩,
            ⟨some 45, .mv (.t 4), none⟩,
            ⟨some 46, .call 44 false [true, false, false, false, false] [(.t 35), (.t 38), (.t 43), (.t 44), (.t 45)], none⟩])
           (.ops none [⟨some 47, .mv (.t 11), none⟩,
            ⟨some 48, .mv (.t 10), none⟩,
            ⟨some 49, .bin .sub (.t 47) (.t 48), none⟩,
            ⟨some 11, .mv (.t 49), none⟩]))))))))
    (.ops none [⟨some 50, .mv (.t 0), none⟩,
     ⟨some 51, .mv (.t 2), none⟩,
     ⟨some 52, .mv (.t 10), none⟩,
     ⟨some 53, .bin .sub (.t 51) (.t 52), none⟩,
     ⟨some 54, .mv (.t 2), none⟩,
     ⟨some 55, .mv (.t 10), none⟩,
     ⟨some 56, .mv (.t 4), none⟩,
     ⟨some 57, .call 44 false [true, false, false, false, false] [(.t 50), (.t 53), (.t 54), (.t 55), (.t 56)], none⟩]))))⟩
theorem cop43 : copF Try.prog raws [([0, 2, 4, 10, 11], [])] 43 = some ir43 := by kernel_rfl
/-- slices.swapRangeCmpFunc[tenterhook/timer.Nap] -/
def ir44 : F := ⟨38, [],
 (.seq (.ops none [⟨some 10, .mv (.c (.int .i64 0)), none⟩])
  (.block 0 (.loop [0, 1, 2, 3, 10] []
    (.seq (.seq (.ops none [⟨some 11, .mv (.t 10), none⟩,
       ⟨some 12, .mv (.t 3), none⟩,
       ⟨some 13, .bin .lss (.t 11) (.t 12), none⟩])
      (.cond (.t 13)
       .skip
       (.exit 0)))
     (.seq (.block 1 (.ops (some []) [⟨some 16, .mv (.t 0), none⟩,
        ⟨some 17, .mv (.t 1), none⟩,
        ⟨some 18, .mv (.t 10), none⟩,
        ⟨some 19, .bin .add (.t 17) (.t 18), none⟩,
        ⟨some 20, .mv (.t 0), none⟩,
        ⟨some 21, .mv (.t 2), none⟩,
        ⟨some 22, .mv (.t 10), none⟩,
        ⟨some 23, .bin .add (.t 21) (.t 22), none⟩,
        ⟨some 24, .mv (.t 0), none⟩,
        ⟨some 25, .mv (.t 2), none⟩,
        ⟨some 26, .mv (.t 10), none⟩,
        ⟨some 27, .bin .add (.t 25) (.t 26), none⟩,
        ⟨some 28, .iaddr 2 (.t 24) (.t 27), none⟩,
        ⟨some 29, .load true 2 (.t 28), none⟩,
        ⟨some 30, .mv (.t 0), none⟩,
        ⟨some 31, .mv (.t 1), none⟩,
        ⟨some 32, .mv (.t 10), none⟩,
        ⟨some 33, .bin .add (.t 31) (.t 32), none⟩,
        ⟨some 34, .iaddr 2 (.t 30) (.t 33), none⟩,
        ⟨some 35, .load true 2 (.t 34), none⟩,
        ⟨some 36, .iaddr 2 (.t 16) (.t 19), none⟩,
        ⟨none, .store 2 (.t 36) (.t 29), none⟩,
        ⟨some 37, .iaddr 2 (.t 20) (.t 23), none⟩,
        ⟨none, .store 2 (.t 37) (.t 35), none⟩]))
      (.ops none [⟨some 14, .mv (.t 10), none⟩,
       ⟨some 15, .bin .add (.t 14) (.c (.int .i64 1)), none⟩,
       ⟨some 10, .mv (.t 15), none⟩]))))))⟩
theorem cop44 : copF Try.prog raws [([0, 1, 2, 3, 10], [])] 44 = some ir44 := by kernel_rfl
def tab : List (Nat × Def) := [(3, .pub ir3), (4, .pub ir4), (5, .pub ir5), (6, .pub ir6), (7, .pub ir7), (8, .pub ir8), (10, .pub ir10), (11, .pub ir11), (12, .pub ir12), (13, .pub ir13), (14, .pub ir14), (15, .pub ir15), (16, .pub ir16), (17, .pub ir17), (18, .pub ir18), (19, .pub ir19), (20, .pub ir20), (21, .pub ir21), (22, .pub ir22), (23, .pub ir23), (24, .body ir24), (25, .body ir25), (26, .body ir26), (27, .body ir27), (28, .pub ir28), (29, .pub ir29), (30, .body ir30), (31, .pub ir31), (32, .pub ir32), (33, .body ir33), (34, .pub ir34), (35, .body ir35), (36, .body ir36), (37, .body ir37), (38, .body ir38), (39, .body ir39), (40, .body ir40), (41, .body ir41), (42, .body ir42), (43, .body ir43), (44, .body ir44)]
def env0 : Env := fun f => tab.lookup f
theorem env0Ok : EnvOk Try.prog raws env0 := envOk_of (tab := tab) (by
  unfold tab
  exact List.forall_mem_cons.2 ⟨⟨_, cop3⟩, List.forall_mem_cons.2 ⟨⟨_, cop4⟩, List.forall_mem_cons.2 ⟨⟨_, cop5⟩, List.forall_mem_cons.2 ⟨⟨_, cop6⟩, List.forall_mem_cons.2 ⟨⟨_, cop7⟩, List.forall_mem_cons.2 ⟨⟨_, cop8⟩, List.forall_mem_cons.2 ⟨⟨_, cop10⟩, List.forall_mem_cons.2 ⟨⟨_, cop11⟩, List.forall_mem_cons.2 ⟨⟨_, cop12⟩, List.forall_mem_cons.2 ⟨⟨_, cop13⟩, List.forall_mem_cons.2 ⟨⟨_, cop14⟩, List.forall_mem_cons.2 ⟨⟨_, cop15⟩, List.forall_mem_cons.2 ⟨⟨_, cop16⟩, List.forall_mem_cons.2 ⟨⟨_, cop17⟩, List.forall_mem_cons.2 ⟨⟨_, cop18⟩, List.forall_mem_cons.2 ⟨⟨_, cop19⟩, List.forall_mem_cons.2 ⟨⟨_, cop20⟩, List.forall_mem_cons.2 ⟨⟨_, cop21⟩, List.forall_mem_cons.2 ⟨⟨_, cop22⟩, List.forall_mem_cons.2 ⟨⟨_, cop23⟩, List.forall_mem_cons.2 ⟨⟨_, cop24⟩, List.forall_mem_cons.2 ⟨⟨_, cop25⟩, List.forall_mem_cons.2 ⟨⟨_, cop26⟩, List.forall_mem_cons.2 ⟨⟨_, cop27⟩, List.forall_mem_cons.2 ⟨⟨_, cop28⟩, List.forall_mem_cons.2 ⟨⟨_, cop29⟩, List.forall_mem_cons.2 ⟨⟨_, cop30⟩, List.forall_mem_cons.2 ⟨⟨_, cop31⟩, List.forall_mem_cons.2 ⟨⟨_, cop32⟩, List.forall_mem_cons.2 ⟨⟨_, cop33⟩, List.forall_mem_cons.2 ⟨⟨_, cop34⟩, List.forall_mem_cons.2 ⟨⟨_, cop35⟩, List.forall_mem_cons.2 ⟨⟨_, cop36⟩, List.forall_mem_cons.2 ⟨⟨_, cop37⟩, List.forall_mem_cons.2 ⟨⟨_, cop38⟩, List.forall_mem_cons.2 ⟨⟨_, cop39⟩, List.forall_mem_cons.2 ⟨⟨_, cop40⟩, List.forall_mem_cons.2 ⟨⟨_, cop41⟩, List.forall_mem_cons.2 ⟨⟨_, cop42⟩, List.forall_mem_cons.2 ⟨⟨_, cop43⟩, List.forall_mem_cons.2 ⟨⟨_, cop44⟩, List.forall_mem_nil _⟩⟩⟩⟩⟩⟩⟩⟩⟩⟩⟩⟩⟩⟩⟩⟩⟩⟩⟩⟩⟩⟩⟩⟩⟩⟩⟩⟩⟩⟩⟩⟩⟩⟩⟩⟩⟩⟩⟩⟩⟩)
section
open Go.RowKit
set_option maxHeartbeats 4000000
set_option maxRecDepth 100000
theorem cl26n (cap : Nat) (w : World) : Calls Try.prog 26 #[.slice none 0 cap] w (fun e w' => e = .returned (.slice none 0 0) ∧ w' = w) := by
  have heq : ∀ (n c : Nat) (W : World), (binOp .eql 24 (.slice none n c) (.slice none 0 0)).run Try.prog W = .ok (.bool true) W := fun n c W => Go.Lib.run_eql_slice_nil W 24 49 none n c 0 0 Try.underlying24
  go_enter Try.func26, Try.ntmps26
  go_wp2
  go_ret
  exact ⟨rfl, rfl⟩
theorem cl26e (a : Addr) (cap : Nat) (w : World) : Calls Try.prog 26 #[.slice (some a) 0 cap] w (fun e w' => e = .returned (.slice (some ⟨w.heap.size, 0, none⟩) 0 0) ∧ w' = w.alloc (.cells #[] 49)) := by
  have heq : ∀ (n c : Nat) (W : World), (binOp .eql 24 (.slice (some a) n c) (.slice none 0 0)).run Try.prog W = .ok (.bool false) W := fun n c W => Go.Lib.run_eql_slice_nil W 24 49 (some a) n c 0 0 Try.underlying24
  go_enter Try.func26, Try.ntmps26
  go_wp2
  go_ret
  exact ⟨rfl, rfl⟩
end
noncomputable def envh : Env := fun n => if n = 26 then some (.prim (cloneG 2 (ev env0) 26)) else env0 n
theorem envhOk : EnvOk Try.prog raws envh := envOk_prim env0Ok ⟨Try.f26, _, Try.func26, rfl, by decide⟩ (clone_ok cl26n cl26e (ev_sound env0Ok))
theorem envhP26 : envh 26 = some (.prim (cloneG 2 (ev env0) 26)) := rfl
theorem envZ26 : env0 26 = some (.body ir26) := by kernel_rfl
end Go.Proofs.YtppnijapeepbnaaR
