/- EvIs06: a part of the proof. -/
import Derived.Test.YtgiapbmeaobjiaaEv5
import Derived.Test.YtgiapbmeaobjiaaEv6
import Derived.Test.YtgiapbmeaobjiaaRows
import Derived.KernelRfl
set_option linter.unusedVariables false
set_option linter.unusedSimpArgs false
set_option maxRecDepth 20000
namespace Go.Proofs.YtgiapbmeaobjiaaR
open Go Go.Proofs.YtgiapbmeaobjiaaEv Go.Proofs
def raws : Nat → List Bool := fun f => ([] : List (Nat × List Bool)).lookup f |>.getD []
/-- tenterhook/tenterhooklaw06.ScanWords -/
def ir3 : F := ⟨105, [.t 2],
 (.seq (.ops none [⟨some 2, .mv (.c (.bool false)), none⟩])
  (.seq (.ops none [⟨some 12, .call 9 true [] [], none⟩,
    ⟨some 3, .mv (.t 12), none⟩])
   (.seq (.seq (.ops none [⟨some 13, .mv (.t 0), none⟩,
      ⟨some 14, .len true (.t 13), none⟩,
      ⟨some 15, .bin .gtr (.t 14) (.c (.int .i64 1000)), none⟩])
     (.cond (.t 15)
      (.seq (.ops none [⟨some 16, .mv (.t 3), none⟩,
        ⟨some 2, .mv (.t 16), none⟩])
       .ret)
      .skip))
    (.seq (.ops none [⟨some 17, .mv (.t 0), none⟩,
      ⟨some 18, .build [.str ⟨#[]⟩, .int .i64 0] [(0, 1, (.t 17))], none⟩,
      ⟨some 4, .alloc [.str ⟨#[]⟩, .int .i64 0], none⟩,
      ⟨none, .store 2 (.t 4) (.t 18), none⟩])
     (.seq (.ops none [⟨some 5, .mv (.c (.str ⟨#[]⟩)), none⟩])
      (.seq (.seq (.ops none [⟨some 6, .mv (.c (.int .i64 0)), none⟩])
        (.block 0 (.loop [0, 3, 4, 5, 6] []
          (.seq (.seq (.ops none [⟨some 19, .mv (.t 6), none⟩,
             ⟨some 20, .mv (.t 0), none⟩,
             ⟨some 21, .len true (.t 20), none⟩,
             ⟨some 22, .bin .add (.t 21) (.c (.int .i64 1)), none⟩,
             ⟨some 23, .bin .leq (.t 19) (.t 22), none⟩])
            (.cond (.t 23)
             .skip
             (.exit 0)))
           (.seq (.block 1 (.seq (.ops none [⟨some 27, .load true 2 (.t 4), none⟩,
               ⟨some 28, .call 10 true [] [(.t 27)], none⟩,
               ⟨some 26, .mv (.t 28), none⟩,
               ⟨some 29, .ext (.t 26) 0, none⟩,
               ⟨some 30, .ext (.t 26) 1, none⟩,
               ⟨some 8, .alloc [.str ⟨#[]⟩, .int .i64 0], none⟩,
               ⟨some 7, .mv (.t 29), none⟩,
               ⟨none, .store 2 (.t 8) (.t 30), none⟩])
              (.seq (.seq (.ops none [⟨some 31, .faddr 0 (.t 8), none⟩,
                 ⟨some 32, .load false 1 (.t 31), none⟩,
                 ⟨some 33, .mv (.t 0), none⟩,
                 ⟨some 34, .bin .neq (.t 32) (.t 33), none⟩,
                 ⟨some 35, .mv (.t 34), none⟩,
                 ⟨some 36, .faddr 1 (.t 8), some (35, false)⟩,
                 ⟨some 37, .load false 1 (.t 36), some (35, false)⟩,
                 ⟨some 38, .faddr 1 (.t 4), some (35, false)⟩,
                 ⟨some 39, .load false 1 (.t 38), some (35, false)⟩,
                 ⟨some 40, .bin .lss (.t 37) (.t 39), some (35, false)⟩,
                 ⟨some 41, .pick (.t 35) (.c (.bool true)) (.t 40), none⟩,
                 ⟨some 42, .mv (.t 41), none⟩,
                 ⟨some 43, .faddr 1 (.t 8), some (42, false)⟩,
                 ⟨some 44, .load false 1 (.t 43), some (42, false)⟩,
                 ⟨some 45, .mv (.t 0), some (42, false)⟩,
                 ⟨some 46, .len true (.t 45), some (42, false)⟩,
                 ⟨some 47, .bin .gtr (.t 44) (.t 46), some (42, false)⟩,
                 ⟨some 48, .pick (.t 42) (.c (.bool true)) (.t 47), none⟩,
                 ⟨some 49, .mv (.t 48), none⟩,
                 ⟨some 50, .mv (.t 7), some (49, false)⟩,
                 ⟨some 51, .bin .neq (.t 50) (.c (.str ⟨#[]⟩)), some (49, false)⟩,
                 ⟨some 52, .mv (.t 51), some (49, false)⟩,
                 ⟨some 53, .faddr 1 (.t 8), some (52, true)⟩,
                 ⟨some 54, .load false 1 (.t 53), some (52, true)⟩,
                 ⟨some 55, .faddr 1 (.t 4), some (52, true)⟩,
                 ⟨some 56, .load false 1 (.t 55), some (52, true)⟩,
                 ⟨some 57, .bin .leq (.t 54) (.t 56), some (52, true)⟩,
                 ⟨some 58, .pick (.t 52) (.t 57) (.c (.bool false)), some (49, false)⟩,
                 ⟨some 59, .pick (.t 49) (.c (.bool true)) (.t 58), none⟩])
                (.cond (.t 59)
                 (.seq (.ops none [⟨some 2, .mv (.c (.bool false)), none⟩])
                  .ret)
                 .skip))
               (.seq (.seq (.ops none [⟨some 9, .mv (.c (.int .i64 0)), none⟩])
                 (.block 2 (.loop [0, 3, 4, 5, 6, 7, 8, 9] []
                   (.seq (.seq (.ops none [⟨some 60, .mv (.t 9), none⟩,
                      ⟨some 61, .mv (.t 7), none⟩,
                      ⟨some 62, .len true (.t 61), none⟩,
                      ⟨some 63, .bin .lss (.t 60) (.t 62), none⟩])
                     (.cond (.t 63)
                      .skip
                      (.exit 2)))
                    (.seq (.block 3 (.seq (.ops none [⟨some 66, .mv (.t 7), none⟩,
                        ⟨some 67, .mv (.t 9), none⟩,
                        ⟨some 68, .index (.t 66) (.t 67), none⟩,
                        ⟨some 69, .bin .leq (.t 68) (.c (.int .u8 32)), none⟩])
                       (.cond (.t 69)
                        (.seq (.ops none [⟨some 2, .mv (.c (.bool false)), none⟩])
                         .ret)
                        .skip)))
                     (.ops none [⟨some 64, .mv (.t 9), none⟩,
                      ⟨some 65, .bin .add (.t 64) (.c (.int .i64 1)), none⟩,
                      ⟨some 9, .mv (.t 65), none⟩]))))))
                (.seq (.ops none [⟨some 70, .mv (.t 5), none⟩,
                  ⟨some 71, .mv (.t 7), none⟩,
                  ⟨some 72, .bin .add (.t 70) (.t 71), none⟩,
                  ⟨some 5, .mv (.t 72), none⟩])
                 (.ops none [⟨some 73, .load true 2 (.t 8), none⟩,
                  ⟨none, .store 2 (.t 4) (.t 73), none⟩]))))))
            (.ops none [⟨some 24, .mv (.t 6), none⟩,
             ⟨some 25, .bin .add (.t 24) (.c (.int .i64 1)), none⟩,
             ⟨some 6, .mv (.t 25), none⟩]))))))
       (.seq (.ops none [⟨some 74, .bslice 1 0 [.int .u8 0] [], none⟩,
         ⟨some 10, .mv (.t 74), none⟩])
        (.seq (.seq (.ops none [⟨some 11, .mv (.c (.int .i64 0)), none⟩])
          (.block 4 (.loop [0, 3, 4, 5, 10, 11] [(10, none, 1)]
            (.seq (.seq (.ops none [⟨some 75, .mv (.t 11), none⟩,
               ⟨some 76, .mv (.t 0), none⟩,
               ⟨some 77, .len true (.t 76), none⟩,
               ⟨some 78, .bin .lss (.t 75) (.t 77), none⟩])
              (.cond (.t 78)
               .skip
               (.exit 4)))
             (.seq (.block 5 (.seq (.ops none [⟨some 81, .mv (.t 0), none⟩,
                 ⟨some 82, .mv (.t 11), none⟩,
                 ⟨some 83, .index (.t 81) (.t 82), none⟩,
                 ⟨some 84, .bin .gtr (.t 83) (.c (.int .u8 32)), none⟩])
                (.cond (.t 84)
                 (.ops none [⟨some 85, .mv (.t 10), none⟩,
                  ⟨some 86, .mv (.t 0), none⟩,
                  ⟨some 87, .mv (.t 11), none⟩,
                  ⟨some 88, .index (.t 86) (.t 87), none⟩,
                  ⟨some 89, .bslice 1 1 [.int .u8 0] [(0, (.t 88))], none⟩,
                  ⟨some 90, .append 1 (.t 85) (.t 89), none⟩,
                  ⟨some 10, .mv (.t 90), none⟩])
                 .skip)))
              (.ops none [⟨some 79, .mv (.t 11), none⟩,
               ⟨some 80, .bin .add (.t 79) (.c (.int .i64 1)), none⟩,
               ⟨some 11, .mv (.t 80), none⟩]))))))
         (.seq (.ops none [⟨some 91, .mv (.t 3), none⟩,
           ⟨some 92, .mv (.t 91), none⟩,
           ⟨some 93, .mv (.t 5), some (92, true)⟩,
           ⟨some 94, .mv (.t 10), some (92, true)⟩,
           ⟨some 95, .b2s (.t 94), some (92, true)⟩,
           ⟨some 96, .bin .eql (.t 93) (.t 95), some (92, true)⟩,
           ⟨some 97, .pick (.t 92) (.t 96) (.c (.bool false)), none⟩,
           ⟨some 98, .mv (.t 97), none⟩,
           ⟨some 99, .faddr 1 (.t 4), some (98, true)⟩,
           ⟨some 100, .load false 1 (.t 99), some (98, true)⟩,
           ⟨some 101, .mv (.t 0), some (98, true)⟩,
           ⟨some 102, .len true (.t 101), some (98, true)⟩,
           ⟨some 103, .bin .eql (.t 100) (.t 102), some (98, true)⟩,
           ⟨some 104, .pick (.t 98) (.t 103) (.c (.bool false)), none⟩,
           ⟨some 2, .mv (.t 104), none⟩])
          .ret)))))))))⟩
theorem cop3 : copF Try.prog raws [([0, 3, 4, 5, 6], []), ([0, 3, 4, 5, 6, 7, 8, 9], []), ([0, 3, 4, 5, 10, 11], [(10, none, 1)])] 3 = some ir3 := by kernel_rfl
/-- tenterhook/tenterhooklaw06.ScanLines -/
def ir4 : F := ⟨74, [.t 2],
 (.seq (.ops none [⟨some 2, .mv (.c (.bool false)), none⟩])
  (.seq (.ops none [⟨some 9, .call 9 true [] [], none⟩,
    ⟨some 3, .mv (.t 9), none⟩])
   (.seq (.seq (.ops none [⟨some 10, .mv (.t 0), none⟩,
      ⟨some 11, .len true (.t 10), none⟩,
      ⟨some 12, .bin .gtr (.t 11) (.c (.int .i64 1000)), none⟩])
     (.cond (.t 12)
      (.seq (.ops none [⟨some 13, .mv (.t 3), none⟩,
        ⟨some 2, .mv (.t 13), none⟩])
       .ret)
      .skip))
    (.seq (.ops none [⟨some 14, .mv (.t 0), none⟩,
      ⟨some 15, .call 11 false [] [(.t 14)], none⟩,
      ⟨some 4, .mv (.t 15), none⟩])
     (.seq (.ops none [⟨some 5, .mv (.c (.str ⟨#[]⟩)), none⟩])
      (.seq (.seq (.ops none [⟨some 6, .mv (.c (.int .i64 0)), none⟩])
        (.block 0 (.loop [0, 3, 4, 5, 6] []
          (.seq (.seq (.ops none [⟨some 16, .mv (.t 6), none⟩,
             ⟨some 17, .mv (.t 4), none⟩,
             ⟨some 18, .len false (.t 17), none⟩,
             ⟨some 19, .bin .lss (.t 16) (.t 18), none⟩])
            (.cond (.t 19)
             .skip
             (.exit 0)))
           (.seq (.block 1 (.seq (.seq (.ops none [⟨some 7, .mv (.c (.int .i64 0)), none⟩])
               (.block 2 (.loop [0, 3, 4, 5, 6, 7] []
                 (.seq (.seq (.ops none [⟨some 22, .mv (.t 7), none⟩,
                    ⟨some 23, .mv (.t 4), none⟩,
                    ⟨some 24, .mv (.t 6), none⟩,
                    ⟨some 25, .iaddr 1 (.t 23) (.t 24), none⟩,
                    ⟨some 26, .load false 1 (.t 25), none⟩,
                    ⟨some 27, .len true (.t 26), none⟩,
                    ⟨some 28, .bin .lss (.t 22) (.t 27), none⟩])
                   (.cond (.t 28)
                    .skip
                    (.exit 2)))
                  (.seq (.block 3 (.seq (.ops none [⟨some 31, .mv (.t 4), none⟩,
                      ⟨some 32, .mv (.t 6), none⟩,
                      ⟨some 33, .iaddr 1 (.t 31) (.t 32), none⟩,
                      ⟨some 34, .load false 1 (.t 33), none⟩,
                      ⟨some 35, .mv (.t 7), none⟩,
                      ⟨some 36, .index (.t 34) (.t 35), none⟩,
                      ⟨some 37, .bin .eql (.t 36) (.c (.int .u8 10)), none⟩])
                     (.cond (.t 37)
                      (.seq (.ops none [⟨some 2, .mv (.c (.bool false)), none⟩])
                       .ret)
                      .skip)))
                   (.ops none [⟨some 29, .mv (.t 7), none⟩,
                    ⟨some 30, .bin .add (.t 29) (.c (.int .i64 1)), none⟩,
                    ⟨some 7, .mv (.t 30), none⟩]))))))
              (.seq (.seq (.ops none [⟨some 38, .mv (.t 6), none⟩,
                 ⟨some 39, .bin .gtr (.t 38) (.c (.int .i64 0)), none⟩])
                (.cond (.t 39)
                 (.ops none [⟨some 40, .mv (.t 5), none⟩,
                  ⟨some 41, .bin .add (.t 40) (.c (.str ⟨#[10]⟩)), none⟩,
                  ⟨some 5, .mv (.t 41), none⟩])
                 .skip))
               (.ops none [⟨some 42, .mv (.t 5), none⟩,
                ⟨some 43, .mv (.t 4), none⟩,
                ⟨some 44, .mv (.t 6), none⟩,
                ⟨some 45, .iaddr 1 (.t 43) (.t 44), none⟩,
                ⟨some 46, .load false 1 (.t 45), none⟩,
                ⟨some 47, .bin .add (.t 42) (.t 46), none⟩,
                ⟨some 5, .mv (.t 47), none⟩]))))
            (.ops none [⟨some 20, .mv (.t 6), none⟩,
             ⟨some 21, .bin .add (.t 20) (.c (.int .i64 1)), none⟩,
             ⟨some 6, .mv (.t 21), none⟩]))))))
       (.seq (.ops none [⟨some 48, .mv (.t 0), none⟩,
         ⟨some 49, .call 12 true [] [(.t 48)], none⟩,
         ⟨some 8, .mv (.t 49), none⟩])
        (.seq (.ops none [⟨some 50, .mv (.t 3), none⟩,
          ⟨some 51, .mv (.t 50), none⟩,
          ⟨some 52, .mv (.t 5), some (51, true)⟩,
          ⟨some 53, .mv (.t 0), some (51, true)⟩,
          ⟨some 54, .bin .eql (.t 52) (.t 53), some (51, true)⟩,
          ⟨some 55, .pick (.t 51) (.t 54) (.c (.bool false)), none⟩,
          ⟨some 56, .mv (.t 55), none⟩,
          ⟨some 57, .mv (.t 4), some (56, true)⟩,
          ⟨some 58, .len false (.t 57), some (56, true)⟩,
          ⟨some 59, .bin .gtr (.t 58) (.c (.int .i64 0)), some (56, true)⟩,
          ⟨some 60, .pick (.t 56) (.t 59) (.c (.bool false)), none⟩,
          ⟨some 61, .mv (.t 60), none⟩,
          ⟨some 62, .mv (.t 8), some (61, true)⟩,
          ⟨some 63, .call 12 true [] [(.t 62)], some (61, true)⟩,
          ⟨some 64, .mv (.t 8), some (61, true)⟩,
          ⟨some 65, .bin .eql (.t 63) (.t 64), some (61, true)⟩,
          ⟨some 66, .pick (.t 61) (.t 65) (.c (.bool false)), none⟩,
          ⟨some 67, .mv (.t 66), none⟩,
          ⟨some 68, .mv (.t 8), some (67, true)⟩,
          ⟨some 69, .len true (.t 68), some (67, true)⟩,
          ⟨some 70, .mv (.t 0), some (67, true)⟩,
          ⟨some 71, .len true (.t 70), some (67, true)⟩,
          ⟨some 72, .bin .eql (.t 69) (.t 71), some (67, true)⟩,
          ⟨some 73, .pick (.t 67) (.t 72) (.c (.bool false)), none⟩,
          ⟨some 2, .mv (.t 73), none⟩])
         .ret))))))))⟩
theorem cop4 : copF Try.prog raws [([0, 3, 4, 5, 6], []), ([0, 3, 4, 5, 6, 7], [])] 4 = some ir4 := by kernel_rfl
/-- tenterhook/tenterhooklaw06.ScanBlanks -/
def ir5 : F := ⟨112, [.t 6],
 (.seq (.ops none [⟨some 6, .mv (.c (.bool false)), none⟩])
  (.seq (.ops none [⟨some 16, .call 9 true [] [], none⟩,
    ⟨some 7, .mv (.t 16), none⟩])
   (.seq (.seq (.ops none [⟨some 17, .mv (.t 0), none⟩,
      ⟨some 18, .len true (.t 17), none⟩,
      ⟨some 19, .bin .gtr (.t 18) (.c (.int .i64 500)), none⟩,
      ⟨some 20, .mv (.t 19), none⟩,
      ⟨some 21, .mv (.t 1), some (20, false)⟩,
      ⟨some 22, .len false (.t 21), some (20, false)⟩,
      ⟨some 23, .bin .gtr (.t 22) (.c (.int .i64 100)), some (20, false)⟩,
      ⟨some 24, .pick (.t 20) (.c (.bool true)) (.t 23), none⟩,
      ⟨some 25, .mv (.t 24), none⟩,
      ⟨some 26, .mv (.t 2), some (25, false)⟩,
      ⟨some 27, .len true (.t 26), some (25, false)⟩,
      ⟨some 28, .bin .gtr (.t 27) (.c (.int .i64 300)), some (25, false)⟩,
      ⟨some 29, .pick (.t 25) (.c (.bool true)) (.t 28), none⟩])
     (.cond (.t 29)
      (.seq (.ops none [⟨some 30, .mv (.t 7), none⟩,
        ⟨some 6, .mv (.t 30), none⟩])
       .ret)
      .skip))
    (.seq (.ops none [⟨some 8, .mv (.c (.str ⟨#[]⟩)), none⟩])
     (.seq (.seq (.ops none [⟨some 9, .mv (.c (.int .i64 0)), none⟩])
       (.block 0 (.loop [0, 1, 2, 7, 8, 9] []
         (.seq (.seq (.ops none [⟨some 31, .mv (.t 9), none⟩,
            ⟨some 32, .mv (.t 1), none⟩,
            ⟨some 33, .len false (.t 32), none⟩,
            ⟨some 34, .bin .lss (.t 31) (.t 33), none⟩])
           (.cond (.t 34)
            .skip
            (.exit 0)))
          (.seq (.block 1 (.ops none [⟨some 37, .mv (.t 8), none⟩,
             ⟨some 38, .mv (.t 1), none⟩,
             ⟨some 39, .mv (.t 9), none⟩,
             ⟨some 40, .iaddr 1 (.t 38) (.t 39), none⟩,
             ⟨some 41, .load false 1 (.t 40), none⟩,
             ⟨some 42, .bin .and (.t 41) (.c (.int .u8 31)), none⟩,
             ⟨some 43, .bslice 1 1 [.int .u8 0] [(0, (.t 42))], none⟩,
             ⟨some 44, .b2s (.t 43), none⟩,
             ⟨some 45, .bin .add (.t 37) (.t 44), none⟩,
             ⟨some 8, .mv (.t 45), none⟩]))
           (.ops none [⟨some 35, .mv (.t 9), none⟩,
            ⟨some 36, .bin .add (.t 35) (.c (.int .i64 1)), none⟩,
            ⟨some 9, .mv (.t 36), none⟩]))))))
      (.seq (.ops none [⟨some 47, .mv (.t 0), none⟩,
        ⟨some 48, .build [.str ⟨#[]⟩, .int .i64 0] [(0, 1, (.t 47))], none⟩,
        ⟨some 49, .call 10 true [] [(.t 48)], none⟩,
        ⟨some 46, .mv (.t 49), none⟩,
        ⟨some 50, .ext (.t 46) 0, none⟩,
        ⟨some 51, .ext (.t 46) 1, none⟩,
        ⟨some 11, .alloc [.str ⟨#[]⟩, .int .i64 0], none⟩,
        ⟨some 10, .mv (.t 50), none⟩,
        ⟨none, .store 2 (.t 11) (.t 51), none⟩])
       (.seq (.ops none [⟨some 53, .mv (.t 8), none⟩,
         ⟨some 54, .mv (.t 0), none⟩,
         ⟨some 55, .bin .add (.t 53) (.t 54), none⟩,
         ⟨some 56, .build [.str ⟨#[]⟩, .int .i64 0] [(0, 1, (.t 55))], none⟩,
         ⟨some 57, .call 10 true [] [(.t 56)], none⟩,
         ⟨some 52, .mv (.t 57), none⟩,
         ⟨some 58, .ext (.t 52) 0, none⟩,
         ⟨some 59, .ext (.t 52) 1, none⟩,
         ⟨some 13, .alloc [.str ⟨#[]⟩, .int .i64 0], none⟩,
         ⟨some 12, .mv (.t 58), none⟩,
         ⟨none, .store 2 (.t 13) (.t 59), none⟩])
        (.seq (.ops none [⟨some 61, .mv (.t 2), none⟩,
          ⟨some 62, .mv (.t 0), none⟩,
          ⟨some 63, .bin .add (.t 61) (.t 62), none⟩,
          ⟨some 64, .mv (.t 2), none⟩,
          ⟨some 65, .len true (.t 64), none⟩,
          ⟨some 66, .build [.str ⟨#[]⟩, .int .i64 0] [(0, 1, (.t 63)), (1, 1, (.t 65))], none⟩,
          ⟨some 67, .call 10 true [] [(.t 66)], none⟩,
          ⟨some 60, .mv (.t 67), none⟩,
          ⟨some 68, .ext (.t 60) 0, none⟩,
          ⟨some 69, .ext (.t 60) 1, none⟩,
          ⟨some 15, .alloc [.str ⟨#[]⟩, .int .i64 0], none⟩,
          ⟨some 14, .mv (.t 68), none⟩,
          ⟨none, .store 2 (.t 15) (.t 69), none⟩])
         (.seq (.ops none [⟨some 70, .mv (.t 7), none⟩,
           ⟨some 71, .mv (.t 70), none⟩,
           ⟨some 72, .mv (.t 10), some (71, true)⟩,
           ⟨some 73, .mv (.t 12), some (71, true)⟩,
           ⟨some 74, .bin .eql (.t 72) (.t 73), some (71, true)⟩,
           ⟨some 75, .pick (.t 71) (.t 74) (.c (.bool false)), none⟩,
           ⟨some 76, .mv (.t 75), none⟩,
           ⟨some 77, .mv (.t 10), some (76, true)⟩,
           ⟨some 78, .mv (.t 14), some (76, true)⟩,
           ⟨some 79, .bin .eql (.t 77) (.t 78), some (76, true)⟩,
           ⟨some 80, .pick (.t 76) (.t 79) (.c (.bool false)), none⟩,
           ⟨some 81, .mv (.t 80), none⟩,
           ⟨some 82, .faddr 1 (.t 13), some (81, true)⟩,
           ⟨some 83, .load false 1 (.t 82), some (81, true)⟩,
           ⟨some 84, .faddr 1 (.t 11), some (81, true)⟩,
           ⟨some 85, .load false 1 (.t 84), some (81, true)⟩,
           ⟨some 86, .mv (.t 8), some (81, true)⟩,
           ⟨some 87, .len true (.t 86), some (81, true)⟩,
           ⟨some 88, .bin .add (.t 85) (.t 87), some (81, true)⟩,
           ⟨some 89, .bin .eql (.t 83) (.t 88), some (81, true)⟩,
           ⟨some 90, .pick (.t 81) (.t 89) (.c (.bool false)), none⟩,
           ⟨some 91, .mv (.t 90), none⟩,
           ⟨some 92, .faddr 1 (.t 15), some (91, true)⟩,
           ⟨some 93, .load false 1 (.t 92), some (91, true)⟩,
           ⟨some 94, .faddr 1 (.t 11), some (91, true)⟩,
           ⟨some 95, .load false 1 (.t 94), some (91, true)⟩,
           ⟨some 96, .mv (.t 2), some (91, true)⟩,
           ⟨some 97, .len true (.t 96), some (91, true)⟩,
           ⟨some 98, .bin .add (.t 95) (.t 97), some (91, true)⟩,
           ⟨some 99, .bin .eql (.t 93) (.t 98), some (91, true)⟩,
           ⟨some 100, .pick (.t 91) (.t 99) (.c (.bool false)), none⟩,
           ⟨some 101, .mv (.t 100), none⟩,
           ⟨some 102, .mv (.t 2), some (101, true)⟩,
           ⟨some 103, .mv (.t 0), some (101, true)⟩,
           ⟨some 104, .bin .add (.t 102) (.t 103), some (101, true)⟩,
           ⟨some 105, .mv (.t 2), some (101, true)⟩,
           ⟨some 106, .len true (.t 105), some (101, true)⟩,
           ⟨some 107, .build [.str ⟨#[]⟩, .int .i64 0] [(0, 1, (.t 104)), (1, 1, (.t 106))], some (101, true)⟩,
           ⟨some 108, .call 13 true [] [(.t 107)], some (101, true)⟩,
           ⟨some 109, .mv (.t 0), some (101, true)⟩,
           ⟨some 110, .bin .eql (.t 108) (.t 109), some (101, true)⟩,
           ⟨some 111, .pick (.t 101) (.t 110) (.c (.bool false)), none⟩,
           ⟨some 6, .mv (.t 111), none⟩])
          .ret)))))))))⟩
theorem cop5 : copF Try.prog raws [([0, 1, 2, 7, 8, 9], [])] 5 = some ir5 := by kernel_rfl
/-- tenterhook/tenterhooklaw06.ScanIs -/
def ir6 : F := ⟨102, [.t 4],
 (.seq (.ops none [⟨some 2, .box (.t 0), none⟩,
   ⟨some 4, .mv (.c (.bool false)), none⟩])
  (.seq (.ops none [⟨some 14, .call 9 true [] [], none⟩,
    ⟨some 5, .mv (.t 14), none⟩])
   (.seq (.seq (.ops none [⟨some 15, .faddr 0 (.t 2), none⟩,
      ⟨some 16, .load false 1 (.t 15), none⟩,
      ⟨some 17, .len true (.t 16), none⟩,
      ⟨some 18, .bin .gtr (.t 17) (.c (.int .i64 1000)), none⟩])
     (.cond (.t 18)
      (.seq (.ops none [⟨some 19, .mv (.t 5), none⟩,
        ⟨some 4, .mv (.t 19), none⟩])
       .ret)
      .skip))
    (.seq (.ops none [⟨some 21, .load true 2 (.t 2), none⟩,
      ⟨some 22, .call 14 true [] [(.t 21)], none⟩,
      ⟨some 23, .call 10 true [] [(.t 22)], none⟩,
      ⟨some 20, .mv (.t 23), none⟩,
      ⟨some 24, .ext (.t 20) 0, none⟩,
      ⟨some 25, .ext (.t 20) 1, none⟩,
      ⟨some 7, .alloc [.str ⟨#[]⟩, .int .i64 0], none⟩,
      ⟨some 6, .mv (.t 24), none⟩,
      ⟨none, .store 2 (.t 7) (.t 25), none⟩])
     (.seq (.ops none [⟨some 27, .load true 2 (.t 2), none⟩,
       ⟨some 28, .call 15 true [] [(.t 27)], none⟩,
       ⟨some 26, .mv (.t 28), none⟩,
       ⟨some 29, .ext (.t 26) 0, none⟩,
       ⟨some 30, .ext (.t 26) 1, none⟩,
       ⟨some 9, .alloc [.str ⟨#[]⟩, .int .i64 0], none⟩,
       ⟨some 8, .mv (.t 29), none⟩,
       ⟨none, .store 2 (.t 9) (.t 30), none⟩])
      (.seq (.ops none [⟨some 32, .load true 2 (.t 2), none⟩,
        ⟨some 33, .call 14 true [] [(.t 32)], none⟩,
        ⟨some 34, .mv (.t 1), none⟩,
        ⟨some 35, .call 16 true [] [(.t 33), (.t 34)], none⟩,
        ⟨some 31, .mv (.t 35), none⟩,
        ⟨some 36, .ext (.t 31) 0, none⟩,
        ⟨some 37, .ext (.t 31) 1, none⟩,
        ⟨some 11, .alloc [.str ⟨#[]⟩, .int .i64 0], none⟩,
        ⟨some 10, .mv (.t 36), none⟩,
        ⟨none, .store 2 (.t 11) (.t 37), none⟩])
       (.seq (.ops none [⟨some 39, .load true 2 (.t 2), none⟩,
         ⟨some 40, .mv (.t 1), none⟩,
         ⟨some 41, .call 17 true [] [(.t 39), (.t 40)], none⟩,
         ⟨some 38, .mv (.t 41), none⟩,
         ⟨some 42, .ext (.t 38) 0, none⟩,
         ⟨some 43, .ext (.t 38) 1, none⟩,
         ⟨some 13, .alloc [.str ⟨#[]⟩, .int .i64 0], none⟩,
         ⟨some 12, .mv (.t 42), none⟩,
         ⟨none, .store 2 (.t 13) (.t 43), none⟩])
        (.seq (.ops (some [(52, 54)]) [⟨some 44, .mv (.t 5), none⟩,
          ⟨some 45, .mv (.t 44), none⟩,
          ⟨some 46, .mv (.t 6), some (45, true)⟩,
          ⟨some 47, .mv (.t 8), some (45, true)⟩,
          ⟨some 48, .bin .eql (.t 46) (.t 47), some (45, true)⟩,
          ⟨some 49, .pick (.t 45) (.t 48) (.c (.bool false)), none⟩,
          ⟨some 50, .mv (.t 49), none⟩,
          ⟨some 51, .load true 2 (.t 7), some (50, true)⟩,
          ⟨some 52, .load true 2 (.t 9), some (50, true)⟩,
          ⟨some 53, .call 14 true [] [(.t 52)], some (50, true)⟩,
          ⟨some 54, .eqS false [2, 0] (.t 51) (.t 53), some (50, true)⟩,
          ⟨some 55, .pick (.t 50) (.t 54) (.c (.bool false)), none⟩,
          ⟨some 56, .mv (.t 55), none⟩,
          ⟨some 57, .mv (.t 10), some (56, true)⟩,
          ⟨some 58, .mv (.t 12), some (56, true)⟩,
          ⟨some 59, .bin .eql (.t 57) (.t 58), some (56, true)⟩,
          ⟨some 60, .pick (.t 56) (.t 59) (.c (.bool false)), none⟩,
          ⟨some 61, .mv (.t 60), none⟩,
          ⟨some 62, .load true 2 (.t 11), some (61, true)⟩,
          ⟨some 63, .load true 2 (.t 13), some (61, true)⟩,
          ⟨some 64, .call 14 true [] [(.t 63)], some (61, true)⟩,
          ⟨some 65, .eqS false [2, 0] (.t 62) (.t 64), some (61, true)⟩,
          ⟨some 66, .pick (.t 61) (.t 65) (.c (.bool false)), none⟩,
          ⟨some 67, .mv (.t 66), none⟩,
          ⟨some 68, .load true 2 (.t 2), some (67, true)⟩,
          ⟨some 69, .call 14 true [] [(.t 68)], some (67, true)⟩,
          ⟨some 70, .call 18 true [] [(.t 69)], some (67, true)⟩,
          ⟨some 71, .load true 2 (.t 2), some (67, true)⟩,
          ⟨some 72, .call 19 true [] [(.t 71)], some (67, true)⟩,
          ⟨some 73, .call 14 true [] [(.t 72)], some (67, true)⟩,
          ⟨some 74, .eqS false [2, 0] (.t 70) (.t 73), some (67, true)⟩,
          ⟨some 75, .pick (.t 67) (.t 74) (.c (.bool false)), none⟩,
          ⟨some 76, .mv (.t 75), none⟩,
          ⟨some 77, .load true 2 (.t 2), some (76, true)⟩,
          ⟨some 78, .call 14 true [] [(.t 77)], some (76, true)⟩,
          ⟨some 79, .call 13 true [] [(.t 78)], some (76, true)⟩,
          ⟨some 80, .load true 2 (.t 2), some (76, true)⟩,
          ⟨some 81, .call 20 true [] [(.t 80)], some (76, true)⟩,
          ⟨some 82, .bin .eql (.t 79) (.t 81), some (76, true)⟩,
          ⟨some 83, .pick (.t 76) (.t 82) (.c (.bool false)), none⟩,
          ⟨some 84, .mv (.t 83), none⟩,
          ⟨some 85, .faddr 0 (.t 2), some (84, true)⟩,
          ⟨some 86, .load false 1 (.t 85), some (84, true)⟩,
          ⟨some 87, .call 12 true [] [(.t 86)], some (84, true)⟩,
          ⟨some 88, .faddr 0 (.t 2), some (84, true)⟩,
          ⟨some 89, .load false 1 (.t 88), some (84, true)⟩,
          ⟨some 90, .call 21 true [] [(.t 89)], some (84, true)⟩,
          ⟨some 91, .bin .eql (.t 87) (.t 90), some (84, true)⟩,
          ⟨some 92, .pick (.t 84) (.t 91) (.c (.bool false)), none⟩,
          ⟨some 93, .mv (.t 92), none⟩,
          ⟨some 94, .faddr 0 (.t 2), some (93, true)⟩,
          ⟨some 95, .load false 1 (.t 94), some (93, true)⟩,
          ⟨some 96, .call 11 false [] [(.t 95)], some (93, true)⟩,
          ⟨some 97, .faddr 0 (.t 2), some (93, true)⟩,
          ⟨some 98, .load false 1 (.t 97), some (93, true)⟩,
          ⟨some 99, .call 23 false [] [(.t 98)], some (93, true)⟩,
          ⟨some 100, .call 22 true [] [(.t 96), (.t 99)], some (93, true)⟩,
          ⟨some 101, .pick (.t 93) (.t 100) (.c (.bool false)), none⟩,
          ⟨some 4, .mv (.t 101), none⟩])
         .ret))))))))⟩
theorem cop6 : copF Try.prog raws [] 6 = some ir6 := by kernel_rfl
/-- tenterhook/tenterhooklaw06.ScanParts -/
def ir7 : F := ⟨120, [.t 6],
 (.seq (.ops none [⟨some 6, .mv (.c (.bool false)), none⟩])
  (.seq (.ops none [⟨some 14, .call 9 true [] [], none⟩,
    ⟨some 7, .mv (.t 14), none⟩])
   (.seq (.seq (.ops none [⟨some 15, .mv (.t 0), none⟩,
      ⟨some 16, .len true (.t 15), none⟩,
      ⟨some 17, .bin .gtr (.t 16) (.c (.int .i64 1000)), none⟩])
     (.cond (.t 17)
      (.seq (.ops none [⟨some 18, .mv (.t 7), none⟩,
        ⟨some 6, .mv (.t 18), none⟩])
       .ret)
      .skip))
    (.seq (.ops none [⟨some 19, .mv (.t 0), none⟩,
      ⟨some 20, .mv (.t 1), none⟩,
      ⟨some 21, .build [.str ⟨#[]⟩, .int .i64 0] [(0, 1, (.t 19)), (1, 1, (.t 20))], none⟩,
      ⟨some 8, .alloc [.str ⟨#[]⟩, .int .i64 0], none⟩,
      ⟨none, .store 2 (.t 8) (.t 21), none⟩])
     (.seq (.ops none [⟨some 22, .load true 2 (.t 8), none⟩,
       ⟨some 23, .call 13 true [] [(.t 22)], none⟩,
       ⟨some 9, .mv (.t 23), none⟩])
      (.seq (.ops none [⟨some 25, .load true 2 (.t 8), none⟩,
        ⟨some 26, .mv (.t 2), none⟩,
        ⟨some 27, .conv .i64 (.t 26), none⟩,
        ⟨some 28, .call 16 true [] [(.t 25), (.t 27)], none⟩,
        ⟨some 24, .mv (.t 28), none⟩,
        ⟨some 29, .ext (.t 24) 0, none⟩,
        ⟨some 30, .ext (.t 24) 1, none⟩,
        ⟨some 11, .alloc [.str ⟨#[]⟩, .int .i64 0], none⟩,
        ⟨some 10, .mv (.t 29), none⟩,
        ⟨none, .store 2 (.t 11) (.t 30), none⟩])
       (.seq (.ops none [⟨some 31, .load true 2 (.t 11), none⟩,
         ⟨some 32, .call 13 true [] [(.t 31)], none⟩,
         ⟨some 12, .mv (.t 32), none⟩])
        (.seq (.seq (.ops none [⟨some 13, .mv (.c (.int .i64 0)), none⟩])
          (.block 0 (.loop [2, 7, 9, 10, 12, 13] []
            (.seq (.seq (.ops none [⟨some 33, .mv (.t 13), none⟩,
               ⟨some 34, .mv (.t 10), none⟩,
               ⟨some 35, .len true (.t 34), none⟩,
               ⟨some 36, .bin .lss (.t 33) (.t 35), none⟩])
              (.cond (.t 36)
               .skip
               (.exit 0)))
             (.seq (.block 1 (.seq (.ops none [⟨some 39, .mv (.t 10), none⟩,
                 ⟨some 40, .mv (.t 13), none⟩,
                 ⟨some 41, .index (.t 39) (.t 40), none⟩,
                 ⟨some 42, .mv (.t 2), none⟩,
                 ⟨some 43, .bin .eql (.t 41) (.t 42), none⟩,
                 ⟨some 44, .mv (.t 43), none⟩,
                 ⟨some 45, .mv (.t 2), some (44, false)⟩,
                 ⟨some 46, .bin .eql (.t 45) (.c (.int .u8 32)), some (44, false)⟩,
                 ⟨some 47, .mv (.t 46), some (44, false)⟩,
                 ⟨some 48, .mv (.t 10), some (47, true)⟩,
                 ⟨some 49, .mv (.t 13), some (47, true)⟩,
                 ⟨some 50, .index (.t 48) (.t 49), some (47, true)⟩,
                 ⟨some 51, .bin .lss (.t 50) (.c (.int .u8 32)), some (47, true)⟩,
                 ⟨some 52, .pick (.t 47) (.t 51) (.c (.bool false)), some (44, false)⟩,
                 ⟨some 53, .pick (.t 44) (.c (.bool true)) (.t 52), none⟩])
                (.cond (.t 53)
                 (.seq (.ops none [⟨some 6, .mv (.c (.bool false)), none⟩])
                  .ret)
                 .skip)))
              (.ops none [⟨some 37, .mv (.t 13), none⟩,
               ⟨some 38, .bin .add (.t 37) (.c (.int .i64 1)), none⟩,
               ⟨some 13, .mv (.t 38), none⟩]))))))
         (.seq (.seq (.ops none [⟨some 54, .mv (.t 10), none⟩,
            ⟨some 55, .len true (.t 54), none⟩,
            ⟨some 56, .mv (.t 12), none⟩,
            ⟨some 57, .len true (.t 56), none⟩,
            ⟨some 58, .bin .add (.t 55) (.t 57), none⟩,
            ⟨some 59, .mv (.t 9), none⟩,
            ⟨some 60, .len true (.t 59), none⟩,
            ⟨some 61, .bin .eql (.t 58) (.t 60), none⟩])
           (.cond (.t 61)
            (.seq (.ops none [⟨some 62, .mv (.t 7), none⟩,
              ⟨some 63, .mv (.t 62), none⟩,
              ⟨some 64, .mv (.t 10), some (63, true)⟩,
              ⟨some 65, .mv (.t 9), some (63, true)⟩,
              ⟨some 66, .bin .eql (.t 64) (.t 65), some (63, true)⟩,
              ⟨some 67, .pick (.t 63) (.t 66) (.c (.bool false)), none⟩,
              ⟨some 68, .mv (.t 67), none⟩,
              ⟨some 69, .mv (.t 12), some (68, true)⟩,
              ⟨some 70, .bin .eql (.t 69) (.c (.str ⟨#[]⟩)), some (68, true)⟩,
              ⟨some 71, .pick (.t 68) (.t 70) (.c (.bool false)), none⟩,
              ⟨some 6, .mv (.t 71), none⟩])
             .ret)
            .skip))
          (.seq (.ops none [⟨some 72, .mv (.t 7), none⟩,
            ⟨some 73, .mv (.t 72), none⟩,
            ⟨some 74, .mv (.t 10), some (73, true)⟩,
            ⟨some 75, .len true (.t 74), some (73, true)⟩,
            ⟨some 76, .bin .add (.t 75) (.c (.int .i64 1)), some (73, true)⟩,
            ⟨some 77, .mv (.t 12), some (73, true)⟩,
            ⟨some 78, .len true (.t 77), some (73, true)⟩,
            ⟨some 79, .bin .add (.t 76) (.t 78), some (73, true)⟩,
            ⟨some 80, .mv (.t 9), some (73, true)⟩,
            ⟨some 81, .len true (.t 80), some (73, true)⟩,
            ⟨some 82, .bin .eql (.t 79) (.t 81), some (73, true)⟩,
            ⟨some 83, .pick (.t 73) (.t 82) (.c (.bool false)), none⟩,
            ⟨some 84, .mv (.t 83), none⟩,
            ⟨some 85, .mv (.t 9), some (84, true)⟩,
            ⟨some 86, .mv (.t 10), some (84, true)⟩,
            ⟨some 87, .len true (.t 86), some (84, true)⟩,
            ⟨some 88, .slice true 1 (.t 85) none (some (.t 87)) none, some (84, true)⟩,
            ⟨some 89, .mv (.t 10), some (84, true)⟩,
            ⟨some 90, .bin .eql (.t 88) (.t 89), some (84, true)⟩,
            ⟨some 91, .pick (.t 84) (.t 90) (.c (.bool false)), none⟩,
            ⟨some 92, .mv (.t 91), none⟩,
            ⟨some 93, .mv (.t 9), some (92, true)⟩,
            ⟨some 94, .mv (.t 10), some (92, true)⟩,
            ⟨some 95, .len true (.t 94), some (92, true)⟩,
            ⟨some 96, .bin .add (.t 95) (.c (.int .i64 1)), some (92, true)⟩,
            ⟨some 97, .slice true 1 (.t 93) (some (.t 96)) none none, some (92, true)⟩,
            ⟨some 98, .mv (.t 12), some (92, true)⟩,
            ⟨some 99, .bin .eql (.t 97) (.t 98), some (92, true)⟩,
            ⟨some 100, .pick (.t 92) (.t 99) (.c (.bool false)), none⟩,
            ⟨some 101, .mv (.t 100), none⟩,
            ⟨some 102, .mv (.t 9), some (101, true)⟩,
            ⟨some 103, .mv (.t 10), some (101, true)⟩,
            ⟨some 104, .len true (.t 103), some (101, true)⟩,
            ⟨some 105, .index (.t 102) (.t 104), some (101, true)⟩,
            ⟨some 106, .mv (.t 2), some (101, true)⟩,
            ⟨some 107, .bin .eql (.t 105) (.t 106), some (101, true)⟩,
            ⟨some 108, .mv (.t 107), some (101, true)⟩,
            ⟨some 109, .mv (.t 2), some (108, false)⟩,
            ⟨some 110, .bin .eql (.t 109) (.c (.int .u8 32)), some (108, false)⟩,
            ⟨some 111, .mv (.t 110), some (108, false)⟩,
            ⟨some 112, .mv (.t 9), some (111, true)⟩,
            ⟨some 113, .mv (.t 10), some (111, true)⟩,
            ⟨some 114, .len true (.t 113), some (111, true)⟩,
            ⟨some 115, .index (.t 112) (.t 114), some (111, true)⟩,
            ⟨some 116, .bin .lss (.t 115) (.c (.int .u8 32)), some (111, true)⟩,
            ⟨some 117, .pick (.t 111) (.t 116) (.c (.bool false)), some (108, false)⟩,
            ⟨some 118, .pick (.t 108) (.c (.bool true)) (.t 117), some (101, true)⟩,
            ⟨some 119, .pick (.t 101) (.t 118) (.c (.bool false)), none⟩,
            ⟨some 6, .mv (.t 119), none⟩])
           .ret))))))))))⟩
theorem cop7 : copF Try.prog raws [([2, 7, 9, 10, 12, 13], [])] 7 = some ir7 := by kernel_rfl
/-- tenterhook/tenterhooklaw06.ScanSkips -/
def ir8 : F := ⟨67, [.t 4],
 (.seq (.ops none [⟨some 4, .mv (.c (.bool false)), none⟩])
  (.seq (.ops none [⟨some 13, .call 9 true [] [], none⟩,
    ⟨some 5, .mv (.t 13), none⟩])
   (.seq (.seq (.ops none [⟨some 14, .mv (.t 0), none⟩,
      ⟨some 15, .len true (.t 14), none⟩,
      ⟨some 16, .bin .gtr (.t 15) (.c (.int .i64 500)), none⟩])
     (.cond (.t 16)
      (.seq (.ops none [⟨some 17, .mv (.t 5), none⟩,
        ⟨some 4, .mv (.t 17), none⟩])
       .ret)
      .skip))
    (.seq (.ops none [⟨some 18, .mv (.t 0), none⟩,
      ⟨some 19, .mv (.t 1), none⟩,
      ⟨some 20, .build [.str ⟨#[]⟩, .int .i64 0] [(0, 1, (.t 18)), (1, 1, (.t 19))], none⟩,
      ⟨some 6, .alloc [.str ⟨#[]⟩, .int .i64 0], none⟩,
      ⟨none, .store 2 (.t 6) (.t 20), none⟩])
     (.seq (.ops none [⟨some 21, .load true 2 (.t 6), none⟩,
       ⟨some 22, .call 18 true [] [(.t 21)], none⟩,
       ⟨some 7, .alloc [.str ⟨#[]⟩, .int .i64 0], none⟩,
       ⟨none, .store 2 (.t 7) (.t 22), none⟩])
      (.seq (.ops none [⟨some 23, .load true 2 (.t 7), none⟩,
        ⟨some 24, .call 13 true [] [(.t 23)], none⟩,
        ⟨some 8, .mv (.t 24), none⟩])
       (.seq (.ops none [⟨some 26, .load true 2 (.t 6), none⟩,
         ⟨some 27, .call 10 true [] [(.t 26)], none⟩,
         ⟨some 25, .mv (.t 27), none⟩,
         ⟨some 28, .ext (.t 25) 0, none⟩,
         ⟨some 29, .ext (.t 25) 1, none⟩,
         ⟨some 10, .alloc [.str ⟨#[]⟩, .int .i64 0], none⟩,
         ⟨some 9, .mv (.t 28), none⟩,
         ⟨none, .store 2 (.t 10) (.t 29), none⟩])
        (.seq (.ops none [⟨some 31, .load true 2 (.t 7), none⟩,
          ⟨some 32, .call 16 true [] [(.t 31), (.c (.int .i64 32))], none⟩,
          ⟨some 30, .mv (.t 32), none⟩,
          ⟨some 33, .ext (.t 30) 0, none⟩,
          ⟨some 34, .ext (.t 30) 1, none⟩,
          ⟨some 12, .alloc [.str ⟨#[]⟩, .int .i64 0], none⟩,
          ⟨some 11, .mv (.t 33), none⟩,
          ⟨none, .store 2 (.t 12) (.t 34), none⟩])
         (.seq (.ops (some []) [⟨some 35, .mv (.t 5), none⟩,
           ⟨some 36, .mv (.t 35), none⟩,
           ⟨some 37, .load true 2 (.t 7), some (36, true)⟩,
           ⟨some 38, .call 18 true [] [(.t 37)], some (36, true)⟩,
           ⟨some 39, .load true 2 (.t 7), some (36, true)⟩,
           ⟨some 40, .eqS false [2, 0] (.t 38) (.t 39), some (36, true)⟩,
           ⟨some 41, .pick (.t 36) (.t 40) (.c (.bool false)), none⟩,
           ⟨some 42, .mv (.t 41), none⟩,
           ⟨some 43, .mv (.t 8), some (42, true)⟩,
           ⟨some 44, .bin .eql (.t 43) (.c (.str ⟨#[]⟩)), some (42, true)⟩,
           ⟨some 45, .mv (.t 44), some (42, true)⟩,
           ⟨some 46, .mv (.t 8), some (45, false)⟩,
           ⟨some 47, .index (.t 46) (.c (.int .i64 0)), some (45, false)⟩,
           ⟨some 48, .bin .gtr (.t 47) (.c (.int .u8 32)), some (45, false)⟩,
           ⟨some 49, .pick (.t 45) (.c (.bool true)) (.t 48), some (42, true)⟩,
           ⟨some 50, .pick (.t 42) (.t 49) (.c (.bool false)), none⟩,
           ⟨some 51, .mv (.t 50), none⟩,
           ⟨some 52, .mv (.t 9), some (51, true)⟩,
           ⟨some 53, .mv (.t 11), some (51, true)⟩,
           ⟨some 54, .bin .eql (.t 52) (.t 53), some (51, true)⟩,
           ⟨some 55, .pick (.t 51) (.t 54) (.c (.bool false)), none⟩,
           ⟨some 56, .mv (.t 55), none⟩,
           ⟨some 57, .load true 2 (.t 10), some (56, true)⟩,
           ⟨some 58, .load true 2 (.t 12), some (56, true)⟩,
           ⟨some 59, .eqS false [2, 0] (.t 57) (.t 58), some (56, true)⟩,
           ⟨some 60, .pick (.t 56) (.t 59) (.c (.bool false)), none⟩,
           ⟨some 61, .mv (.t 60), none⟩,
           ⟨some 62, .faddr 0 (.t 7), some (61, true)⟩,
           ⟨some 63, .load false 1 (.t 62), some (61, true)⟩,
           ⟨some 64, .mv (.t 0), some (61, true)⟩,
           ⟨some 65, .bin .eql (.t 63) (.t 64), some (61, true)⟩,
           ⟨some 66, .pick (.t 61) (.t 65) (.c (.bool false)), none⟩,
           ⟨some 4, .mv (.t 66), none⟩])
          .ret)))))))))⟩
theorem cop8 : copF Try.prog raws [] 8 = some ir8 := by kernel_rfl
/-- tenterhook/tenterhooklaw06.awake -/
def ir9 : F := ⟨46, [.t 0],
 (.seq (.ops none [⟨some 0, .mv (.c (.bool false)), none⟩])
  (.seq (.ops none [⟨some 8, .build [.str ⟨#[]⟩, .int .i64 0] [(0, 1, (.c (.str ⟨#[32, 97, 98, 32, 99]⟩)))], none⟩,
    ⟨some 9, .call 10 true [] [(.t 8)], none⟩,
    ⟨some 7, .mv (.t 9), none⟩,
    ⟨some 10, .ext (.t 7) 0, none⟩,
    ⟨some 11, .ext (.t 7) 1, none⟩,
    ⟨some 2, .alloc [.str ⟨#[]⟩, .int .i64 0], none⟩,
    ⟨some 1, .mv (.t 10), none⟩,
    ⟨none, .store 2 (.t 2) (.t 11), none⟩])
   (.seq (.ops none [⟨some 13, .load true 2 (.t 2), none⟩,
     ⟨some 14, .call 10 true [] [(.t 13)], none⟩,
     ⟨some 12, .mv (.t 14), none⟩,
     ⟨some 15, .ext (.t 12) 0, none⟩,
     ⟨some 16, .ext (.t 12) 1, none⟩,
     ⟨some 4, .alloc [.str ⟨#[]⟩, .int .i64 0], none⟩,
     ⟨some 3, .mv (.t 15), none⟩,
     ⟨none, .store 2 (.t 4) (.t 16), none⟩])
    (.seq (.ops none [⟨some 18, .load true 2 (.t 4), none⟩,
      ⟨some 19, .call 10 true [] [(.t 18)], none⟩,
      ⟨some 17, .mv (.t 19), none⟩,
      ⟨some 20, .ext (.t 17) 0, none⟩,
      ⟨some 21, .ext (.t 17) 1, none⟩,
      ⟨some 6, .alloc [.str ⟨#[]⟩, .int .i64 0], none⟩,
      ⟨some 5, .mv (.t 20), none⟩,
      ⟨none, .store 2 (.t 6) (.t 21), none⟩])
     (.seq (.ops none [⟨some 22, .mv (.t 1), none⟩,
       ⟨some 23, .bin .eql (.t 22) (.c (.str ⟨#[97, 98]⟩)), none⟩,
       ⟨some 24, .mv (.t 23), none⟩,
       ⟨some 25, .mv (.t 3), some (24, true)⟩,
       ⟨some 26, .bin .eql (.t 25) (.c (.str ⟨#[99]⟩)), some (24, true)⟩,
       ⟨some 27, .pick (.t 24) (.t 26) (.c (.bool false)), none⟩,
       ⟨some 28, .mv (.t 27), none⟩,
       ⟨some 29, .mv (.t 5), some (28, true)⟩,
       ⟨some 30, .bin .eql (.t 29) (.c (.str ⟨#[]⟩)), some (28, true)⟩,
       ⟨some 31, .pick (.t 28) (.t 30) (.c (.bool false)), none⟩,
       ⟨some 32, .mv (.t 31), none⟩,
       ⟨some 33, .faddr 1 (.t 6), some (32, true)⟩,
       ⟨some 34, .load false 1 (.t 33), some (32, true)⟩,
       ⟨some 35, .bin .eql (.t 34) (.c (.int .i64 5)), some (32, true)⟩,
       ⟨some 36, .pick (.t 32) (.t 35) (.c (.bool false)), none⟩,
       ⟨some 37, .mv (.t 36), none⟩,
       ⟨some 38, .call 12 true [] [(.c (.str ⟨#[97]⟩))], some (37, true)⟩,
       ⟨some 39, .bin .eql (.t 38) (.c (.str ⟨#[65]⟩)), some (37, true)⟩,
       ⟨some 40, .pick (.t 37) (.t 39) (.c (.bool false)), none⟩,
       ⟨some 41, .mv (.t 40), none⟩,
       ⟨some 42, .call 11 false [] [(.c (.str ⟨#[]⟩))], some (41, true)⟩,
       ⟨some 43, .len false (.t 42), some (41, true)⟩,
       ⟨some 44, .bin .eql (.t 43) (.c (.int .i64 1)), some (41, true)⟩,
       ⟨some 45, .pick (.t 41) (.t 44) (.c (.bool false)), none⟩,
       ⟨some 0, .mv (.t 45), none⟩])
      .ret)))))⟩
theorem cop9 : copF Try.prog raws [] 9 = some ir9 := by kernel_rfl
/-- tenterhook/scan.Word -/
def ir10 : F := ⟨9, [.t 2, .cell 3 true 2],
 (.seq (.ops none [⟨some 1, .box (.t 0), none⟩,
   ⟨some 2, .mv (.c (.str ⟨#[]⟩)), none⟩,
   ⟨some 3, .alloc [.str ⟨#[]⟩, .int .i64 0], none⟩])
  (.seq (.ops none [⟨some 4, .load true 2 (.t 1), none⟩,
    ⟨some 5, .call 18 true [] [(.t 4)], none⟩,
    ⟨some 6, .call 24 true [] [(.t 5), (.c (.fn 25 [] []))], none⟩,
    ⟨some 7, .ext (.t 6) 0, none⟩,
    ⟨some 8, .ext (.t 6) 1, none⟩,
    ⟨some 2, .mv (.t 7), none⟩,
    ⟨none, .store 2 (.t 3) (.t 8), none⟩])
   .ret))⟩
theorem cop10 : copF Try.prog raws [] 10 = some ir10 := by kernel_rfl
/-- tenterhook/scan.Upper -/
def ir12 : F := ⟨23, [.t 2],
 (.seq (.ops none [⟨some 2, .mv (.c (.str ⟨#[]⟩)), none⟩])
  (.seq (.ops none [⟨some 6, .mv (.t 0), none⟩,
    ⟨some 7, .s2b (.t 6), none⟩,
    ⟨some 3, .mv (.t 7), none⟩])
   (.seq (.seq (.ops none [⟨some 8, .mv (.t 3), none⟩,
      ⟨some 9, .len false (.t 8), none⟩,
      ⟨some 10, .mv (.c (.int .i64 0)), none⟩])
     (.block 0 (.loop [3, 8, 9, 10] []
       (.seq (.ops none [⟨some 11, .bin .lss (.t 10) (.t 9), none⟩])
        (.seq (.cond (.t 11)
          .skip
          (.exit 0))
         (.seq (.block 1 (.seq (.ops none [⟨some 12, .mv (.t 10), none⟩,
             ⟨some 13, .iaddr 1 (.t 8) (.t 10), none⟩,
             ⟨some 14, .load false 1 (.t 13), none⟩,
             ⟨some 4, .mv (.t 12), none⟩,
             ⟨some 5, .mv (.t 14), none⟩])
            (.ops none [⟨some 15, .mv (.t 3), none⟩,
             ⟨some 16, .mv (.t 4), none⟩,
             ⟨some 17, .mv (.t 5), none⟩,
             ⟨some 18, .call 28 true [] [(.t 17)], none⟩,
             ⟨some 19, .iaddr 1 (.t 15) (.t 16), none⟩,
             ⟨none, .store 1 (.t 19) (.t 18), none⟩])))
          (.ops none [⟨some 20, .bin .add (.t 10) (.c (.int .i64 1)), none⟩,
           ⟨some 10, .mv (.t 20), none⟩])))))))
    (.seq (.ops none [⟨some 21, .mv (.t 3), none⟩,
      ⟨some 22, .b2s (.t 21), none⟩,
      ⟨some 2, .mv (.t 22), none⟩])
     .ret))))⟩
theorem cop12 : copF Try.prog raws [([3, 8, 9, 10], [])] 12 = some ir12 := by kernel_rfl
/-- tenterhook/scan.Left -/
def ir13 : F := ⟨8, [.t 2],
 (.seq (.ops none [⟨some 1, .box (.t 0), none⟩,
   ⟨some 2, .mv (.c (.str ⟨#[]⟩)), none⟩])
  (.seq (.ops (some []) [⟨some 3, .faddr 0 (.t 1), none⟩,
    ⟨some 4, .load false 1 (.t 3), none⟩,
    ⟨some 5, .load true 2 (.t 1), none⟩,
    ⟨some 6, .call 29 true [] [(.t 5)], none⟩,
    ⟨some 7, .slice true 1 (.t 4) (some (.t 6)) none none, none⟩,
    ⟨some 2, .mv (.t 7), none⟩])
   .ret))⟩
theorem cop13 : copF Try.prog raws [] 13 = some ir13 := by kernel_rfl
/-- tenterhook/tenterhooklaw06.ours -/
def ir14 : F := ⟨8, [.cell 2 true 2],
 (.seq (.ops none [⟨some 1, .box (.t 0), none⟩,
   ⟨some 2, .alloc [.str ⟨#[]⟩, .int .i64 0], none⟩])
  (.seq (.ops none [⟨some 3, .faddr 0 (.t 1), none⟩,
    ⟨some 4, .load false 1 (.t 3), none⟩,
    ⟨some 5, .faddr 1 (.t 1), none⟩,
    ⟨some 6, .load false 1 (.t 5), none⟩,
    ⟨some 7, .build [.str ⟨#[]⟩, .int .i64 0] [(0, 1, (.t 4)), (1, 1, (.t 6))], none⟩,
    ⟨none, .store 2 (.t 2) (.t 7), none⟩])
   .ret))⟩
theorem cop14 : copF Try.prog raws [] 14 = some ir14 := by kernel_rfl
/-- tenterhook/tenterhookref06.Word -/
def ir15 : F := ⟨9, [.t 2, .cell 3 true 2],
 (.seq (.ops none [⟨some 1, .box (.t 0), none⟩,
   ⟨some 2, .mv (.c (.str ⟨#[]⟩)), none⟩,
   ⟨some 3, .alloc [.str ⟨#[]⟩, .int .i64 0], none⟩])
  (.seq (.ops none [⟨some 4, .load true 2 (.t 1), none⟩,
    ⟨some 5, .call 19 true [] [(.t 4)], none⟩,
    ⟨some 6, .call 17 true [] [(.t 5), (.c (.int .i64 32))], none⟩,
    ⟨some 7, .ext (.t 6) 0, none⟩,
    ⟨some 8, .ext (.t 6) 1, none⟩,
    ⟨some 2, .mv (.t 7), none⟩,
    ⟨none, .store 2 (.t 3) (.t 8), none⟩])
   .ret))⟩
theorem cop15 : copF Try.prog raws [] 15 = some ir15 := by kernel_rfl
/-- tenterhook/scan.Parse -/
def ir16 : F := ⟨17, [.t 4, .cell 5 true 2],
 (.seq (.ops none [⟨some 2, .box (.t 0), none⟩,
   ⟨some 3, .box (.t 1), none⟩,
   ⟨some 4, .mv (.c (.str ⟨#[]⟩)), none⟩,
   ⟨some 5, .alloc [.str ⟨#[]⟩, .int .i64 0], none⟩])
  (.seq (.seq (.ops none [⟨some 6, .load false 1 (.t 3), none⟩,
     ⟨some 7, .bin .eql (.t 6) (.c (.int .i64 32)), none⟩])
    (.cond (.t 7)
     (.seq (.ops none [⟨some 8, .load true 2 (.t 2), none⟩,
       ⟨some 9, .call 24 true [] [(.t 8), (.c (.fn 25 [] []))], none⟩,
       ⟨some 10, .ext (.t 9) 0, none⟩,
       ⟨some 11, .ext (.t 9) 1, none⟩,
       ⟨some 4, .mv (.t 10), none⟩,
       ⟨none, .store 2 (.t 5) (.t 11), none⟩])
      .ret)
     .skip))
   (.seq (.ops none [⟨some 12, .load true 2 (.t 2), none⟩,
     ⟨some 13, .mkfunc 30 [] [(.t 3)], none⟩,
     ⟨some 14, .call 24 true [] [(.t 12), (.t 13)], none⟩,
     ⟨some 15, .ext (.t 14) 0, none⟩,
     ⟨some 16, .ext (.t 14) 1, none⟩,
     ⟨some 4, .mv (.t 15), none⟩,
     ⟨none, .store 2 (.t 5) (.t 16), none⟩])
    .ret)))⟩
theorem cop16 : copF Try.prog raws [] 16 = some ir16 := by kernel_rfl
/-- tenterhook/tenterhookref06.Parse -/
def ir17 : F := ⟨44, [.t 4, .cell 5 true 2],
 (.seq (.ops none [⟨some 2, .box (.t 0), none⟩,
   ⟨some 4, .mv (.c (.str ⟨#[]⟩)), none⟩,
   ⟨some 5, .alloc [.str ⟨#[]⟩, .int .i64 0], none⟩])
  (.seq (.ops none [⟨some 8, .load true 2 (.t 2), none⟩,
    ⟨some 9, .call 31 true [] [(.t 8)], none⟩,
    ⟨some 6, .mv (.t 9), none⟩])
   (.seq (.seq (.ops none [⟨some 10, .mv (.t 6), none⟩,
      ⟨some 7, .mv (.t 10), none⟩])
     (.block 0 (.loop [1, 2, 5, 6, 7] []
       (.seq (.seq (.ops none [⟨some 11, .mv (.t 7), none⟩,
          ⟨some 12, .faddr 0 (.t 2), none⟩,
          ⟨some 13, .load false 1 (.t 12), none⟩,
          ⟨some 14, .len true (.t 13), none⟩,
          ⟨some 15, .bin .lss (.t 11) (.t 14), none⟩])
         (.cond (.t 15)
          .skip
          (.exit 0)))
        (.seq (.block 1 (.seq (.ops none [⟨some 18, .faddr 0 (.t 2), none⟩,
            ⟨some 19, .load false 1 (.t 18), none⟩,
            ⟨some 20, .mv (.t 7), none⟩,
            ⟨some 21, .index (.t 19) (.t 20), none⟩,
            ⟨some 22, .mv (.t 1), none⟩,
            ⟨some 23, .call 32 true [] [(.t 21), (.t 22)], none⟩])
           (.cond (.t 23)
            (.seq (.ops (some []) [⟨some 24, .faddr 0 (.t 2), none⟩,
              ⟨some 25, .load false 1 (.t 24), none⟩,
              ⟨some 26, .mv (.t 6), none⟩,
              ⟨some 27, .mv (.t 7), none⟩,
              ⟨some 28, .slice true 1 (.t 25) (some (.t 26)) (some (.t 27)) none, none⟩,
              ⟨some 29, .faddr 0 (.t 2), none⟩,
              ⟨some 30, .load false 1 (.t 29), none⟩,
              ⟨some 31, .mv (.t 7), none⟩,
              ⟨some 32, .bin .add (.t 31) (.c (.int .i64 1)), none⟩,
              ⟨some 33, .build [.str ⟨#[]⟩, .int .i64 0] [(0, 1, (.t 30)), (1, 1, (.t 32))], none⟩,
              ⟨some 4, .mv (.t 28), none⟩,
              ⟨none, .store 2 (.t 5) (.t 33), none⟩])
             .ret)
            .skip)))
         (.ops none [⟨some 16, .mv (.t 7), none⟩,
          ⟨some 17, .bin .add (.t 16) (.c (.int .i64 1)), none⟩,
          ⟨some 7, .mv (.t 17), none⟩]))))))
    (.seq (.ops (some []) [⟨some 34, .faddr 0 (.t 2), none⟩,
      ⟨some 35, .load false 1 (.t 34), none⟩,
      ⟨some 36, .mv (.t 6), none⟩,
      ⟨some 37, .slice true 1 (.t 35) (some (.t 36)) none none, none⟩,
      ⟨some 38, .faddr 0 (.t 2), none⟩,
      ⟨some 39, .load false 1 (.t 38), none⟩,
      ⟨some 40, .faddr 0 (.t 2), none⟩,
      ⟨some 41, .load false 1 (.t 40), none⟩,
      ⟨some 42, .len true (.t 41), none⟩,
      ⟨some 43, .build [.str ⟨#[]⟩, .int .i64 0] [(0, 1, (.t 39)), (1, 1, (.t 42))], none⟩,
      ⟨some 4, .mv (.t 37), none⟩,
      ⟨none, .store 2 (.t 5) (.t 43), none⟩])
     .ret))))⟩
theorem cop17 : copF Try.prog raws [([1, 2, 5, 6, 7], [])] 17 = some ir17 := by kernel_rfl
/-- tenterhook/scan.Skip -/
def ir18 : F := ⟨18, [.cell 2 true 2],
 (.seq (.ops none [⟨some 1, .box (.t 0), none⟩,
   ⟨some 2, .alloc [.str ⟨#[]⟩, .int .i64 0], none⟩])
  (.seq (.ops none [⟨some 6, .load true 2 (.t 1), none⟩,
    ⟨some 7, .call 24 true [] [(.t 6), (.c (.fn 33 [] []))], none⟩,
    ⟨some 5, .mv (.t 7), none⟩,
    ⟨some 8, .ext (.t 5) 0, none⟩,
    ⟨some 9, .ext (.t 5) 1, none⟩,
    ⟨some 4, .alloc [.str ⟨#[]⟩, .int .i64 0], none⟩,
    ⟨some 3, .mv (.t 8), none⟩,
    ⟨none, .store 2 (.t 4) (.t 9), none⟩])
   (.seq (.ops (some []) [⟨some 10, .faddr 0 (.t 1), none⟩,
     ⟨some 11, .load false 1 (.t 10), none⟩,
     ⟨some 12, .load true 2 (.t 1), none⟩,
     ⟨some 13, .call 29 true [] [(.t 12)], none⟩,
     ⟨some 14, .mv (.t 3), none⟩,
     ⟨some 15, .len true (.t 14), none⟩,
     ⟨some 16, .bin .add (.t 13) (.t 15), none⟩,
     ⟨some 17, .build [.str ⟨#[]⟩, .int .i64 0] [(0, 1, (.t 11)), (1, 1, (.t 16))], none⟩,
     ⟨none, .store 2 (.t 2) (.t 17), none⟩])
    .ret)))⟩
theorem cop18 : copF Try.prog raws [] 18 = some ir18 := by kernel_rfl
/-- tenterhook/tenterhookref06.Skip -/
def ir19 : F := ⟨24, [.cell 2 true 2],
 (.seq (.ops none [⟨some 1, .box (.t 0), none⟩,
   ⟨some 2, .alloc [.str ⟨#[]⟩, .int .i64 0], none⟩])
  (.seq (.ops none [⟨some 4, .load true 2 (.t 1), none⟩,
    ⟨some 5, .call 31 true [] [(.t 4)], none⟩,
    ⟨some 3, .mv (.t 5), none⟩])
   (.seq (.block 0 (.loop [1, 2, 3] []
      (.seq (.seq (.ops none [⟨some 6, .mv (.t 3), none⟩,
         ⟨some 7, .faddr 0 (.t 1), none⟩,
         ⟨some 8, .load false 1 (.t 7), none⟩,
         ⟨some 9, .len true (.t 8), none⟩,
         ⟨some 10, .bin .lss (.t 6) (.t 9), none⟩,
         ⟨some 11, .mv (.t 10), none⟩,
         ⟨some 12, .faddr 0 (.t 1), some (11, true)⟩,
         ⟨some 13, .load false 1 (.t 12), some (11, true)⟩,
         ⟨some 14, .mv (.t 3), some (11, true)⟩,
         ⟨some 15, .index (.t 13) (.t 14), some (11, true)⟩,
         ⟨some 16, .bin .leq (.t 15) (.c (.int .u8 32)), some (11, true)⟩,
         ⟨some 17, .pick (.t 11) (.t 16) (.c (.bool false)), none⟩])
        (.cond (.t 17)
         .skip
         (.exit 0)))
       (.block 1 (.ops none [⟨some 18, .mv (.t 3), none⟩,
         ⟨some 19, .bin .add (.t 18) (.c (.int .i64 1)), none⟩,
         ⟨some 3, .mv (.t 19), none⟩])))))
    (.seq (.ops none [⟨some 20, .faddr 0 (.t 1), none⟩,
      ⟨some 21, .load false 1 (.t 20), none⟩,
      ⟨some 22, .mv (.t 3), none⟩,
      ⟨some 23, .build [.str ⟨#[]⟩, .int .i64 0] [(0, 1, (.t 21)), (1, 1, (.t 22))], none⟩,
      ⟨none, .store 2 (.t 2) (.t 23), none⟩])
     .ret))))⟩
theorem cop19 : copF Try.prog raws [([1, 2, 3], [])] 19 = some ir19 := by kernel_rfl
/-- tenterhook/tenterhookref06.Left -/
def ir20 : F := ⟨8, [.t 2],
 (.seq (.ops none [⟨some 1, .box (.t 0), none⟩,
   ⟨some 2, .mv (.c (.str ⟨#[]⟩)), none⟩])
  (.seq (.ops (some []) [⟨some 3, .faddr 0 (.t 1), none⟩,
    ⟨some 4, .load false 1 (.t 3), none⟩,
    ⟨some 5, .load true 2 (.t 1), none⟩,
    ⟨some 6, .call 31 true [] [(.t 5)], none⟩,
    ⟨some 7, .slice true 1 (.t 4) (some (.t 6)) none none, none⟩,
    ⟨some 2, .mv (.t 7), none⟩])
   .ret))⟩
theorem cop20 : copF Try.prog raws [] 20 = some ir20 := by kernel_rfl
/-- tenterhook/tenterhookref06.Upper -/
def ir21 : F := ⟨35, [.t 2],
 (.seq (.ops none [⟨some 2, .mv (.c (.str ⟨#[]⟩)), none⟩])
  (.seq (.ops none [⟨some 5, .mv (.t 0), none⟩,
    ⟨some 6, .s2b (.t 5), none⟩,
    ⟨some 3, .mv (.t 6), none⟩])
   (.seq (.seq (.ops none [⟨some 4, .mv (.c (.int .i64 0)), none⟩])
     (.block 0 (.loop [3, 4] []
       (.seq (.seq (.ops none [⟨some 7, .mv (.t 4), none⟩,
          ⟨some 8, .mv (.t 3), none⟩,
          ⟨some 9, .len false (.t 8), none⟩,
          ⟨some 10, .bin .lss (.t 7) (.t 9), none⟩])
         (.cond (.t 10)
          .skip
          (.exit 0)))
        (.seq (.block 1 (.seq (.ops none [⟨some 13, .mv (.t 3), none⟩,
            ⟨some 14, .mv (.t 4), none⟩,
            ⟨some 15, .iaddr 1 (.t 13) (.t 14), none⟩,
            ⟨some 16, .load false 1 (.t 15), none⟩,
            ⟨some 17, .bin .geq (.t 16) (.c (.int .u8 97)), none⟩,
            ⟨some 18, .mv (.t 17), none⟩,
            ⟨some 19, .mv (.t 3), some (18, true)⟩,
            ⟨some 20, .mv (.t 4), some (18, true)⟩,
            ⟨some 21, .iaddr 1 (.t 19) (.t 20), some (18, true)⟩,
            ⟨some 22, .load false 1 (.t 21), some (18, true)⟩,
            ⟨some 23, .bin .leq (.t 22) (.c (.int .u8 122)), some (18, true)⟩,
            ⟨some 24, .pick (.t 18) (.t 23) (.c (.bool false)), none⟩])
           (.cond (.t 24)
            (.ops none [⟨some 25, .mv (.t 3), none⟩,
             ⟨some 26, .mv (.t 4), none⟩,
             ⟨some 27, .mv (.t 3), none⟩,
             ⟨some 28, .mv (.t 4), none⟩,
             ⟨some 29, .iaddr 1 (.t 27) (.t 28), none⟩,
             ⟨some 30, .load false 1 (.t 29), none⟩,
             ⟨some 31, .bin .sub (.t 30) (.c (.int .u8 32)), none⟩,
             ⟨some 32, .iaddr 1 (.t 25) (.t 26), none⟩,
             ⟨none, .store 1 (.t 32) (.t 31), none⟩])
            .skip)))
         (.ops none [⟨some 11, .mv (.t 4), none⟩,
          ⟨some 12, .bin .add (.t 11) (.c (.int .i64 1)), none⟩,
          ⟨some 4, .mv (.t 12), none⟩]))))))
    (.seq (.ops none [⟨some 33, .mv (.t 3), none⟩,
      ⟨some 34, .b2s (.t 33), none⟩,
      ⟨some 2, .mv (.t 34), none⟩])
     .ret))))⟩
theorem cop21 : copF Try.prog raws [([3, 4], [])] 21 = some ir21 := by kernel_rfl
/-- tenterhook/tenterhookref06.Texts -/
def ir22 : F := ⟨26, [.t 4],
 (.seq (.ops none [⟨some 4, .mv (.c (.bool false)), none⟩])
  (.seq (.seq (.ops none [⟨some 6, .mv (.t 0), none⟩,
     ⟨some 7, .len false (.t 6), none⟩,
     ⟨some 8, .mv (.t 1), none⟩,
     ⟨some 9, .len false (.t 8), none⟩,
     ⟨some 10, .bin .neq (.t 7) (.t 9), none⟩])
    (.cond (.t 10)
     (.seq (.ops none [⟨some 4, .mv (.c (.bool false)), none⟩])
      .ret)
     .skip))
   (.seq (.seq (.ops none [⟨some 5, .mv (.c (.int .i64 0)), none⟩])
     (.block 0 (.loop [0, 1, 5] []
       (.seq (.seq (.ops none [⟨some 11, .mv (.t 5), none⟩,
          ⟨some 12, .mv (.t 0), none⟩,
          ⟨some 13, .len false (.t 12), none⟩,
          ⟨some 14, .bin .lss (.t 11) (.t 13), none⟩])
         (.cond (.t 14)
          .skip
          (.exit 0)))
        (.seq (.block 1 (.seq (.ops (some []) [⟨some 17, .mv (.t 0), none⟩,
            ⟨some 18, .mv (.t 5), none⟩,
            ⟨some 19, .iaddr 1 (.t 17) (.t 18), none⟩,
            ⟨some 20, .load false 1 (.t 19), none⟩,
            ⟨some 21, .mv (.t 1), none⟩,
            ⟨some 22, .mv (.t 5), none⟩,
            ⟨some 23, .iaddr 1 (.t 21) (.t 22), none⟩,
            ⟨some 24, .load false 1 (.t 23), none⟩,
            ⟨some 25, .bin .neq (.t 20) (.t 24), none⟩])
           (.cond (.t 25)
            (.seq (.ops none [⟨some 4, .mv (.c (.bool false)), none⟩])
             .ret)
            .skip)))
         (.ops none [⟨some 15, .mv (.t 5), none⟩,
          ⟨some 16, .bin .add (.t 15) (.c (.int .i64 1)), none⟩,
          ⟨some 5, .mv (.t 16), none⟩]))))))
    (.seq (.ops none [⟨some 4, .mv (.c (.bool true)), none⟩])
     .ret))))⟩
theorem cop22 : copF Try.prog raws [([0, 1, 5], [])] 22 = some ir22 := by kernel_rfl
/-- tenterhook/tenterhookref06.Lines -/
def ir23 : F := ⟨31, [.t 2],
 (.seq (.ops none [⟨some 2, .mv (.c (.nil)), none⟩])
  (.seq (.ops none [⟨some 3, .mv (.c (.nil)), none⟩])
   (.seq (.ops none [⟨some 4, .mv (.c (.int .i64 0)), none⟩])
    (.seq (.seq (.ops none [⟨some 5, .mv (.c (.int .i64 0)), none⟩])
      (.block 0 (.loop [0, 3, 4, 5] [(3, none, 1)]
        (.seq (.seq (.ops none [⟨some 6, .mv (.t 5), none⟩,
           ⟨some 7, .mv (.t 0), none⟩,
           ⟨some 8, .len true (.t 7), none⟩,
           ⟨some 9, .bin .lss (.t 6) (.t 8), none⟩])
          (.cond (.t 9)
           .skip
           (.exit 0)))
         (.seq (.block 1 (.seq (.ops none [⟨some 12, .mv (.t 0), none⟩,
             ⟨some 13, .mv (.t 5), none⟩,
             ⟨some 14, .index (.t 12) (.t 13), none⟩,
             ⟨some 15, .bin .eql (.t 14) (.c (.int .u8 10)), none⟩])
            (.cond (.t 15)
             (.seq (.ops none [⟨some 16, .mv (.t 3), none⟩,
               ⟨some 17, .mv (.t 0), none⟩,
               ⟨some 18, .mv (.t 4), none⟩,
               ⟨some 19, .mv (.t 5), none⟩,
               ⟨some 20, .slice true 1 (.t 17) (some (.t 18)) (some (.t 19)) none, none⟩,
               ⟨some 21, .bslice 1 1 [.str ⟨#[]⟩] [(0, (.t 20))], none⟩,
               ⟨some 22, .append 1 (.t 16) (.t 21), none⟩,
               ⟨some 3, .mv (.t 22), none⟩])
              (.ops none [⟨some 23, .mv (.t 5), none⟩,
               ⟨some 24, .bin .add (.t 23) (.c (.int .i64 1)), none⟩,
               ⟨some 4, .mv (.t 24), none⟩]))
             .skip)))
          (.ops none [⟨some 10, .mv (.t 5), none⟩,
           ⟨some 11, .bin .add (.t 10) (.c (.int .i64 1)), none⟩,
           ⟨some 5, .mv (.t 11), none⟩]))))))
     (.seq (.ops none [⟨some 25, .mv (.t 3), none⟩,
       ⟨some 26, .mv (.t 0), none⟩,
       ⟨some 27, .mv (.t 4), none⟩,
       ⟨some 28, .slice true 1 (.t 26) (some (.t 27)) none none, none⟩,
       ⟨some 29, .bslice 1 1 [.str ⟨#[]⟩] [(0, (.t 28))], none⟩,
       ⟨some 30, .append 1 (.t 25) (.t 29), none⟩,
       ⟨some 2, .mv (.t 30), none⟩])
      .ret)))))⟩
theorem cop23 : copF Try.prog raws [([0, 3, 4, 5], [(3, none, 1)])] 23 = some ir23 := by kernel_rfl
/-- (tenterhook/scan.Src).cut -/
def ir24 : F := ⟨39, [.t 4, .cell 5 true 2],
 (.seq (.ops none [⟨some 2, .box (.t 0), none⟩,
   ⟨some 4, .mv (.c (.str ⟨#[]⟩)), none⟩,
   ⟨some 5, .alloc [.str ⟨#[]⟩, .int .i64 0], none⟩])
  (.seq (.ops none [⟨some 8, .load true 2 (.t 2), none⟩,
    ⟨some 9, .call 13 true [] [(.t 8)], none⟩,
    ⟨some 6, .mv (.t 9), none⟩])
   (.seq (.seq (.ops none [⟨some 10, .mv (.t 6), none⟩,
      ⟨some 11, .len true (.t 10), none⟩,
      ⟨some 12, .mv (.c (.int .i64 0)), none⟩])
     (.block 0 (.loop [1, 2, 5, 6, 11, 12] []
       (.seq (.ops none [⟨some 13, .bin .lss (.t 12) (.t 11), none⟩])
        (.seq (.cond (.t 13)
          .skip
          (.exit 0))
         (.seq (.block 1 (.seq (.ops none [⟨some 14, .mv (.t 12), none⟩,
             ⟨some 7, .mv (.t 14), none⟩])
            (.seq (.ops none [⟨some 15, .mv (.t 1), none⟩,
              ⟨some 16, .mv (.t 6), none⟩,
              ⟨some 17, .mv (.t 7), none⟩,
              ⟨some 18, .index (.t 16) (.t 17), none⟩,
              ⟨some 19, .callv false [] (.t 15) [(.t 18)], none⟩])
             (.cond (.t 19)
              (.seq (.ops (some []) [⟨some 20, .mv (.t 6), none⟩,
                ⟨some 21, .mv (.t 7), none⟩,
                ⟨some 22, .slice true 1 (.t 20) none (some (.t 21)) none, none⟩,
                ⟨some 23, .faddr 0 (.t 2), none⟩,
                ⟨some 24, .load false 1 (.t 23), none⟩,
                ⟨some 25, .load true 2 (.t 2), none⟩,
                ⟨some 26, .call 29 true [] [(.t 25)], none⟩,
                ⟨some 27, .mv (.t 7), none⟩,
                ⟨some 28, .bin .add (.t 26) (.t 27), none⟩,
                ⟨some 29, .bin .add (.t 28) (.c (.int .i64 1)), none⟩,
                ⟨some 30, .build [.str ⟨#[]⟩, .int .i64 0] [(0, 1, (.t 24)), (1, 1, (.t 29))], none⟩,
                ⟨some 4, .mv (.t 22), none⟩,
                ⟨none, .store 2 (.t 5) (.t 30), none⟩])
               .ret)
              .skip))))
          (.ops none [⟨some 31, .bin .add (.t 12) (.c (.int .i64 1)), none⟩,
           ⟨some 12, .mv (.t 31), none⟩])))))))
    (.seq (.ops (some []) [⟨some 32, .mv (.t 6), none⟩,
      ⟨some 33, .faddr 0 (.t 2), none⟩,
      ⟨some 34, .load false 1 (.t 33), none⟩,
      ⟨some 35, .faddr 0 (.t 2), none⟩,
      ⟨some 36, .load false 1 (.t 35), none⟩,
      ⟨some 37, .len true (.t 36), none⟩,
      ⟨some 38, .build [.str ⟨#[]⟩, .int .i64 0] [(0, 1, (.t 34)), (1, 1, (.t 37))], none⟩,
      ⟨some 4, .mv (.t 32), none⟩,
      ⟨none, .store 2 (.t 5) (.t 38), none⟩])
     .ret))))⟩
theorem cop24 : copF Try.prog raws [([1, 2, 5, 6, 11, 12], [])] 24 = some ir24 := by kernel_rfl
/-- tenterhook/scan.empty -/
def ir25 : F := ⟨5, [.t 2],
 (.seq (.ops none [⟨some 2, .mv (.c (.bool false)), none⟩])
  (.seq (.ops none [⟨some 3, .mv (.t 0), none⟩,
    ⟨some 4, .bin .leq (.t 3) (.c (.int .u8 32)), none⟩,
    ⟨some 2, .mv (.t 4), none⟩])
   .ret))⟩
theorem cop25 : copF Try.prog raws [] 25 = some ir25 := by kernel_rfl
/-- tenterhook/scan.split -/
def ir26 : F := ⟨4, [.t 2],
 (.seq (.ops none [⟨some 1, .box (.t 0), none⟩,
   ⟨some 2, .mv (.c (.nilfn)), none⟩])
  (.seq (.ops none [⟨some 3, .mkfunc 34 [] [(.t 1)], none⟩,
    ⟨some 2, .mv (.t 3), none⟩])
   .ret))⟩
theorem cop26 : copF Try.prog raws [] 26 = some ir26 := by kernel_rfl
/-- slices.Clip[[]string,string] -/
def ir27 : F := ⟨9, [.t 2],
 (.seq (.ops none [⟨some 2, .mv (.c (.nil)), none⟩])
  (.seq (.ops none [⟨some 3, .mv (.t 0), none⟩,
    ⟨some 4, .mv (.t 0), none⟩,
    ⟨some 5, .len false (.t 4), none⟩,
    ⟨some 6, .mv (.t 0), none⟩,
    ⟨some 7, .len false (.t 6), none⟩,
    ⟨some 8, .slice false 1 (.t 3) none (some (.t 5)) (some (.t 7)), none⟩,
    ⟨some 2, .mv (.t 8), none⟩])
   .ret))⟩
theorem cop27 : copF Try.prog raws [] 27 = some ir27 := by kernel_rfl
/-- tenterhook/scan.capital -/
def ir28 : F := ⟨13, [.t 2],
 (.seq (.ops none [⟨some 2, .mv (.c (.int .u8 0)), none⟩])
  (.seq (.seq (.ops none [⟨some 3, .mv (.t 0), none⟩,
     ⟨some 4, .bin .geq (.t 3) (.c (.int .u8 97)), none⟩,
     ⟨some 5, .mv (.t 4), none⟩,
     ⟨some 6, .mv (.t 0), some (5, true)⟩,
     ⟨some 7, .bin .leq (.t 6) (.c (.int .u8 122)), some (5, true)⟩,
     ⟨some 8, .pick (.t 5) (.t 7) (.c (.bool false)), none⟩])
    (.cond (.t 8)
     (.seq (.ops none [⟨some 9, .mv (.t 0), none⟩,
       ⟨some 10, .bin .sub (.t 9) (.c (.int .u8 97)), none⟩,
       ⟨some 11, .bin .add (.t 10) (.c (.int .u8 65)), none⟩,
       ⟨some 2, .mv (.t 11), none⟩])
      .ret)
     .skip))
   (.seq (.ops none [⟨some 12, .mv (.t 0), none⟩,
     ⟨some 2, .mv (.t 12), none⟩])
    .ret)))⟩
theorem cop28 : copF Try.prog raws [] 28 = some ir28 := by kernel_rfl
/-- (tenterhook/scan.Src).in -/
def ir29 : F := ⟨10, [.t 2],
 (.seq (.ops none [⟨some 1, .box (.t 0), none⟩,
   ⟨some 2, .mv (.c (.int .i64 0)), none⟩])
  (.seq (.ops none [⟨some 3, .faddr 1 (.t 1), none⟩,
    ⟨some 4, .load false 1 (.t 3), none⟩,
    ⟨some 5, .faddr 0 (.t 1), none⟩,
    ⟨some 6, .load false 1 (.t 5), none⟩,
    ⟨some 7, .len true (.t 6), none⟩,
    ⟨some 8, .minmax false [(.t 4), (.t 7)], none⟩,
    ⟨some 9, .minmax true [(.c (.int .i64 0)), (.t 8)], none⟩,
    ⟨some 2, .mv (.t 9), none⟩])
   .ret))⟩
theorem cop29 : copF Try.prog raws [] 29 = some ir29 := by kernel_rfl
/-- tenterhook/scan.Parse$1 -/
def ir30 : F := ⟨8, [.t 3],
 (.seq (.ops none [⟨some 3, .mv (.c (.bool false)), none⟩])
  (.seq (.ops none [⟨some 4, .mv (.t 0), none⟩,
    ⟨some 5, .conv .i64 (.t 4), none⟩,
    ⟨some 6, .load false 1 (.t 1), none⟩,
    ⟨some 7, .bin .eql (.t 5) (.t 6), none⟩,
    ⟨some 3, .mv (.t 7), none⟩])
   .ret))⟩
theorem cop30 : copF Try.prog raws [] 30 = some ir30 := by kernel_rfl
/-- tenterhook/tenterhookref06.at -/
def ir31 : F := ⟨10, [.t 2],
 (.seq (.ops none [⟨some 1, .box (.t 0), none⟩,
   ⟨some 2, .mv (.c (.int .i64 0)), none⟩])
  (.seq (.ops none [⟨some 3, .faddr 1 (.t 1), none⟩,
    ⟨some 4, .load false 1 (.t 3), none⟩,
    ⟨some 5, .faddr 0 (.t 1), none⟩,
    ⟨some 6, .load false 1 (.t 5), none⟩,
    ⟨some 7, .len true (.t 6), none⟩,
    ⟨some 8, .minmax false [(.t 4), (.t 7)], none⟩,
    ⟨some 9, .minmax true [(.c (.int .i64 0)), (.t 8)], none⟩,
    ⟨some 2, .mv (.t 9), none⟩])
   .ret))⟩
theorem cop31 : copF Try.prog raws [] 31 = some ir31 := by kernel_rfl
/-- tenterhook/tenterhookref06.is -/
def ir32 : F := ⟨17, [.t 4],
 (.seq (.ops none [⟨some 4, .mv (.c (.bool false)), none⟩])
  (.seq (.ops none [⟨some 5, .mv (.t 0), none⟩,
    ⟨some 6, .conv .i64 (.t 5), none⟩,
    ⟨some 7, .mv (.t 1), none⟩,
    ⟨some 8, .bin .eql (.t 6) (.t 7), none⟩,
    ⟨some 9, .mv (.t 8), none⟩,
    ⟨some 10, .mv (.t 1), some (9, false)⟩,
    ⟨some 11, .bin .eql (.t 10) (.c (.int .i64 32)), some (9, false)⟩,
    ⟨some 12, .mv (.t 11), some (9, false)⟩,
    ⟨some 13, .mv (.t 0), some (12, true)⟩,
    ⟨some 14, .bin .leq (.t 13) (.c (.int .u8 32)), some (12, true)⟩,
    ⟨some 15, .pick (.t 12) (.t 14) (.c (.bool false)), some (9, false)⟩,
    ⟨some 16, .pick (.t 9) (.c (.bool true)) (.t 15), none⟩,
    ⟨some 4, .mv (.t 16), none⟩])
   .ret))⟩
theorem cop32 : copF Try.prog raws [] 32 = some ir32 := by kernel_rfl
/-- tenterhook/scan.full -/
def ir33 : F := ⟨5, [.t 2],
 (.seq (.ops none [⟨some 2, .mv (.c (.bool false)), none⟩])
  (.seq (.ops none [⟨some 3, .mv (.t 0), none⟩,
    ⟨some 4, .bin .gtr (.t 3) (.c (.int .u8 32)), none⟩,
    ⟨some 2, .mv (.t 4), none⟩])
   .ret))⟩
theorem cop33 : copF Try.prog raws [] 33 = some ir33 := by kernel_rfl
/-- tenterhook/scan.split$1 -/
def ir34 : F := ⟨21, [],
 (.block 0 (.loop [0, 1] []
   (.block 1 (.seq (.ops none [⟨some 7, .load false 1 (.t 1), none⟩,
      ⟨some 8, .call 35 true [] [(.t 7), (.c (.str ⟨#[10]⟩))], none⟩,
      ⟨some 6, .mv (.t 8), none⟩,
      ⟨some 9, .ext (.t 6) 0, none⟩,
      ⟨some 10, .ext (.t 6) 1, none⟩,
      ⟨some 11, .ext (.t 6) 2, none⟩,
      ⟨some 3, .mv (.t 9), none⟩,
      ⟨some 4, .mv (.t 10), none⟩,
      ⟨some 5, .mv (.t 11), none⟩])
     (.seq (.seq (.ops none [⟨some 12, .mv (.t 0), none⟩,
        ⟨some 13, .mv (.t 3), none⟩,
        ⟨some 14, .callv false [] (.t 12) [(.t 13)], none⟩,
        ⟨some 15, .un .not (.t 14), none⟩,
        ⟨some 16, .mv (.t 15), none⟩,
        ⟨some 17, .mv (.t 5), some (16, false)⟩,
        ⟨some 18, .un .not (.t 17), some (16, false)⟩,
        ⟨some 19, .pick (.t 16) (.c (.bool true)) (.t 18), none⟩])
       (.cond (.t 19)
        .ret
        .skip))
      (.ops none [⟨some 20, .mv (.t 4), none⟩,
       ⟨none, .store 1 (.t 1) (.t 20), none⟩]))))))⟩
theorem cop34 : copF Try.prog raws [([0, 1], [])] 34 = some ir34 := by kernel_rfl
/-- strings.Cut -/
def ir35 : F := ⟨13, [.t 4, .t 5, .t 6],
 (.seq (.ops none [⟨some 4, .mv (.c (.str ⟨#[]⟩)), none⟩,
   ⟨some 5, .mv (.c (.str ⟨#[]⟩)), none⟩,
   ⟨some 6, .mv (.c (.bool false)), none⟩])
  (.seq (.ops none [⟨some 7, .mv (.t 0), none⟩,
    ⟨some 8, .mv (.t 1), none⟩,
    ⟨some 9, .call 36 true [] [(.t 7), (.t 8)], none⟩,
    ⟨some 10, .ext (.t 9) 0, none⟩,
    ⟨some 11, .ext (.t 9) 1, none⟩,
    ⟨some 12, .ext (.t 9) 2, none⟩,
    ⟨some 4, .mv (.t 10), none⟩,
    ⟨some 5, .mv (.t 11), none⟩,
    ⟨some 6, .mv (.t 12), none⟩])
   .ret))⟩
theorem cop35 : copF Try.prog raws [] 35 = some ir35 := by kernel_rfl
/-- internal/stringslite.Cut -/
def ir36 : F := ⟨23, [.t 4, .t 5, .t 6],
 (.seq (.ops none [⟨some 4, .mv (.c (.str ⟨#[]⟩)), none⟩,
   ⟨some 5, .mv (.c (.str ⟨#[]⟩)), none⟩,
   ⟨some 6, .mv (.c (.bool false)), none⟩])
  (.seq (.seq (.ops none [⟨some 8, .mv (.t 0), none⟩,
     ⟨some 9, .mv (.t 1), none⟩,
     ⟨some 10, .call 37 true [] [(.t 8), (.t 9)], none⟩,
     ⟨some 7, .mv (.t 10), none⟩])
    (.seq (.ops none [⟨some 11, .mv (.t 7), none⟩,
      ⟨some 12, .bin .geq (.t 11) (.c (.int .i64 0)), none⟩])
     (.cond (.t 12)
      (.seq (.ops (some []) [⟨some 13, .mv (.t 0), none⟩,
        ⟨some 14, .mv (.t 7), none⟩,
        ⟨some 15, .slice true 1 (.t 13) none (some (.t 14)) none, none⟩,
        ⟨some 16, .mv (.t 0), none⟩,
        ⟨some 17, .mv (.t 7), none⟩,
        ⟨some 18, .mv (.t 1), none⟩,
        ⟨some 19, .len true (.t 18), none⟩,
        ⟨some 20, .bin .add (.t 17) (.t 19), none⟩,
        ⟨some 21, .slice true 1 (.t 16) (some (.t 20)) none none, none⟩,
        ⟨some 4, .mv (.t 15), none⟩,
        ⟨some 5, .mv (.t 21), none⟩,
        ⟨some 6, .mv (.c (.bool true)), none⟩])
       .ret)
      .skip)))
   (.seq (.ops none [⟨some 22, .mv (.t 0), none⟩,
     ⟨some 4, .mv (.t 22), none⟩,
     ⟨some 5, .mv (.c (.str ⟨#[]⟩)), none⟩,
     ⟨some 6, .mv (.c (.bool false)), none⟩])
    .ret)))⟩
theorem cop36 : copF Try.prog raws [] 36 = some ir36 := by kernel_rfl
def tab : List (Nat × Def) := [(3, .pub ir3), (4, .pub ir4), (5, .pub ir5), (6, .pub ir6), (7, .pub ir7), (8, .pub ir8), (9, .pub ir9), (10, .pub ir10), (12, .pub ir12), (13, .pub ir13), (14, .pub ir14), (15, .pub ir15), (16, .pub ir16), (17, .pub ir17), (18, .pub ir18), (19, .pub ir19), (20, .pub ir20), (21, .pub ir21), (22, .pub ir22), (23, .pub ir23), (24, .pub ir24), (25, .pub ir25), (26, .pub ir26), (27, .body ir27), (28, .pub ir28), (29, .pub ir29), (30, .body ir30), (31, .pub ir31), (32, .pub ir32), (33, .pub ir33), (34, .body ir34), (35, .body ir35), (36, .body ir36)]
def env0 : Env := fun f => tab.lookup f
theorem env0Ok : EnvOk Try.prog raws env0 := envOk_of (tab := tab) (by
  unfold tab
  exact List.forall_mem_cons.2 ⟨⟨_, cop3⟩, List.forall_mem_cons.2 ⟨⟨_, cop4⟩, List.forall_mem_cons.2 ⟨⟨_, cop5⟩, List.forall_mem_cons.2 ⟨⟨_, cop6⟩, List.forall_mem_cons.2 ⟨⟨_, cop7⟩, List.forall_mem_cons.2 ⟨⟨_, cop8⟩, List.forall_mem_cons.2 ⟨⟨_, cop9⟩, List.forall_mem_cons.2 ⟨⟨_, cop10⟩, List.forall_mem_cons.2 ⟨⟨_, cop12⟩, List.forall_mem_cons.2 ⟨⟨_, cop13⟩, List.forall_mem_cons.2 ⟨⟨_, cop14⟩, List.forall_mem_cons.2 ⟨⟨_, cop15⟩, List.forall_mem_cons.2 ⟨⟨_, cop16⟩, List.forall_mem_cons.2 ⟨⟨_, cop17⟩, List.forall_mem_cons.2 ⟨⟨_, cop18⟩, List.forall_mem_cons.2 ⟨⟨_, cop19⟩, List.forall_mem_cons.2 ⟨⟨_, cop20⟩, List.forall_mem_cons.2 ⟨⟨_, cop21⟩, List.forall_mem_cons.2 ⟨⟨_, cop22⟩, List.forall_mem_cons.2 ⟨⟨_, cop23⟩, List.forall_mem_cons.2 ⟨⟨_, cop24⟩, List.forall_mem_cons.2 ⟨⟨_, cop25⟩, List.forall_mem_cons.2 ⟨⟨_, cop26⟩, List.forall_mem_cons.2 ⟨⟨_, cop27⟩, List.forall_mem_cons.2 ⟨⟨_, cop28⟩, List.forall_mem_cons.2 ⟨⟨_, cop29⟩, List.forall_mem_cons.2 ⟨⟨_, cop30⟩, List.forall_mem_cons.2 ⟨⟨_, cop31⟩, List.forall_mem_cons.2 ⟨⟨_, cop32⟩, List.forall_mem_cons.2 ⟨⟨_, cop33⟩, List.forall_mem_cons.2 ⟨⟨_, cop34⟩, List.forall_mem_cons.2 ⟨⟨_, cop35⟩, List.forall_mem_cons.2 ⟨⟨_, cop36⟩, List.forall_mem_nil _⟩⟩⟩⟩⟩⟩⟩⟩⟩⟩⟩⟩⟩⟩⟩⟩⟩⟩⟩⟩⟩⟩⟩⟩⟩⟩⟩⟩⟩⟩⟩⟩⟩)
end Go.Proofs.YtgiapbmeaobjiaaR
