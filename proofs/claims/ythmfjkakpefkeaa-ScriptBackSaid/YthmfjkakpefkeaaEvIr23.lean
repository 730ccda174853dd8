/- EvIr23: a part of the proof. -/
import Derived.Test.YthmfjkakpefkeaaEv4
import Derived.Test.YthmfjkakpefkeaaRows
import Derived.KernelRfl
set_option linter.unusedVariables false
set_option linter.unusedSimpArgs false
set_option maxRecDepth 20000
namespace Go.Proofs.YthmfjkakpefkeaaR
open Go Go.Proofs.YthmfjkakpefkeaaEv Go.Proofs
def raws : Nat → List Bool := fun f => ([(30, [true]), (31, [true, false]), (32, [true]), (33, [true]), (34, [true]), (35, [true]), (36, [true, false]), (37, [true])] : List (Nat × List Bool)).lookup f |>.getD []
/-- tenterhook/tenterhooklaw23.ScriptIs -/
def ir3 : F := ⟨43, [.t 4],
 (.seq (.ops none [⟨some 2, .box (.t 0), none⟩,
   ⟨some 4, .mv (.c (.bool false)), none⟩])
  (.seq (.ops none [⟨some 6, .call 6 true [] [], none⟩,
    ⟨some 5, .mv (.t 6), none⟩])
   (.seq (.seq (.ops none [⟨some 7, .load true 5 (.t 2), none⟩,
      ⟨some 8, .call 7 true [] [(.t 7)], none⟩,
      ⟨some 9, .un .not (.t 8), none⟩,
      ⟨some 10, .mv (.t 9), none⟩,
      ⟨some 11, .mv (.t 1), some (10, false)⟩,
      ⟨some 12, .len false (.t 11), some (10, false)⟩,
      ⟨some 13, .bin .gtr (.t 12) (.c (.int .i64 5000)), some (10, false)⟩,
      ⟨some 14, .pick (.t 10) (.c (.bool true)) (.t 13), none⟩])
     (.cond (.t 14)
      (.seq (.ops none [⟨some 15, .mv (.t 5), none⟩,
        ⟨some 4, .mv (.t 15), none⟩])
       .ret)
      .skip))
    (.seq (.ops (some [(3, 5), (11, 14), (12, 14), (13, 15)]) [⟨some 16, .mv (.t 5), none⟩,
      ⟨some 17, .mv (.t 16), none⟩,
      ⟨some 18, .load true 5 (.t 2), some (17, true)⟩,
      ⟨some 19, .call 9 false [] [(.t 18)], some (17, true)⟩,
      ⟨some 20, .call 8 true [] [(.t 19)], some (17, true)⟩,
      ⟨some 21, .load true 5 (.t 2), some (17, true)⟩,
      ⟨some 22, .call 10 true [] [(.t 21)], some (17, true)⟩,
      ⟨some 23, .eqB false (.t 20) (.t 22), some (17, true)⟩,
      ⟨some 24, .pick (.t 17) (.t 23) (.c (.bool false)), none⟩,
      ⟨some 25, .mv (.t 24), none⟩,
      ⟨some 26, .load true 5 (.t 2), some (25, true)⟩,
      ⟨some 27, .call 9 false [] [(.t 26)], some (25, true)⟩,
      ⟨some 28, .call 11 false [] [(.t 27)], some (25, true)⟩,
      ⟨some 29, .b2s (.t 28), some (25, true)⟩,
      ⟨some 30, .load true 5 (.t 2), some (25, true)⟩,
      ⟨some 31, .call 12 false [] [(.t 30)], some (25, true)⟩,
      ⟨some 32, .b2s (.t 31), some (25, true)⟩,
      ⟨some 33, .bin .eql (.t 29) (.t 32), some (25, true)⟩,
      ⟨some 34, .pick (.t 25) (.t 33) (.c (.bool false)), none⟩,
      ⟨some 35, .mv (.t 34), none⟩,
      ⟨some 36, .mv (.t 1), some (35, true)⟩,
      ⟨some 37, .call 15 false [] [(.t 36)], some (35, true)⟩,
      ⟨some 38, .call 14 false [] [(.t 37)], some (35, true)⟩,
      ⟨some 39, .mv (.t 1), some (35, true)⟩,
      ⟨some 40, .call 16 false [] [(.t 39)], some (35, true)⟩,
      ⟨some 41, .call 13 true [] [(.t 38), (.t 40)], some (35, true)⟩,
      ⟨some 42, .pick (.t 35) (.t 41) (.c (.bool false)), none⟩,
      ⟨some 4, .mv (.t 42), none⟩])
     .ret))))⟩
theorem cop3 : copF Try.prog raws [] 3 = some ir3 := by kernel_rfl
/-- tenterhook/tenterhooklaw23.ScriptBack -/
def ir4 : F := ⟨36, [.t 2],
 (.seq (.ops none [⟨some 1, .box (.t 0), none⟩,
   ⟨some 2, .mv (.c (.bool false)), none⟩])
  (.seq (.ops none [⟨some 5, .call 6 true [] [], none⟩,
    ⟨some 3, .mv (.t 5), none⟩])
   (.seq (.seq (.ops none [⟨some 6, .load true 5 (.t 1), none⟩,
      ⟨some 7, .call 7 true [] [(.t 6)], none⟩,
      ⟨some 8, .un .not (.t 7), none⟩])
     (.cond (.t 8)
      (.seq (.ops none [⟨some 9, .mv (.t 3), none⟩,
        ⟨some 2, .mv (.t 9), none⟩])
       .ret)
      .skip))
    (.seq (.ops none [⟨some 10, .load true 5 (.t 1), none⟩,
      ⟨some 11, .call 9 false [] [(.t 10)], none⟩,
      ⟨some 12, .call 11 false [] [(.t 11)], none⟩,
      ⟨some 4, .mv (.t 12), none⟩])
     (.seq (.seq (.ops none [⟨some 13, .load true 5 (.t 1), none⟩,
        ⟨some 14, .call 9 false [] [(.t 13)], none⟩,
        ⟨some 15, .call 8 true [] [(.t 14)], none⟩,
        ⟨some 16, .un .not (.t 15), none⟩])
       (.cond (.t 16)
        (.seq (.ops none [⟨some 17, .mv (.t 3), none⟩,
          ⟨some 18, .mv (.t 17), none⟩,
          ⟨some 19, .mv (.t 4), some (18, true)⟩,
          ⟨some 20, .len false (.t 19), some (18, true)⟩,
          ⟨some 21, .bin .eql (.t 20) (.c (.int .i64 0)), some (18, true)⟩,
          ⟨some 22, .pick (.t 18) (.t 21) (.c (.bool false)), none⟩,
          ⟨some 2, .mv (.t 22), none⟩])
         .ret)
        .skip))
      (.seq (.ops (some [(8, 10), (9, 10)]) [⟨some 23, .mv (.t 3), none⟩,
        ⟨some 24, .mv (.t 23), none⟩,
        ⟨some 25, .mv (.t 4), some (24, true)⟩,
        ⟨some 26, .len false (.t 25), some (24, true)⟩,
        ⟨some 27, .bin .gtr (.t 26) (.c (.int .i64 4)), some (24, true)⟩,
        ⟨some 28, .pick (.t 24) (.t 27) (.c (.bool false)), none⟩,
        ⟨some 29, .mv (.t 28), none⟩,
        ⟨some 30, .mv (.t 4), some (29, true)⟩,
        ⟨some 31, .call 15 false [] [(.t 30)], some (29, true)⟩,
        ⟨some 32, .call 14 false [] [(.t 31)], some (29, true)⟩,
        ⟨some 33, .load true 5 (.t 1), some (29, true)⟩,
        ⟨some 34, .call 13 true [] [(.t 32), (.t 33)], some (29, true)⟩,
        ⟨some 35, .pick (.t 29) (.t 34) (.c (.bool false)), none⟩,
        ⟨some 2, .mv (.t 35), none⟩])
       .ret))))))⟩
theorem cop4 : copF Try.prog raws [] 4 = some ir4 := by kernel_rfl
/-- tenterhook/tenterhooklaw23.ScriptGood -/
def ir5 : F := ⟨85, [.t 4],
 (.seq (.ops none [⟨some 4, .mv (.c (.bool false)), none⟩])
  (.seq (.ops none [⟨some 10, .call 6 true [] [], none⟩,
    ⟨some 5, .mv (.t 10), none⟩])
   (.seq (.seq (.ops none [⟨some 11, .mv (.t 0), none⟩,
      ⟨some 12, .len false (.t 11), none⟩,
      ⟨some 13, .bin .gtr (.t 12) (.c (.int .i64 5000)), none⟩])
     (.cond (.t 13)
      (.seq (.ops none [⟨some 14, .mv (.t 5), none⟩,
        ⟨some 4, .mv (.t 14), none⟩])
       .ret)
      .skip))
    (.seq (.ops none [⟨some 15, .mv (.t 0), none⟩,
      ⟨some 16, .call 15 false [] [(.t 15)], none⟩,
      ⟨some 6, .alloc [.str ⟨#[]⟩, .nil, .nil, .int .i64 0, .nil], none⟩,
      ⟨none, .store 5 (.t 6) (.t 16), none⟩])
     (.seq (.ops none [⟨some 17, .load true 5 (.t 6), none⟩,
       ⟨some 18, .call 11 false [] [(.t 17)], none⟩,
       ⟨some 7, .mv (.t 18), none⟩])
      (.seq (.seq (.ops (some [(5, 7), (6, 7)]) [⟨some 19, .load true 5 (.t 6), none⟩,
         ⟨some 20, .call 8 true [] [(.t 19)], none⟩,
         ⟨some 21, .un .not (.t 20), none⟩,
         ⟨some 22, .mv (.t 21), none⟩,
         ⟨some 23, .mv (.t 7), some (22, false)⟩,
         ⟨some 24, .call 15 false [] [(.t 23)], some (22, false)⟩,
         ⟨some 25, .call 14 false [] [(.t 24)], some (22, false)⟩,
         ⟨some 26, .load true 5 (.t 6), some (22, false)⟩,
         ⟨some 27, .call 14 false [] [(.t 26)], some (22, false)⟩,
         ⟨some 28, .call 13 true [] [(.t 25), (.t 27)], some (22, false)⟩,
         ⟨some 29, .un .not (.t 28), some (22, false)⟩,
         ⟨some 30, .pick (.t 22) (.c (.bool true)) (.t 29), none⟩])
        (.cond (.t 30)
         (.seq (.ops none [⟨some 4, .mv (.c (.bool false)), none⟩])
          .ret)
         .skip))
       (.seq (.ops none [⟨some 31, .bslice 1 0 [.int .u8 0] [], none⟩,
         ⟨some 32, .mv (.t 7), none⟩,
         ⟨some 33, .append 1 (.t 31) (.t 32), none⟩,
         ⟨some 8, .mv (.t 33), none⟩])
        (.seq (.ops none [⟨some 34, .mv (.t 8), none⟩,
          ⟨some 35, .mv (.t 1), none⟩,
          ⟨some 36, .bslice 1 1 [.int .u8 0] [(0, (.t 35))], none⟩,
          ⟨some 37, .append 1 (.t 34) (.t 36), none⟩,
          ⟨some 8, .mv (.t 37), none⟩])
         (.seq (.ops none [⟨some 38, .mv (.t 8), none⟩,
           ⟨some 39, .call 15 false [] [(.t 38)], none⟩,
           ⟨some 9, .alloc [.str ⟨#[]⟩, .nil, .nil, .int .i64 0, .nil], none⟩,
           ⟨none, .store 5 (.t 9) (.t 39), none⟩])
          (.seq (.ops none [⟨some 40, .mv (.t 5), none⟩,
            ⟨some 41, .mv (.t 40), none⟩,
            ⟨some 42, .faddr 4 (.t 6), some (41, true)⟩,
            ⟨some 43, .load false 1 (.t 42), some (41, true)⟩,
            ⟨some 44, .len false (.t 43), some (41, true)⟩,
            ⟨some 45, .bin .geq (.t 44) (.c (.int .i64 4000)), some (41, true)⟩,
            ⟨some 46, .mv (.t 45), some (41, true)⟩,
            ⟨some 47, .faddr 4 (.t 9), some (46, false)⟩,
            ⟨some 48, .load false 1 (.t 47), some (46, false)⟩,
            ⟨some 49, .len false (.t 48), some (46, false)⟩,
            ⟨some 50, .faddr 4 (.t 6), some (46, false)⟩,
            ⟨some 51, .load false 1 (.t 50), some (46, false)⟩,
            ⟨some 52, .len false (.t 51), some (46, false)⟩,
            ⟨some 53, .bin .add (.t 52) (.c (.int .i64 1)), some (46, false)⟩,
            ⟨some 54, .bin .eql (.t 49) (.t 53), some (46, false)⟩,
            ⟨some 55, .mv (.t 54), some (46, false)⟩,
            ⟨some 56, .faddr 4 (.t 9), some (55, true)⟩,
            ⟨some 57, .load false 1 (.t 56), some (55, true)⟩,
            ⟨some 58, .faddr 4 (.t 6), some (55, true)⟩,
            ⟨some 59, .load false 1 (.t 58), some (55, true)⟩,
            ⟨some 60, .len false (.t 59), some (55, true)⟩,
            ⟨some 61, .iaddr 3 (.t 57) (.t 60), some (55, true)⟩,
            ⟨some 62, .faddr 1 (.t 61), some (55, true)⟩,
            ⟨some 63, .load false 1 (.t 62), some (55, true)⟩,
            ⟨some 64, .mv (.t 1), some (55, true)⟩,
            ⟨some 65, .bin .quo (.t 64) (.c (.int .u8 4)), some (55, true)⟩,
            ⟨some 66, .conv .i64 (.t 65), some (55, true)⟩,
            ⟨some 67, .bin .eql (.t 63) (.t 66), some (55, true)⟩,
            ⟨some 68, .pick (.t 55) (.t 67) (.c (.bool false)), some (46, false)⟩,
            ⟨some 69, .pick (.t 46) (.c (.bool true)) (.t 68), some (41, true)⟩,
            ⟨some 70, .pick (.t 41) (.t 69) (.c (.bool false)), none⟩,
            ⟨some 71, .mv (.t 70), none⟩,
            ⟨some 72, .faddr 0 (.t 9), some (71, true)⟩,
            ⟨some 73, .load false 1 (.t 72), some (71, true)⟩,
            ⟨some 74, .faddr 0 (.t 6), some (71, true)⟩,
            ⟨some 75, .load false 1 (.t 74), some (71, true)⟩,
            ⟨some 76, .bin .eql (.t 73) (.t 75), some (71, true)⟩,
            ⟨some 77, .pick (.t 71) (.t 76) (.c (.bool false)), none⟩,
            ⟨some 78, .mv (.t 77), none⟩,
            ⟨some 79, .faddr 3 (.t 9), some (78, true)⟩,
            ⟨some 80, .load false 1 (.t 79), some (78, true)⟩,
            ⟨some 81, .faddr 3 (.t 6), some (78, true)⟩,
            ⟨some 82, .load false 1 (.t 81), some (78, true)⟩,
            ⟨some 83, .bin .eql (.t 80) (.t 82), some (78, true)⟩,
            ⟨some 84, .pick (.t 78) (.t 83) (.c (.bool false)), none⟩,
            ⟨some 4, .mv (.t 84), none⟩])
           .ret))))))))))⟩
theorem cop5 : copF Try.prog raws [] 5 = some ir5 := by kernel_rfl
/-- tenterhook/tenterhooklaw23.awake -/
def ir6 : F := ⟨38, [.t 0],
 (.seq (.ops none [⟨some 0, .mv (.c (.bool false)), none⟩])
  (.seq (.ops none [⟨some 3, .call 15 false [] [(.c (.nil))], none⟩,
    ⟨some 1, .alloc [.str ⟨#[]⟩, .nil, .nil, .int .i64 0, .nil], none⟩,
    ⟨none, .store 5 (.t 1) (.t 3), none⟩])
   (.seq (.ops none [⟨some 4, .bslice 1 6 [.int .u8 0] [(0, (.c (.int .u8 0))), (1, (.c (.int .u8 0))), (2, (.c (.int .u8 0))), (3, (.c (.int .u8 0))), (4, (.c (.int .u8 4))), (5, (.c (.int .u8 7)))], none⟩,
     ⟨some 5, .call 15 false [] [(.t 4)], none⟩,
     ⟨some 2, .alloc [.str ⟨#[]⟩, .nil, .nil, .int .i64 0, .nil], none⟩,
     ⟨none, .store 5 (.t 2) (.t 5), none⟩])
    (.seq (.ops none [⟨some 6, .faddr 3 (.t 1), none⟩,
      ⟨some 7, .load false 1 (.t 6), none⟩,
      ⟨some 8, .bin .eql (.t 7) (.c (.int .i64 1)), none⟩,
      ⟨some 9, .mv (.t 8), none⟩,
      ⟨some 10, .faddr 4 (.t 1), some (9, true)⟩,
      ⟨some 11, .load false 1 (.t 10), some (9, true)⟩,
      ⟨some 12, .len false (.t 11), some (9, true)⟩,
      ⟨some 13, .bin .eql (.t 12) (.c (.int .i64 0)), some (9, true)⟩,
      ⟨some 14, .pick (.t 9) (.t 13) (.c (.bool false)), none⟩,
      ⟨some 15, .mv (.t 14), none⟩,
      ⟨some 16, .faddr 3 (.t 2), some (15, true)⟩,
      ⟨some 17, .load false 1 (.t 16), some (15, true)⟩,
      ⟨some 18, .bin .eql (.t 17) (.c (.int .i64 5)), some (15, true)⟩,
      ⟨some 19, .pick (.t 15) (.t 18) (.c (.bool false)), none⟩,
      ⟨some 20, .mv (.t 19), none⟩,
      ⟨some 21, .faddr 4 (.t 2), some (20, true)⟩,
      ⟨some 22, .load false 1 (.t 21), some (20, true)⟩,
      ⟨some 23, .len false (.t 22), some (20, true)⟩,
      ⟨some 24, .bin .eql (.t 23) (.c (.int .i64 1)), some (20, true)⟩,
      ⟨some 25, .pick (.t 20) (.t 24) (.c (.bool false)), none⟩,
      ⟨some 26, .mv (.t 25), none⟩,
      ⟨some 27, .faddr 4 (.t 2), some (26, true)⟩,
      ⟨some 28, .load false 1 (.t 27), some (26, true)⟩,
      ⟨some 29, .iaddr 3 (.t 28) (.c (.int .i64 0)), some (26, true)⟩,
      ⟨some 30, .load true 3 (.t 29), some (26, true)⟩,
      ⟨some 31, .build [.bool false, .int .i64 0, .bool false] [(0, 1, (.c (.bool true))), (2, 1, (.c (.bool true))), (1, 1, (.c (.int .i64 1)))], some (26, true)⟩,
      ⟨some 32, .eqS false [1, 0, 1] (.t 30) (.t 31), some (26, true)⟩,
      ⟨some 33, .pick (.t 26) (.t 32) (.c (.bool false)), none⟩,
      ⟨some 34, .mv (.t 33), none⟩,
      ⟨some 35, .load true 5 (.t 1), some (34, true)⟩,
      ⟨some 36, .call 8 true [] [(.t 35)], some (34, true)⟩,
      ⟨some 37, .pick (.t 34) (.t 36) (.c (.bool false)), none⟩,
      ⟨some 0, .mv (.t 37), none⟩])
     .ret))))⟩
theorem cop6 : copF Try.prog raws [] 6 = some ir6 := by kernel_rfl
/-- tenterhook/tenterhookref23.Few -/
def ir7 : F := ⟨41, [.t 2],
 (.seq (.ops none [⟨some 1, .box (.t 0), none⟩,
   ⟨some 2, .mv (.c (.bool false)), none⟩])
  (.seq (.seq (.ops none [⟨some 3, .mv (.c (.int .i64 0)), none⟩])
    (.block 0 (.loop [1, 3] []
      (.seq (.seq (.ops none [⟨some 4, .mv (.t 3), none⟩,
         ⟨some 5, .faddr 2 (.t 1), none⟩,
         ⟨some 6, .load false 1 (.t 5), none⟩,
         ⟨some 7, .len false (.t 6), none⟩,
         ⟨some 8, .bin .lss (.t 4) (.t 7), none⟩])
        (.cond (.t 8)
         .skip
         (.exit 0)))
       (.seq (.block 1 (.seq (.ops none [⟨some 11, .faddr 2 (.t 1), none⟩,
           ⟨some 12, .load false 1 (.t 11), none⟩,
           ⟨some 13, .mv (.t 3), none⟩,
           ⟨some 14, .iaddr 2 (.t 12) (.t 13), none⟩,
           ⟨some 15, .faddr 0 (.t 14), none⟩,
           ⟨some 16, .load false 1 (.t 15), none⟩,
           ⟨some 17, .len true (.t 16), none⟩,
           ⟨some 18, .bin .gtr (.t 17) (.c (.int .i64 100)), none⟩])
          (.cond (.t 18)
           (.seq (.ops none [⟨some 2, .mv (.c (.bool false)), none⟩])
            .ret)
           .skip)))
        (.ops none [⟨some 9, .mv (.t 3), none⟩,
         ⟨some 10, .bin .add (.t 9) (.c (.int .i64 1)), none⟩,
         ⟨some 3, .mv (.t 10), none⟩]))))))
   (.seq (.ops none [⟨some 19, .faddr 0 (.t 1), none⟩,
     ⟨some 20, .load false 1 (.t 19), none⟩,
     ⟨some 21, .len true (.t 20), none⟩,
     ⟨some 22, .bin .leq (.t 21) (.c (.int .i64 700)), none⟩,
     ⟨some 23, .mv (.t 22), none⟩,
     ⟨some 24, .faddr 1 (.t 1), some (23, true)⟩,
     ⟨some 25, .load false 1 (.t 24), some (23, true)⟩,
     ⟨some 26, .len false (.t 25), some (23, true)⟩,
     ⟨some 27, .bin .leq (.t 26) (.c (.int .i64 10)), some (23, true)⟩,
     ⟨some 28, .pick (.t 23) (.t 27) (.c (.bool false)), none⟩,
     ⟨some 29, .mv (.t 28), none⟩,
     ⟨some 30, .faddr 2 (.t 1), some (29, true)⟩,
     ⟨some 31, .load false 1 (.t 30), some (29, true)⟩,
     ⟨some 32, .len false (.t 31), some (29, true)⟩,
     ⟨some 33, .bin .leq (.t 32) (.c (.int .i64 10)), some (29, true)⟩,
     ⟨some 34, .pick (.t 29) (.t 33) (.c (.bool false)), none⟩,
     ⟨some 35, .mv (.t 34), none⟩,
     ⟨some 36, .faddr 4 (.t 1), some (35, true)⟩,
     ⟨some 37, .load false 1 (.t 36), some (35, true)⟩,
     ⟨some 38, .len false (.t 37), some (35, true)⟩,
     ⟨some 39, .bin .leq (.t 38) (.c (.int .i64 300)), some (35, true)⟩,
     ⟨some 40, .pick (.t 35) (.t 39) (.c (.bool false)), none⟩,
     ⟨some 2, .mv (.t 40), none⟩])
    .ret)))⟩
theorem cop7 : copF Try.prog raws [([1, 3], [])] 7 = some ir7 := by kernel_rfl
/-- tenterhook/script.Sane -/
def ir8 : F := ⟨57, [.t 2],
 (.seq (.ops none [⟨some 1, .box (.t 0), none⟩,
   ⟨some 2, .mv (.c (.bool false)), none⟩])
  (.seq (.ops none [⟨some 7, .faddr 0 (.t 1), none⟩,
    ⟨some 8, .load false 1 (.t 7), none⟩,
    ⟨some 9, .len true (.t 8), none⟩,
    ⟨some 10, .bin .leq (.t 9) (.c (.int .i64 2000)), none⟩,
    ⟨some 11, .mv (.t 10), none⟩,
    ⟨some 12, .faddr 1 (.t 1), some (11, true)⟩,
    ⟨some 13, .load false 1 (.t 12), some (11, true)⟩,
    ⟨some 14, .len false (.t 13), some (11, true)⟩,
    ⟨some 15, .bin .leq (.t 14) (.c (.int .i64 4)), some (11, true)⟩,
    ⟨some 16, .pick (.t 11) (.t 15) (.c (.bool false)), none⟩,
    ⟨some 17, .mv (.t 16), none⟩,
    ⟨some 18, .faddr 2 (.t 1), some (17, true)⟩,
    ⟨some 19, .load false 1 (.t 18), some (17, true)⟩,
    ⟨some 20, .len false (.t 19), some (17, true)⟩,
    ⟨some 21, .bin .leq (.t 20) (.c (.int .i64 7)), some (17, true)⟩,
    ⟨some 22, .pick (.t 17) (.t 21) (.c (.bool false)), none⟩,
    ⟨some 23, .mv (.t 22), none⟩,
    ⟨some 24, .faddr 4 (.t 1), some (23, true)⟩,
    ⟨some 25, .load false 1 (.t 24), some (23, true)⟩,
    ⟨some 26, .len false (.t 25), some (23, true)⟩,
    ⟨some 27, .bin .leq (.t 26) (.c (.int .i64 4000)), some (23, true)⟩,
    ⟨some 28, .pick (.t 23) (.t 27) (.c (.bool false)), none⟩,
    ⟨some 3, .mv (.t 28), none⟩])
   (.seq (.ops none [⟨some 4, .mv (.c (.fn 17 [] [])), none⟩])
    (.seq (.ops none [⟨some 5, .mv (.c (.fn 19 [] [])), none⟩])
     (.seq (.ops none [⟨some 6, .mv (.c (.fn 21 [] [])), none⟩])
      (.seq (.ops none [⟨some 29, .mv (.t 3), none⟩,
        ⟨some 30, .mv (.t 29), none⟩,
        ⟨some 31, .faddr 3 (.t 1), some (30, true)⟩,
        ⟨some 32, .load false 1 (.t 31), some (30, true)⟩,
        ⟨some 33, .bin .sub (.t 32) (.c (.int .i64 1)), some (30, true)⟩,
        ⟨some 34, .call 22 true [] [(.t 33), (.c (.int .i64 255))], some (30, true)⟩,
        ⟨some 35, .pick (.t 30) (.t 34) (.c (.bool false)), none⟩,
        ⟨some 36, .mv (.t 35), none⟩,
        ⟨some 37, .faddr 1 (.t 1), some (36, true)⟩,
        ⟨some 38, .load false 1 (.t 37), some (36, true)⟩,
        ⟨some 39, .mv (.t 4), some (36, true)⟩,
        ⟨some 40, .call 23 true [] [(.t 38), (.t 39)], some (36, true)⟩,
        ⟨some 41, .un .not (.t 40), some (36, true)⟩,
        ⟨some 42, .pick (.t 36) (.t 41) (.c (.bool false)), none⟩,
        ⟨some 43, .mv (.t 42), none⟩,
        ⟨some 44, .faddr 2 (.t 1), some (43, true)⟩,
        ⟨some 45, .load false 1 (.t 44), some (43, true)⟩,
        ⟨some 46, .mv (.t 5), some (43, true)⟩,
        ⟨some 47, .call 24 true [] [(.t 45), (.t 46)], some (43, true)⟩,
        ⟨some 48, .un .not (.t 47), some (43, true)⟩,
        ⟨some 49, .pick (.t 43) (.t 48) (.c (.bool false)), none⟩,
        ⟨some 50, .mv (.t 49), none⟩,
        ⟨some 51, .faddr 4 (.t 1), some (50, true)⟩,
        ⟨some 52, .load false 1 (.t 51), some (50, true)⟩,
        ⟨some 53, .mv (.t 6), some (50, true)⟩,
        ⟨some 54, .call 25 true [] [(.t 52), (.t 53)], some (50, true)⟩,
        ⟨some 55, .un .not (.t 54), some (50, true)⟩,
        ⟨some 56, .pick (.t 50) (.t 55) (.c (.bool false)), none⟩,
        ⟨some 2, .mv (.t 56), none⟩])
       .ret))))))⟩
theorem cop8 : copF Try.prog raws [] 8 = some ir8 := by kernel_rfl
/-- tenterhook/tenterhooklaw23.plan -/
def ir9 : F := ⟨94, [.cell 2 true 5],
 (.seq (.ops none [⟨some 1, .box (.t 0), none⟩,
   ⟨some 2, .alloc [.str ⟨#[]⟩, .nil, .nil, .int .i64 0, .nil], none⟩])
  (.seq (.ops none [⟨some 8, .faddr 0 (.t 1), none⟩,
    ⟨some 9, .load false 1 (.t 8), none⟩,
    ⟨some 10, .faddr 3 (.t 1), none⟩,
    ⟨some 11, .load false 1 (.t 10), none⟩,
    ⟨some 12, .build [.str ⟨#[]⟩, .nil, .nil, .int .i64 0, .nil] [(0, 1, (.t 9)), (3, 1, (.t 11))], none⟩,
    ⟨some 3, .alloc [.str ⟨#[]⟩, .nil, .nil, .int .i64 0, .nil], none⟩,
    ⟨none, .store 5 (.t 3) (.t 12), none⟩])
   (.seq (.seq (.ops none [⟨some 4, .mv (.c (.int .i64 0)), none⟩])
     (.block 0 (.loop [1, 2, 3, 4] [(3, some 1, 3)]
       (.seq (.seq (.ops none [⟨some 13, .mv (.t 4), none⟩,
          ⟨some 14, .faddr 1 (.t 1), none⟩,
          ⟨some 15, .load false 1 (.t 14), none⟩,
          ⟨some 16, .len false (.t 15), none⟩,
          ⟨some 17, .bin .lss (.t 13) (.t 16), none⟩])
         (.cond (.t 17)
          .skip
          (.exit 0)))
        (.seq (.block 1 (.ops (some [(1, 21)]) [⟨some 20, .faddr 1 (.t 3), none⟩,
           ⟨some 21, .load false 1 (.t 20), none⟩,
           ⟨some 22, .faddr 1 (.t 1), none⟩,
           ⟨some 23, .load false 1 (.t 22), none⟩,
           ⟨some 24, .mv (.t 4), none⟩,
           ⟨some 25, .iaddr 3 (.t 23) (.t 24), none⟩,
           ⟨some 26, .faddr 0 (.t 25), none⟩,
           ⟨some 27, .load false 1 (.t 26), none⟩,
           ⟨some 28, .faddr 1 (.t 1), none⟩,
           ⟨some 29, .load false 1 (.t 28), none⟩,
           ⟨some 30, .mv (.t 4), none⟩,
           ⟨some 31, .iaddr 3 (.t 29) (.t 30), none⟩,
           ⟨some 32, .faddr 1 (.t 31), none⟩,
           ⟨some 33, .load false 1 (.t 32), none⟩,
           ⟨some 34, .faddr 1 (.t 1), none⟩,
           ⟨some 35, .load false 1 (.t 34), none⟩,
           ⟨some 36, .mv (.t 4), none⟩,
           ⟨some 37, .iaddr 3 (.t 35) (.t 36), none⟩,
           ⟨some 38, .faddr 2 (.t 37), none⟩,
           ⟨some 39, .load false 1 (.t 38), none⟩,
           ⟨some 40, .build [.int .i64 0, .int .i64 0, .int .i64 0] [(0, 1, (.t 27)), (1, 1, (.t 33)), (2, 1, (.t 39))], none⟩,
           ⟨some 41, .bslice 3 1 [.int .i64 0, .int .i64 0, .int .i64 0] [(0, (.t 40))], none⟩,
           ⟨some 42, .append 3 (.t 21) (.t 41), none⟩,
           ⟨some 43, .faddr 1 (.t 3), none⟩,
           ⟨none, .store 1 (.t 43) (.t 42), none⟩]))
         (.ops none [⟨some 18, .mv (.t 4), none⟩,
          ⟨some 19, .bin .add (.t 18) (.c (.int .i64 1)), none⟩,
          ⟨some 4, .mv (.t 19), none⟩]))))))
    (.seq (.seq (.ops none [⟨some 5, .mv (.c (.int .i64 0)), none⟩])
      (.block 2 (.loop [1, 2, 3, 5] [(3, some 2, 2)]
        (.seq (.seq (.ops none [⟨some 44, .mv (.t 5), none⟩,
           ⟨some 45, .faddr 2 (.t 1), none⟩,
           ⟨some 46, .load false 1 (.t 45), none⟩,
           ⟨some 47, .len false (.t 46), none⟩,
           ⟨some 48, .bin .lss (.t 44) (.t 47), none⟩])
          (.cond (.t 48)
           .skip
           (.exit 2)))
         (.seq (.block 3 (.ops (some [(1, 15)]) [⟨some 51, .faddr 2 (.t 3), none⟩,
            ⟨some 52, .load false 1 (.t 51), none⟩,
            ⟨some 53, .faddr 2 (.t 1), none⟩,
            ⟨some 54, .load false 1 (.t 53), none⟩,
            ⟨some 55, .mv (.t 5), none⟩,
            ⟨some 56, .iaddr 2 (.t 54) (.t 55), none⟩,
            ⟨some 57, .faddr 0 (.t 56), none⟩,
            ⟨some 58, .load false 1 (.t 57), none⟩,
            ⟨some 59, .faddr 2 (.t 1), none⟩,
            ⟨some 60, .load false 1 (.t 59), none⟩,
            ⟨some 61, .mv (.t 5), none⟩,
            ⟨some 62, .iaddr 2 (.t 60) (.t 61), none⟩,
            ⟨some 63, .faddr 1 (.t 62), none⟩,
            ⟨some 64, .load false 1 (.t 63), none⟩,
            ⟨some 65, .build [.str ⟨#[]⟩, .int .i64 0] [(0, 1, (.t 58)), (1, 1, (.t 64))], none⟩,
            ⟨some 66, .bslice 2 1 [.str ⟨#[]⟩, .int .i64 0] [(0, (.t 65))], none⟩,
            ⟨some 67, .append 2 (.t 52) (.t 66), none⟩,
            ⟨some 68, .faddr 2 (.t 3), none⟩,
            ⟨none, .store 1 (.t 68) (.t 67), none⟩]))
          (.ops none [⟨some 49, .mv (.t 5), none⟩,
           ⟨some 50, .bin .add (.t 49) (.c (.int .i64 1)), none⟩,
           ⟨some 5, .mv (.t 50), none⟩]))))))
     (.seq (.seq (.ops none [⟨some 6, .mv (.c (.int .i64 0)), none⟩])
       (.block 4 (.loop [1, 2, 3, 6] [(3, some 4, 3)]
         (.seq (.seq (.ops none [⟨some 69, .mv (.t 6), none⟩,
            ⟨some 70, .faddr 4 (.t 1), none⟩,
            ⟨some 71, .load false 1 (.t 70), none⟩,
            ⟨some 72, .len false (.t 71), none⟩,
            ⟨some 73, .bin .lss (.t 69) (.t 72), none⟩])
           (.cond (.t 73)
            .skip
            (.exit 4)))
          (.seq (.block 5 (.seq (.ops none [⟨some 76, .faddr 4 (.t 1), none⟩,
              ⟨some 77, .load false 1 (.t 76), none⟩,
              ⟨some 78, .mv (.t 6), none⟩,
              ⟨some 79, .iaddr 3 (.t 77) (.t 78), none⟩,
              ⟨some 80, .load true 3 (.t 79), none⟩,
              ⟨some 7, .alloc [.bool false, .int .i64 0, .bool false], none⟩,
              ⟨none, .store 3 (.t 7) (.t 80), none⟩])
             (.ops none [⟨some 81, .faddr 4 (.t 3), none⟩,
              ⟨some 82, .load false 1 (.t 81), none⟩,
              ⟨some 83, .faddr 0 (.t 7), none⟩,
              ⟨some 84, .load false 1 (.t 83), none⟩,
              ⟨some 85, .faddr 1 (.t 7), none⟩,
              ⟨some 86, .load false 1 (.t 85), none⟩,
              ⟨some 87, .faddr 2 (.t 7), none⟩,
              ⟨some 88, .load false 1 (.t 87), none⟩,
              ⟨some 89, .build [.bool false, .int .i64 0, .bool false] [(0, 1, (.t 84)), (1, 1, (.t 86)), (2, 1, (.t 88))], none⟩,
              ⟨some 90, .bslice 3 1 [.bool false, .int .i64 0, .bool false] [(0, (.t 89))], none⟩,
              ⟨some 91, .append 3 (.t 82) (.t 90), none⟩,
              ⟨some 92, .faddr 4 (.t 3), none⟩,
              ⟨none, .store 1 (.t 92) (.t 91), none⟩])))
           (.ops none [⟨some 74, .mv (.t 6), none⟩,
            ⟨some 75, .bin .add (.t 74) (.c (.int .i64 1)), none⟩,
            ⟨some 6, .mv (.t 75), none⟩]))))))
      (.seq (.ops none [⟨some 93, .load true 5 (.t 3), none⟩,
        ⟨none, .store 5 (.t 2) (.t 93), none⟩])
       .ret))))))⟩
theorem cop9 : copF Try.prog raws [([1, 2, 3, 4], [(3, some 1, 3)]), ([1, 2, 3, 5], [(3, some 2, 2)]), ([1, 2, 3, 6], [(3, some 4, 3)])] 9 = some ir9 := by kernel_rfl
/-- tenterhook/tenterhookref23.Sane -/
def ir10 : F := ⟨109, [.t 2],
 (.seq (.ops none [⟨some 1, .box (.t 0), none⟩,
   ⟨some 2, .mv (.c (.bool false)), none⟩])
  (.seq (.seq (.ops none [⟨some 6, .faddr 0 (.t 1), none⟩,
     ⟨some 7, .load false 1 (.t 6), none⟩,
     ⟨some 8, .len true (.t 7), none⟩,
     ⟨some 9, .bin .gtr (.t 8) (.c (.int .i64 2000)), none⟩,
     ⟨some 10, .mv (.t 9), none⟩,
     ⟨some 11, .faddr 1 (.t 1), some (10, false)⟩,
     ⟨some 12, .load false 1 (.t 11), some (10, false)⟩,
     ⟨some 13, .len false (.t 12), some (10, false)⟩,
     ⟨some 14, .bin .gtr (.t 13) (.c (.int .i64 4)), some (10, false)⟩,
     ⟨some 15, .pick (.t 10) (.c (.bool true)) (.t 14), none⟩,
     ⟨some 16, .mv (.t 15), none⟩,
     ⟨some 17, .faddr 2 (.t 1), some (16, false)⟩,
     ⟨some 18, .load false 1 (.t 17), some (16, false)⟩,
     ⟨some 19, .len false (.t 18), some (16, false)⟩,
     ⟨some 20, .bin .gtr (.t 19) (.c (.int .i64 7)), some (16, false)⟩,
     ⟨some 21, .pick (.t 16) (.c (.bool true)) (.t 20), none⟩,
     ⟨some 22, .mv (.t 21), none⟩,
     ⟨some 23, .faddr 3 (.t 1), some (22, false)⟩,
     ⟨some 24, .load false 1 (.t 23), some (22, false)⟩,
     ⟨some 25, .call 26 true [] [(.t 24), (.c (.int .i64 1)), (.c (.int .i64 256))], some (22, false)⟩,
     ⟨some 26, .un .not (.t 25), some (22, false)⟩,
     ⟨some 27, .pick (.t 22) (.c (.bool true)) (.t 26), none⟩,
     ⟨some 28, .mv (.t 27), none⟩,
     ⟨some 29, .faddr 4 (.t 1), some (28, false)⟩,
     ⟨some 30, .load false 1 (.t 29), some (28, false)⟩,
     ⟨some 31, .len false (.t 30), some (28, false)⟩,
     ⟨some 32, .bin .gtr (.t 31) (.c (.int .i64 4000)), some (28, false)⟩,
     ⟨some 33, .pick (.t 28) (.c (.bool true)) (.t 32), none⟩])
    (.cond (.t 33)
     (.seq (.ops none [⟨some 2, .mv (.c (.bool false)), none⟩])
      .ret)
     .skip))
   (.seq (.seq (.ops none [⟨some 3, .mv (.c (.int .i64 0)), none⟩])
     (.block 0 (.loop [1, 3] []
       (.seq (.seq (.ops none [⟨some 34, .mv (.t 3), none⟩,
          ⟨some 35, .faddr 1 (.t 1), none⟩,
          ⟨some 36, .load false 1 (.t 35), none⟩,
          ⟨some 37, .len false (.t 36), none⟩,
          ⟨some 38, .bin .lss (.t 34) (.t 37), none⟩])
         (.cond (.t 38)
          .skip
          (.exit 0)))
        (.seq (.block 1 (.seq (.ops none [⟨some 41, .faddr 1 (.t 1), none⟩,
            ⟨some 42, .load false 1 (.t 41), none⟩,
            ⟨some 43, .mv (.t 3), none⟩,
            ⟨some 44, .iaddr 3 (.t 42) (.t 43), none⟩,
            ⟨some 45, .faddr 0 (.t 44), none⟩,
            ⟨some 46, .load false 1 (.t 45), none⟩,
            ⟨some 47, .call 26 true [] [(.t 46), (.c (.int .i64 0)), (.c (.int .i64 3))], none⟩,
            ⟨some 48, .un .not (.t 47), none⟩,
            ⟨some 49, .mv (.t 48), none⟩,
            ⟨some 50, .faddr 1 (.t 1), some (49, false)⟩,
            ⟨some 51, .load false 1 (.t 50), some (49, false)⟩,
            ⟨some 52, .mv (.t 3), some (49, false)⟩,
            ⟨some 53, .iaddr 3 (.t 51) (.t 52), some (49, false)⟩,
            ⟨some 54, .faddr 1 (.t 53), some (49, false)⟩,
            ⟨some 55, .load false 1 (.t 54), some (49, false)⟩,
            ⟨some 56, .call 26 true [] [(.t 55), (.c (.int .i64 0)), (.c (.int .i64 65535))], some (49, false)⟩,
            ⟨some 57, .un .not (.t 56), some (49, false)⟩,
            ⟨some 58, .pick (.t 49) (.c (.bool true)) (.t 57), none⟩,
            ⟨some 59, .mv (.t 58), none⟩,
            ⟨some 60, .faddr 1 (.t 1), some (59, false)⟩,
            ⟨some 61, .load false 1 (.t 60), some (59, false)⟩,
            ⟨some 62, .mv (.t 3), some (59, false)⟩,
            ⟨some 63, .iaddr 3 (.t 61) (.t 62), some (59, false)⟩,
            ⟨some 64, .faddr 2 (.t 63), some (59, false)⟩,
            ⟨some 65, .load false 1 (.t 64), some (59, false)⟩,
            ⟨some 66, .call 26 true [] [(.t 65), (.c (.int .i64 0)), (.c (.int .i64 255))], some (59, false)⟩,
            ⟨some 67, .un .not (.t 66), some (59, false)⟩,
            ⟨some 68, .pick (.t 59) (.c (.bool true)) (.t 67), none⟩])
           (.cond (.t 68)
            (.seq (.ops none [⟨some 2, .mv (.c (.bool false)), none⟩])
             .ret)
            .skip)))
         (.ops none [⟨some 39, .mv (.t 3), none⟩,
          ⟨some 40, .bin .add (.t 39) (.c (.int .i64 1)), none⟩,
          ⟨some 3, .mv (.t 40), none⟩]))))))
    (.seq (.seq (.ops none [⟨some 4, .mv (.c (.int .i64 0)), none⟩])
      (.block 2 (.loop [1, 4] []
        (.seq (.seq (.ops none [⟨some 69, .mv (.t 4), none⟩,
           ⟨some 70, .faddr 2 (.t 1), none⟩,
           ⟨some 71, .load false 1 (.t 70), none⟩,
           ⟨some 72, .len false (.t 71), none⟩,
           ⟨some 73, .bin .lss (.t 69) (.t 72), none⟩])
          (.cond (.t 73)
           .skip
           (.exit 2)))
         (.seq (.block 3 (.seq (.ops none [⟨some 76, .faddr 2 (.t 1), none⟩,
             ⟨some 77, .load false 1 (.t 76), none⟩,
             ⟨some 78, .mv (.t 4), none⟩,
             ⟨some 79, .iaddr 2 (.t 77) (.t 78), none⟩,
             ⟨some 80, .faddr 0 (.t 79), none⟩,
             ⟨some 81, .load false 1 (.t 80), none⟩,
             ⟨some 82, .len true (.t 81), none⟩,
             ⟨some 83, .bin .gtr (.t 82) (.c (.int .i64 31)), none⟩,
             ⟨some 84, .mv (.t 83), none⟩,
             ⟨some 85, .faddr 2 (.t 1), some (84, false)⟩,
             ⟨some 86, .load false 1 (.t 85), some (84, false)⟩,
             ⟨some 87, .mv (.t 4), some (84, false)⟩,
             ⟨some 88, .iaddr 2 (.t 86) (.t 87), some (84, false)⟩,
             ⟨some 89, .faddr 1 (.t 88), some (84, false)⟩,
             ⟨some 90, .load false 1 (.t 89), some (84, false)⟩,
             ⟨some 91, .call 26 true [] [(.t 90), (.c (.int .i64 0)), (.c (.int .i64 4))], some (84, false)⟩,
             ⟨some 92, .un .not (.t 91), some (84, false)⟩,
             ⟨some 93, .pick (.t 84) (.c (.bool true)) (.t 92), none⟩])
            (.cond (.t 93)
             (.seq (.ops none [⟨some 2, .mv (.c (.bool false)), none⟩])
              .ret)
             .skip)))
          (.ops none [⟨some 74, .mv (.t 4), none⟩,
           ⟨some 75, .bin .add (.t 74) (.c (.int .i64 1)), none⟩,
           ⟨some 4, .mv (.t 75), none⟩]))))))
     (.seq (.seq (.ops none [⟨some 5, .mv (.c (.int .i64 0)), none⟩])
       (.block 4 (.loop [1, 5] []
         (.seq (.seq (.ops none [⟨some 94, .mv (.t 5), none⟩,
            ⟨some 95, .faddr 4 (.t 1), none⟩,
            ⟨some 96, .load false 1 (.t 95), none⟩,
            ⟨some 97, .len false (.t 96), none⟩,
            ⟨some 98, .bin .lss (.t 94) (.t 97), none⟩])
           (.cond (.t 98)
            .skip
            (.exit 4)))
          (.seq (.block 5 (.seq (.ops none [⟨some 101, .faddr 4 (.t 1), none⟩,
              ⟨some 102, .load false 1 (.t 101), none⟩,
              ⟨some 103, .mv (.t 5), none⟩,
              ⟨some 104, .iaddr 3 (.t 102) (.t 103), none⟩,
              ⟨some 105, .faddr 1 (.t 104), none⟩,
              ⟨some 106, .load false 1 (.t 105), none⟩,
              ⟨some 107, .call 26 true [] [(.t 106), (.c (.int .i64 0)), (.c (.int .i64 63))], none⟩,
              ⟨some 108, .un .not (.t 107), none⟩])
             (.cond (.t 108)
              (.seq (.ops none [⟨some 2, .mv (.c (.bool false)), none⟩])
               .ret)
              .skip)))
           (.ops none [⟨some 99, .mv (.t 5), none⟩,
            ⟨some 100, .bin .add (.t 99) (.c (.int .i64 1)), none⟩,
            ⟨some 5, .mv (.t 100), none⟩]))))))
      (.seq (.ops none [⟨some 2, .mv (.c (.bool true)), none⟩])
       .ret))))))⟩
theorem cop10 : copF Try.prog raws [([1, 3], []), ([1, 4], []), ([1, 5], [])] 10 = some ir10 := by kernel_rfl
/-- tenterhook/script.Put -/
def ir11 : F := ⟨101, [.t 2],
 (.seq (.ops none [⟨some 1, .box (.t 0), none⟩,
   ⟨some 2, .mv (.c (.nil)), none⟩])
  (.seq (.seq (.ops none [⟨some 10, .load true 5 (.t 1), none⟩,
     ⟨some 11, .call 8 true [] [(.t 10)], none⟩,
     ⟨some 12, .un .not (.t 11), none⟩])
    (.cond (.t 12)
     (.seq (.ops none [⟨some 2, .mv (.c (.nil)), none⟩])
      .ret)
     .skip))
   (.seq (.ops (some [(3, 5)]) [⟨some 13, .faddr 0 (.t 1), none⟩,
     ⟨some 14, .load false 1 (.t 13), none⟩,
     ⟨some 15, .len true (.t 14), none⟩,
     ⟨some 16, .call 27 false [] [(.t 15)], none⟩,
     ⟨some 17, .faddr 0 (.t 1), none⟩,
     ⟨some 18, .load false 1 (.t 17), none⟩,
     ⟨some 19, .append 1 (.t 16) (.t 18), none⟩,
     ⟨some 3, .mv (.t 19), none⟩])
    (.seq (.ops none [⟨some 20, .mv (.t 3), none⟩,
      ⟨some 21, .faddr 1 (.t 1), none⟩,
      ⟨some 22, .load false 1 (.t 21), none⟩,
      ⟨some 23, .len false (.t 22), none⟩,
      ⟨some 24, .conv .u8 (.t 23), none⟩,
      ⟨some 25, .bslice 1 1 [.int .u8 0] [(0, (.t 24))], none⟩,
      ⟨some 26, .append 1 (.t 20) (.t 25), none⟩,
      ⟨some 3, .mv (.t 26), none⟩])
     (.seq (.seq (.ops none [⟨some 27, .faddr 1 (.t 1), none⟩,
        ⟨some 28, .load false 1 (.t 27), none⟩,
        ⟨some 29, .len false (.t 28), none⟩,
        ⟨some 30, .mv (.c (.int .i64 0)), none⟩])
       (.block 0 (.loop [1, 3, 28, 29, 30] [(3, none, 1)]
         (.seq (.ops none [⟨some 31, .bin .lss (.t 30) (.t 29), none⟩])
          (.seq (.cond (.t 31)
            .skip
            (.exit 0))
           (.seq (.block 1 (.seq (.ops none [⟨some 32, .iaddr 3 (.t 28) (.t 30), none⟩,
               ⟨some 33, .load true 3 (.t 32), none⟩,
               ⟨some 5, .alloc [.int .i64 0, .int .i64 0, .int .i64 0], none⟩,
               ⟨none, .store 3 (.t 5) (.t 33), none⟩])
              (.ops (some [(4, 7), (5, 7), (4, 11), (5, 11), (8, 11), (9, 11), (2, 13), (4, 13), (5, 13), (7, 13), (8, 13), (9, 13)]) [⟨some 34, .mv (.t 3), none⟩,
               ⟨some 35, .faddr 0 (.t 5), none⟩,
               ⟨some 36, .load false 1 (.t 35), none⟩,
               ⟨some 37, .conv .u8 (.t 36), none⟩,
               ⟨some 38, .bslice 1 1 [.int .u8 0] [(0, (.t 37))], none⟩,
               ⟨some 39, .append 1 (.t 34) (.t 38), none⟩,
               ⟨some 40, .faddr 1 (.t 5), none⟩,
               ⟨some 41, .load false 1 (.t 40), none⟩,
               ⟨some 42, .call 27 false [] [(.t 41)], none⟩,
               ⟨some 43, .append 1 (.t 39) (.t 42), none⟩,
               ⟨some 44, .faddr 2 (.t 5), none⟩,
               ⟨some 45, .load false 1 (.t 44), none⟩,
               ⟨some 46, .conv .u8 (.t 45), none⟩,
               ⟨some 47, .bslice 1 1 [.int .u8 0] [(0, (.t 46))], none⟩,
               ⟨some 48, .append 1 (.t 43) (.t 47), none⟩,
               ⟨some 3, .mv (.t 48), none⟩])))
            (.ops none [⟨some 49, .bin .add (.t 30) (.c (.int .i64 1)), none⟩,
             ⟨some 30, .mv (.t 49), none⟩])))))))
      (.seq (.ops none [⟨some 50, .mv (.t 3), none⟩,
        ⟨some 51, .faddr 2 (.t 1), none⟩,
        ⟨some 52, .load false 1 (.t 51), none⟩,
        ⟨some 53, .len false (.t 52), none⟩,
        ⟨some 54, .conv .u8 (.t 53), none⟩,
        ⟨some 55, .bslice 1 1 [.int .u8 0] [(0, (.t 54))], none⟩,
        ⟨some 56, .append 1 (.t 50) (.t 55), none⟩,
        ⟨some 3, .mv (.t 56), none⟩])
       (.seq (.seq (.ops none [⟨some 57, .faddr 2 (.t 1), none⟩,
          ⟨some 58, .load false 1 (.t 57), none⟩,
          ⟨some 59, .len false (.t 58), none⟩,
          ⟨some 60, .mv (.c (.int .i64 0)), none⟩])
         (.block 2 (.loop [1, 3, 58, 59, 60] [(3, none, 1)]
           (.seq (.ops none [⟨some 61, .bin .lss (.t 60) (.t 59), none⟩])
            (.seq (.cond (.t 61)
              .skip
              (.exit 2))
             (.seq (.block 3 (.seq (.ops none [⟨some 62, .iaddr 2 (.t 58) (.t 60), none⟩,
                 ⟨some 63, .load true 2 (.t 62), none⟩,
                 ⟨some 7, .alloc [.str ⟨#[]⟩, .int .i64 0], none⟩,
                 ⟨none, .store 2 (.t 7) (.t 63), none⟩])
                (.ops (some [(5, 8), (6, 8), (5, 11), (6, 11), (9, 11), (2, 13), (5, 13), (6, 13), (8, 13), (9, 13)]) [⟨some 64, .mv (.t 3), none⟩,
                 ⟨some 65, .faddr 0 (.t 7), none⟩,
                 ⟨some 66, .load false 1 (.t 65), none⟩,
                 ⟨some 67, .len true (.t 66), none⟩,
                 ⟨some 68, .conv .u8 (.t 67), none⟩,
                 ⟨some 69, .bslice 1 1 [.int .u8 0] [(0, (.t 68))], none⟩,
                 ⟨some 70, .append 1 (.t 64) (.t 69), none⟩,
                 ⟨some 71, .faddr 0 (.t 7), none⟩,
                 ⟨some 72, .load false 1 (.t 71), none⟩,
                 ⟨some 73, .append 1 (.t 70) (.t 72), none⟩,
                 ⟨some 74, .faddr 1 (.t 7), none⟩,
                 ⟨some 75, .load false 1 (.t 74), none⟩,
                 ⟨some 76, .conv .u8 (.t 75), none⟩,
                 ⟨some 77, .bslice 1 1 [.int .u8 0] [(0, (.t 76))], none⟩,
                 ⟨some 78, .append 1 (.t 73) (.t 77), none⟩,
                 ⟨some 3, .mv (.t 78), none⟩])))
              (.ops none [⟨some 79, .bin .add (.t 60) (.c (.int .i64 1)), none⟩,
               ⟨some 60, .mv (.t 79), none⟩])))))))
        (.seq (.ops none [⟨some 80, .mv (.t 3), none⟩,
          ⟨some 81, .faddr 3 (.t 1), none⟩,
          ⟨some 82, .load false 1 (.t 81), none⟩,
          ⟨some 83, .bin .sub (.t 82) (.c (.int .i64 1)), none⟩,
          ⟨some 84, .conv .u8 (.t 83), none⟩,
          ⟨some 85, .bslice 1 1 [.int .u8 0] [(0, (.t 84))], none⟩,
          ⟨some 86, .append 1 (.t 80) (.t 85), none⟩,
          ⟨some 3, .mv (.t 86), none⟩])
         (.seq (.seq (.ops none [⟨some 87, .faddr 4 (.t 1), none⟩,
            ⟨some 88, .load false 1 (.t 87), none⟩,
            ⟨some 89, .len false (.t 88), none⟩,
            ⟨some 90, .mv (.c (.int .i64 0)), none⟩])
           (.block 4 (.loop [3, 88, 89, 90] [(3, none, 1)]
             (.seq (.ops none [⟨some 91, .bin .lss (.t 90) (.t 89), none⟩])
              (.seq (.cond (.t 91)
                .skip
                (.exit 4))
               (.seq (.block 5 (.seq (.ops none [⟨some 92, .iaddr 3 (.t 88) (.t 90), none⟩,
                   ⟨some 93, .load true 3 (.t 92), none⟩,
                   ⟨some 9, .alloc [.bool false, .int .i64 0, .bool false], none⟩,
                   ⟨none, .store 3 (.t 9) (.t 93), none⟩])
                  (.ops none [⟨some 94, .mv (.t 3), none⟩,
                   ⟨some 95, .load true 3 (.t 9), none⟩,
                   ⟨some 96, .call 28 true [] [(.t 95)], none⟩,
                   ⟨some 97, .bslice 1 1 [.int .u8 0] [(0, (.t 96))], none⟩,
                   ⟨some 98, .append 1 (.t 94) (.t 97), none⟩,
                   ⟨some 3, .mv (.t 98), none⟩])))
                (.ops none [⟨some 99, .bin .add (.t 90) (.c (.int .i64 1)), none⟩,
                 ⟨some 90, .mv (.t 99), none⟩])))))))
          (.seq (.ops none [⟨some 100, .mv (.t 3), none⟩,
            ⟨some 2, .mv (.t 100), none⟩])
           .ret))))))))))⟩
theorem cop11 : copF Try.prog raws [([1, 3, 28, 29, 30], [(3, none, 1)]), ([1, 3, 58, 59, 60], [(3, none, 1)]), ([3, 88, 89, 90], [(3, none, 1)])] 11 = some ir11 := by kernel_rfl
/-- tenterhook/tenterhookref23.Put -/
def ir12 : F := ⟨135, [.t 2],
 (.seq (.ops none [⟨some 1, .box (.t 0), none⟩,
   ⟨some 2, .mv (.c (.nil)), none⟩])
  (.seq (.seq (.ops none [⟨some 10, .load true 5 (.t 1), none⟩,
     ⟨some 11, .call 10 true [] [(.t 10)], none⟩,
     ⟨some 12, .un .not (.t 11), none⟩])
    (.cond (.t 12)
     (.seq (.ops none [⟨some 2, .mv (.c (.nil)), none⟩])
      .ret)
     .skip))
   (.seq (.ops none [⟨some 13, .faddr 0 (.t 1), none⟩,
     ⟨some 14, .load false 1 (.t 13), none⟩,
     ⟨some 15, .len true (.t 14), none⟩,
     ⟨some 16, .bin .quo (.t 15) (.c (.int .i64 256)), none⟩,
     ⟨some 17, .conv .u8 (.t 16), none⟩,
     ⟨some 18, .faddr 0 (.t 1), none⟩,
     ⟨some 19, .load false 1 (.t 18), none⟩,
     ⟨some 20, .len true (.t 19), none⟩,
     ⟨some 21, .bin .rem (.t 20) (.c (.int .i64 256)), none⟩,
     ⟨some 22, .conv .u8 (.t 21), none⟩,
     ⟨some 23, .bslice 1 2 [.int .u8 0] [(0, (.t 17)), (1, (.t 22))], none⟩,
     ⟨some 3, .mv (.t 23), none⟩])
    (.seq (.ops none [⟨some 24, .mv (.t 3), none⟩,
      ⟨some 25, .faddr 0 (.t 1), none⟩,
      ⟨some 26, .load false 1 (.t 25), none⟩,
      ⟨some 27, .append 1 (.t 24) (.t 26), none⟩,
      ⟨some 3, .mv (.t 27), none⟩])
     (.seq (.ops none [⟨some 28, .mv (.t 3), none⟩,
       ⟨some 29, .faddr 1 (.t 1), none⟩,
       ⟨some 30, .load false 1 (.t 29), none⟩,
       ⟨some 31, .len false (.t 30), none⟩,
       ⟨some 32, .conv .u8 (.t 31), none⟩,
       ⟨some 33, .bslice 1 1 [.int .u8 0] [(0, (.t 32))], none⟩,
       ⟨some 34, .append 1 (.t 28) (.t 33), none⟩,
       ⟨some 3, .mv (.t 34), none⟩])
      (.seq (.seq (.ops none [⟨some 4, .mv (.c (.int .i64 0)), none⟩])
        (.block 0 (.loop [1, 3, 4] [(3, none, 1)]
          (.seq (.seq (.ops none [⟨some 35, .mv (.t 4), none⟩,
             ⟨some 36, .faddr 1 (.t 1), none⟩,
             ⟨some 37, .load false 1 (.t 36), none⟩,
             ⟨some 38, .len false (.t 37), none⟩,
             ⟨some 39, .bin .lss (.t 35) (.t 38), none⟩])
            (.cond (.t 39)
             .skip
             (.exit 0)))
           (.seq (.block 1 (.seq (.ops none [⟨some 42, .faddr 1 (.t 1), none⟩,
               ⟨some 43, .load false 1 (.t 42), none⟩,
               ⟨some 44, .mv (.t 4), none⟩,
               ⟨some 45, .iaddr 3 (.t 43) (.t 44), none⟩,
               ⟨some 46, .load true 3 (.t 45), none⟩,
               ⟨some 5, .alloc [.int .i64 0, .int .i64 0, .int .i64 0], none⟩,
               ⟨none, .store 3 (.t 5) (.t 46), none⟩])
              (.ops none [⟨some 47, .mv (.t 3), none⟩,
               ⟨some 48, .faddr 0 (.t 5), none⟩,
               ⟨some 49, .load false 1 (.t 48), none⟩,
               ⟨some 50, .conv .u8 (.t 49), none⟩,
               ⟨some 51, .faddr 1 (.t 5), none⟩,
               ⟨some 52, .load false 1 (.t 51), none⟩,
               ⟨some 53, .bin .quo (.t 52) (.c (.int .i64 256)), none⟩,
               ⟨some 54, .conv .u8 (.t 53), none⟩,
               ⟨some 55, .faddr 1 (.t 5), none⟩,
               ⟨some 56, .load false 1 (.t 55), none⟩,
               ⟨some 57, .bin .rem (.t 56) (.c (.int .i64 256)), none⟩,
               ⟨some 58, .conv .u8 (.t 57), none⟩,
               ⟨some 59, .faddr 2 (.t 5), none⟩,
               ⟨some 60, .load false 1 (.t 59), none⟩,
               ⟨some 61, .conv .u8 (.t 60), none⟩,
               ⟨some 62, .bslice 1 4 [.int .u8 0] [(0, (.t 50)), (1, (.t 54)), (2, (.t 58)), (3, (.t 61))], none⟩,
               ⟨some 63, .append 1 (.t 47) (.t 62), none⟩,
               ⟨some 3, .mv (.t 63), none⟩])))
            (.ops none [⟨some 40, .mv (.t 4), none⟩,
             ⟨some 41, .bin .add (.t 40) (.c (.int .i64 1)), none⟩,
             ⟨some 4, .mv (.t 41), none⟩]))))))
       (.seq (.ops none [⟨some 64, .mv (.t 3), none⟩,
         ⟨some 65, .faddr 2 (.t 1), none⟩,
         ⟨some 66, .load false 1 (.t 65), none⟩,
         ⟨some 67, .len false (.t 66), none⟩,
         ⟨some 68, .conv .u8 (.t 67), none⟩,
         ⟨some 69, .bslice 1 1 [.int .u8 0] [(0, (.t 68))], none⟩,
         ⟨some 70, .append 1 (.t 64) (.t 69), none⟩,
         ⟨some 3, .mv (.t 70), none⟩])
        (.seq (.seq (.ops none [⟨some 6, .mv (.c (.int .i64 0)), none⟩])
          (.block 2 (.loop [1, 3, 6] [(3, none, 1)]
            (.seq (.seq (.ops none [⟨some 71, .mv (.t 6), none⟩,
               ⟨some 72, .faddr 2 (.t 1), none⟩,
               ⟨some 73, .load false 1 (.t 72), none⟩,
               ⟨some 74, .len false (.t 73), none⟩,
               ⟨some 75, .bin .lss (.t 71) (.t 74), none⟩])
              (.cond (.t 75)
               .skip
               (.exit 2)))
             (.seq (.block 3 (.seq (.ops none [⟨some 78, .faddr 2 (.t 1), none⟩,
                 ⟨some 79, .load false 1 (.t 78), none⟩,
                 ⟨some 80, .mv (.t 6), none⟩,
                 ⟨some 81, .iaddr 2 (.t 79) (.t 80), none⟩,
                 ⟨some 82, .load true 2 (.t 81), none⟩,
                 ⟨some 7, .alloc [.str ⟨#[]⟩, .int .i64 0], none⟩,
                 ⟨none, .store 2 (.t 7) (.t 82), none⟩])
                (.seq (.ops none [⟨some 83, .mv (.t 3), none⟩,
                  ⟨some 84, .faddr 0 (.t 7), none⟩,
                  ⟨some 85, .load false 1 (.t 84), none⟩,
                  ⟨some 86, .len true (.t 85), none⟩,
                  ⟨some 87, .conv .u8 (.t 86), none⟩,
                  ⟨some 88, .bslice 1 1 [.int .u8 0] [(0, (.t 87))], none⟩,
                  ⟨some 89, .append 1 (.t 83) (.t 88), none⟩,
                  ⟨some 3, .mv (.t 89), none⟩])
                 (.seq (.ops none [⟨some 90, .mv (.t 3), none⟩,
                   ⟨some 91, .faddr 0 (.t 7), none⟩,
                   ⟨some 92, .load false 1 (.t 91), none⟩,
                   ⟨some 93, .append 1 (.t 90) (.t 92), none⟩,
                   ⟨some 3, .mv (.t 93), none⟩])
                  (.ops none [⟨some 94, .mv (.t 3), none⟩,
                   ⟨some 95, .faddr 1 (.t 7), none⟩,
                   ⟨some 96, .load false 1 (.t 95), none⟩,
                   ⟨some 97, .conv .u8 (.t 96), none⟩,
                   ⟨some 98, .bslice 1 1 [.int .u8 0] [(0, (.t 97))], none⟩,
                   ⟨some 99, .append 1 (.t 94) (.t 98), none⟩,
                   ⟨some 3, .mv (.t 99), none⟩])))))
              (.ops none [⟨some 76, .mv (.t 6), none⟩,
               ⟨some 77, .bin .add (.t 76) (.c (.int .i64 1)), none⟩,
               ⟨some 6, .mv (.t 77), none⟩]))))))
         (.seq (.ops none [⟨some 100, .mv (.t 3), none⟩,
           ⟨some 101, .faddr 3 (.t 1), none⟩,
           ⟨some 102, .load false 1 (.t 101), none⟩,
           ⟨some 103, .bin .sub (.t 102) (.c (.int .i64 1)), none⟩,
           ⟨some 104, .conv .u8 (.t 103), none⟩,
           ⟨some 105, .bslice 1 1 [.int .u8 0] [(0, (.t 104))], none⟩,
           ⟨some 106, .append 1 (.t 100) (.t 105), none⟩,
           ⟨some 3, .mv (.t 106), none⟩])
          (.seq (.seq (.ops none [⟨some 8, .mv (.c (.int .i64 0)), none⟩])
            (.block 4 (.loop [1, 3, 8] [(3, none, 1)]
              (.seq (.seq (.ops none [⟨some 107, .mv (.t 8), none⟩,
                 ⟨some 108, .faddr 4 (.t 1), none⟩,
                 ⟨some 109, .load false 1 (.t 108), none⟩,
                 ⟨some 110, .len false (.t 109), none⟩,
                 ⟨some 111, .bin .lss (.t 107) (.t 110), none⟩])
                (.cond (.t 111)
                 .skip
                 (.exit 4)))
               (.seq (.block 5 (.seq (.ops none [⟨some 114, .faddr 4 (.t 1), none⟩,
                   ⟨some 115, .load false 1 (.t 114), none⟩,
                   ⟨some 116, .mv (.t 8), none⟩,
                   ⟨some 117, .iaddr 3 (.t 115) (.t 116), none⟩,
                   ⟨some 118, .load true 3 (.t 117), none⟩,
                   ⟨some 9, .alloc [.bool false, .int .i64 0, .bool false], none⟩,
                   ⟨none, .store 3 (.t 9) (.t 118), none⟩])
                  (.ops (some []) [⟨some 119, .mv (.t 3), none⟩,
                   ⟨some 120, .faddr 0 (.t 9), none⟩,
                   ⟨some 121, .load false 1 (.t 120), none⟩,
                   ⟨some 122, .call 29 true [] [(.t 121), (.c (.int .i64 1))], none⟩,
                   ⟨some 123, .faddr 2 (.t 9), none⟩,
                   ⟨some 124, .load false 1 (.t 123), none⟩,
                   ⟨some 125, .call 29 true [] [(.t 124), (.c (.int .i64 2))], none⟩,
                   ⟨some 126, .bin .add (.t 122) (.t 125), none⟩,
                   ⟨some 127, .faddr 1 (.t 9), none⟩,
                   ⟨some 128, .load false 1 (.t 127), none⟩,
                   ⟨some 129, .bin .mul (.c (.int .i64 4)) (.t 128), none⟩,
                   ⟨some 130, .bin .add (.t 126) (.t 129), none⟩,
                   ⟨some 131, .conv .u8 (.t 130), none⟩,
                   ⟨some 132, .bslice 1 1 [.int .u8 0] [(0, (.t 131))], none⟩,
                   ⟨some 133, .append 1 (.t 119) (.t 132), none⟩,
                   ⟨some 3, .mv (.t 133), none⟩])))
                (.ops none [⟨some 112, .mv (.t 8), none⟩,
                 ⟨some 113, .bin .add (.t 112) (.c (.int .i64 1)), none⟩,
                 ⟨some 8, .mv (.t 113), none⟩]))))))
           (.seq (.ops none [⟨some 134, .mv (.t 3), none⟩,
             ⟨some 2, .mv (.t 134), none⟩])
            .ret)))))))))))⟩
theorem cop12 : copF Try.prog raws [([1, 3, 4], [(3, none, 1)]), ([1, 3, 6], [(3, none, 1)]), ([1, 3, 8], [(3, none, 1)])] 12 = some ir12 := by kernel_rfl
/-- tenterhook/tenterhookref23.Same -/
def ir13 : F := ⟨101, [.t 4],
 (.seq (.ops none [⟨some 2, .box (.t 0), none⟩,
   ⟨some 3, .box (.t 1), none⟩,
   ⟨some 4, .mv (.c (.bool false)), none⟩])
  (.seq (.seq (.ops none [⟨some 8, .faddr 0 (.t 2), none⟩,
     ⟨some 9, .load false 1 (.t 8), none⟩,
     ⟨some 10, .faddr 0 (.t 3), none⟩,
     ⟨some 11, .load false 1 (.t 10), none⟩,
     ⟨some 12, .bin .neq (.t 9) (.t 11), none⟩,
     ⟨some 13, .mv (.t 12), none⟩,
     ⟨some 14, .faddr 1 (.t 2), some (13, false)⟩,
     ⟨some 15, .load false 1 (.t 14), some (13, false)⟩,
     ⟨some 16, .len false (.t 15), some (13, false)⟩,
     ⟨some 17, .faddr 1 (.t 3), some (13, false)⟩,
     ⟨some 18, .load false 1 (.t 17), some (13, false)⟩,
     ⟨some 19, .len false (.t 18), some (13, false)⟩,
     ⟨some 20, .bin .neq (.t 16) (.t 19), some (13, false)⟩,
     ⟨some 21, .pick (.t 13) (.c (.bool true)) (.t 20), none⟩,
     ⟨some 22, .mv (.t 21), none⟩,
     ⟨some 23, .faddr 2 (.t 2), some (22, false)⟩,
     ⟨some 24, .load false 1 (.t 23), some (22, false)⟩,
     ⟨some 25, .len false (.t 24), some (22, false)⟩,
     ⟨some 26, .faddr 2 (.t 3), some (22, false)⟩,
     ⟨some 27, .load false 1 (.t 26), some (22, false)⟩,
     ⟨some 28, .len false (.t 27), some (22, false)⟩,
     ⟨some 29, .bin .neq (.t 25) (.t 28), some (22, false)⟩,
     ⟨some 30, .pick (.t 22) (.c (.bool true)) (.t 29), none⟩,
     ⟨some 31, .mv (.t 30), none⟩,
     ⟨some 32, .faddr 3 (.t 2), some (31, false)⟩,
     ⟨some 33, .load false 1 (.t 32), some (31, false)⟩,
     ⟨some 34, .faddr 3 (.t 3), some (31, false)⟩,
     ⟨some 35, .load false 1 (.t 34), some (31, false)⟩,
     ⟨some 36, .bin .neq (.t 33) (.t 35), some (31, false)⟩,
     ⟨some 37, .pick (.t 31) (.c (.bool true)) (.t 36), none⟩,
     ⟨some 38, .mv (.t 37), none⟩,
     ⟨some 39, .faddr 4 (.t 2), some (38, false)⟩,
     ⟨some 40, .load false 1 (.t 39), some (38, false)⟩,
     ⟨some 41, .len false (.t 40), some (38, false)⟩,
     ⟨some 42, .faddr 4 (.t 3), some (38, false)⟩,
     ⟨some 43, .load false 1 (.t 42), some (38, false)⟩,
     ⟨some 44, .len false (.t 43), some (38, false)⟩,
     ⟨some 45, .bin .neq (.t 41) (.t 44), some (38, false)⟩,
     ⟨some 46, .pick (.t 38) (.c (.bool true)) (.t 45), none⟩])
    (.cond (.t 46)
     (.seq (.ops none [⟨some 4, .mv (.c (.bool false)), none⟩])
      .ret)
     .skip))
   (.seq (.seq (.ops none [⟨some 5, .mv (.c (.int .i64 0)), none⟩])
     (.block 0 (.loop [2, 3, 5] []
       (.seq (.seq (.ops none [⟨some 47, .mv (.t 5), none⟩,
          ⟨some 48, .faddr 1 (.t 2), none⟩,
          ⟨some 49, .load false 1 (.t 48), none⟩,
          ⟨some 50, .len false (.t 49), none⟩,
          ⟨some 51, .bin .lss (.t 47) (.t 50), none⟩])
         (.cond (.t 51)
          .skip
          (.exit 0)))
        (.seq (.block 1 (.seq (.ops (some []) [⟨some 54, .faddr 1 (.t 2), none⟩,
            ⟨some 55, .load false 1 (.t 54), none⟩,
            ⟨some 56, .mv (.t 5), none⟩,
            ⟨some 57, .iaddr 3 (.t 55) (.t 56), none⟩,
            ⟨some 58, .load true 3 (.t 57), none⟩,
            ⟨some 59, .faddr 1 (.t 3), none⟩,
            ⟨some 60, .load false 1 (.t 59), none⟩,
            ⟨some 61, .mv (.t 5), none⟩,
            ⟨some 62, .iaddr 3 (.t 60) (.t 61), none⟩,
            ⟨some 63, .load true 3 (.t 62), none⟩,
            ⟨some 64, .eqS true [0, 0, 0] (.t 58) (.t 63), none⟩])
           (.cond (.t 64)
            (.seq (.ops none [⟨some 4, .mv (.c (.bool false)), none⟩])
             .ret)
            .skip)))
         (.ops none [⟨some 52, .mv (.t 5), none⟩,
          ⟨some 53, .bin .add (.t 52) (.c (.int .i64 1)), none⟩,
          ⟨some 5, .mv (.t 53), none⟩]))))))
    (.seq (.seq (.ops none [⟨some 6, .mv (.c (.int .i64 0)), none⟩])
      (.block 2 (.loop [2, 3, 6] []
        (.seq (.seq (.ops none [⟨some 65, .mv (.t 6), none⟩,
           ⟨some 66, .faddr 2 (.t 2), none⟩,
           ⟨some 67, .load false 1 (.t 66), none⟩,
           ⟨some 68, .len false (.t 67), none⟩,
           ⟨some 69, .bin .lss (.t 65) (.t 68), none⟩])
          (.cond (.t 69)
           .skip
           (.exit 2)))
         (.seq (.block 3 (.seq (.ops (some []) [⟨some 72, .faddr 2 (.t 2), none⟩,
             ⟨some 73, .load false 1 (.t 72), none⟩,
             ⟨some 74, .mv (.t 6), none⟩,
             ⟨some 75, .iaddr 2 (.t 73) (.t 74), none⟩,
             ⟨some 76, .load true 2 (.t 75), none⟩,
             ⟨some 77, .faddr 2 (.t 3), none⟩,
             ⟨some 78, .load false 1 (.t 77), none⟩,
             ⟨some 79, .mv (.t 6), none⟩,
             ⟨some 80, .iaddr 2 (.t 78) (.t 79), none⟩,
             ⟨some 81, .load true 2 (.t 80), none⟩,
             ⟨some 82, .eqS true [2, 0] (.t 76) (.t 81), none⟩])
            (.cond (.t 82)
             (.seq (.ops none [⟨some 4, .mv (.c (.bool false)), none⟩])
              .ret)
             .skip)))
          (.ops none [⟨some 70, .mv (.t 6), none⟩,
           ⟨some 71, .bin .add (.t 70) (.c (.int .i64 1)), none⟩,
           ⟨some 6, .mv (.t 71), none⟩]))))))
     (.seq (.seq (.ops none [⟨some 7, .mv (.c (.int .i64 0)), none⟩])
       (.block 4 (.loop [2, 3, 7] []
         (.seq (.seq (.ops none [⟨some 83, .mv (.t 7), none⟩,
            ⟨some 84, .faddr 4 (.t 2), none⟩,
            ⟨some 85, .load false 1 (.t 84), none⟩,
            ⟨some 86, .len false (.t 85), none⟩,
            ⟨some 87, .bin .lss (.t 83) (.t 86), none⟩])
           (.cond (.t 87)
            .skip
            (.exit 4)))
          (.seq (.block 5 (.seq (.ops (some []) [⟨some 90, .faddr 4 (.t 2), none⟩,
              ⟨some 91, .load false 1 (.t 90), none⟩,
              ⟨some 92, .mv (.t 7), none⟩,
              ⟨some 93, .iaddr 3 (.t 91) (.t 92), none⟩,
              ⟨some 94, .load true 3 (.t 93), none⟩,
              ⟨some 95, .faddr 4 (.t 3), none⟩,
              ⟨some 96, .load false 1 (.t 95), none⟩,
              ⟨some 97, .mv (.t 7), none⟩,
              ⟨some 98, .iaddr 3 (.t 96) (.t 97), none⟩,
              ⟨some 99, .load true 3 (.t 98), none⟩,
              ⟨some 100, .eqS true [1, 0, 1] (.t 94) (.t 99), none⟩])
             (.cond (.t 100)
              (.seq (.ops none [⟨some 4, .mv (.c (.bool false)), none⟩])
               .ret)
              .skip)))
           (.ops none [⟨some 88, .mv (.t 7), none⟩,
            ⟨some 89, .bin .add (.t 88) (.c (.int .i64 1)), none⟩,
            ⟨some 7, .mv (.t 89), none⟩]))))))
      (.seq (.ops none [⟨some 4, .mv (.c (.bool true)), none⟩])
       .ret))))))⟩
theorem cop13 : copF Try.prog raws [([2, 3, 5], []), ([2, 3, 6], []), ([2, 3, 7], [])] 13 = some ir13 := by kernel_rfl
/-- tenterhook/tenterhooklaw23.planned -/
def ir14 : F := ⟨94, [.cell 2 true 5],
 (.seq (.ops none [⟨some 1, .box (.t 0), none⟩,
   ⟨some 2, .alloc [.str ⟨#[]⟩, .nil, .nil, .int .i64 0, .nil], none⟩])
  (.seq (.ops none [⟨some 8, .faddr 0 (.t 1), none⟩,
    ⟨some 9, .load false 1 (.t 8), none⟩,
    ⟨some 10, .faddr 3 (.t 1), none⟩,
    ⟨some 11, .load false 1 (.t 10), none⟩,
    ⟨some 12, .build [.str ⟨#[]⟩, .nil, .nil, .int .i64 0, .nil] [(0, 1, (.t 9)), (3, 1, (.t 11))], none⟩,
    ⟨some 3, .alloc [.str ⟨#[]⟩, .nil, .nil, .int .i64 0, .nil], none⟩,
    ⟨none, .store 5 (.t 3) (.t 12), none⟩])
   (.seq (.seq (.ops none [⟨some 4, .mv (.c (.int .i64 0)), none⟩])
     (.block 0 (.loop [1, 2, 3, 4] [(3, some 1, 3)]
       (.seq (.seq (.ops none [⟨some 13, .mv (.t 4), none⟩,
          ⟨some 14, .faddr 1 (.t 1), none⟩,
          ⟨some 15, .load false 1 (.t 14), none⟩,
          ⟨some 16, .len false (.t 15), none⟩,
          ⟨some 17, .bin .lss (.t 13) (.t 16), none⟩])
         (.cond (.t 17)
          .skip
          (.exit 0)))
        (.seq (.block 1 (.ops (some [(1, 21)]) [⟨some 20, .faddr 1 (.t 3), none⟩,
           ⟨some 21, .load false 1 (.t 20), none⟩,
           ⟨some 22, .faddr 1 (.t 1), none⟩,
           ⟨some 23, .load false 1 (.t 22), none⟩,
           ⟨some 24, .mv (.t 4), none⟩,
           ⟨some 25, .iaddr 3 (.t 23) (.t 24), none⟩,
           ⟨some 26, .faddr 0 (.t 25), none⟩,
           ⟨some 27, .load false 1 (.t 26), none⟩,
           ⟨some 28, .faddr 1 (.t 1), none⟩,
           ⟨some 29, .load false 1 (.t 28), none⟩,
           ⟨some 30, .mv (.t 4), none⟩,
           ⟨some 31, .iaddr 3 (.t 29) (.t 30), none⟩,
           ⟨some 32, .faddr 1 (.t 31), none⟩,
           ⟨some 33, .load false 1 (.t 32), none⟩,
           ⟨some 34, .faddr 1 (.t 1), none⟩,
           ⟨some 35, .load false 1 (.t 34), none⟩,
           ⟨some 36, .mv (.t 4), none⟩,
           ⟨some 37, .iaddr 3 (.t 35) (.t 36), none⟩,
           ⟨some 38, .faddr 2 (.t 37), none⟩,
           ⟨some 39, .load false 1 (.t 38), none⟩,
           ⟨some 40, .build [.int .i64 0, .int .i64 0, .int .i64 0] [(0, 1, (.t 27)), (1, 1, (.t 33)), (2, 1, (.t 39))], none⟩,
           ⟨some 41, .bslice 3 1 [.int .i64 0, .int .i64 0, .int .i64 0] [(0, (.t 40))], none⟩,
           ⟨some 42, .append 3 (.t 21) (.t 41), none⟩,
           ⟨some 43, .faddr 1 (.t 3), none⟩,
           ⟨none, .store 1 (.t 43) (.t 42), none⟩]))
         (.ops none [⟨some 18, .mv (.t 4), none⟩,
          ⟨some 19, .bin .add (.t 18) (.c (.int .i64 1)), none⟩,
          ⟨some 4, .mv (.t 19), none⟩]))))))
    (.seq (.seq (.ops none [⟨some 5, .mv (.c (.int .i64 0)), none⟩])
      (.block 2 (.loop [1, 2, 3, 5] [(3, some 2, 2)]
        (.seq (.seq (.ops none [⟨some 44, .mv (.t 5), none⟩,
           ⟨some 45, .faddr 2 (.t 1), none⟩,
           ⟨some 46, .load false 1 (.t 45), none⟩,
           ⟨some 47, .len false (.t 46), none⟩,
           ⟨some 48, .bin .lss (.t 44) (.t 47), none⟩])
          (.cond (.t 48)
           .skip
           (.exit 2)))
         (.seq (.block 3 (.ops (some [(1, 15)]) [⟨some 51, .faddr 2 (.t 3), none⟩,
            ⟨some 52, .load false 1 (.t 51), none⟩,
            ⟨some 53, .faddr 2 (.t 1), none⟩,
            ⟨some 54, .load false 1 (.t 53), none⟩,
            ⟨some 55, .mv (.t 5), none⟩,
            ⟨some 56, .iaddr 2 (.t 54) (.t 55), none⟩,
            ⟨some 57, .faddr 0 (.t 56), none⟩,
            ⟨some 58, .load false 1 (.t 57), none⟩,
            ⟨some 59, .faddr 2 (.t 1), none⟩,
            ⟨some 60, .load false 1 (.t 59), none⟩,
            ⟨some 61, .mv (.t 5), none⟩,
            ⟨some 62, .iaddr 2 (.t 60) (.t 61), none⟩,
            ⟨some 63, .faddr 1 (.t 62), none⟩,
            ⟨some 64, .load false 1 (.t 63), none⟩,
            ⟨some 65, .build [.str ⟨#[]⟩, .int .i64 0] [(0, 1, (.t 58)), (1, 1, (.t 64))], none⟩,
            ⟨some 66, .bslice 2 1 [.str ⟨#[]⟩, .int .i64 0] [(0, (.t 65))], none⟩,
            ⟨some 67, .append 2 (.t 52) (.t 66), none⟩,
            ⟨some 68, .faddr 2 (.t 3), none⟩,
            ⟨none, .store 1 (.t 68) (.t 67), none⟩]))
          (.ops none [⟨some 49, .mv (.t 5), none⟩,
           ⟨some 50, .bin .add (.t 49) (.c (.int .i64 1)), none⟩,
           ⟨some 5, .mv (.t 50), none⟩]))))))
     (.seq (.seq (.ops none [⟨some 6, .mv (.c (.int .i64 0)), none⟩])
       (.block 4 (.loop [1, 2, 3, 6] [(3, some 4, 3)]
         (.seq (.seq (.ops none [⟨some 69, .mv (.t 6), none⟩,
            ⟨some 70, .faddr 4 (.t 1), none⟩,
            ⟨some 71, .load false 1 (.t 70), none⟩,
            ⟨some 72, .len false (.t 71), none⟩,
            ⟨some 73, .bin .lss (.t 69) (.t 72), none⟩])
           (.cond (.t 73)
            .skip
            (.exit 4)))
          (.seq (.block 5 (.seq (.ops none [⟨some 76, .faddr 4 (.t 1), none⟩,
              ⟨some 77, .load false 1 (.t 76), none⟩,
              ⟨some 78, .mv (.t 6), none⟩,
              ⟨some 79, .iaddr 3 (.t 77) (.t 78), none⟩,
              ⟨some 80, .load true 3 (.t 79), none⟩,
              ⟨some 7, .alloc [.bool false, .int .i64 0, .bool false], none⟩,
              ⟨none, .store 3 (.t 7) (.t 80), none⟩])
             (.ops none [⟨some 81, .faddr 4 (.t 3), none⟩,
              ⟨some 82, .load false 1 (.t 81), none⟩,
              ⟨some 83, .faddr 0 (.t 7), none⟩,
              ⟨some 84, .load false 1 (.t 83), none⟩,
              ⟨some 85, .faddr 1 (.t 7), none⟩,
              ⟨some 86, .load false 1 (.t 85), none⟩,
              ⟨some 87, .faddr 2 (.t 7), none⟩,
              ⟨some 88, .load false 1 (.t 87), none⟩,
              ⟨some 89, .build [.bool false, .int .i64 0, .bool false] [(0, 1, (.t 84)), (1, 1, (.t 86)), (2, 1, (.t 88))], none⟩,
              ⟨some 90, .bslice 3 1 [.bool false, .int .i64 0, .bool false] [(0, (.t 89))], none⟩,
              ⟨some 91, .append 3 (.t 82) (.t 90), none⟩,
              ⟨some 92, .faddr 4 (.t 3), none⟩,
              ⟨none, .store 1 (.t 92) (.t 91), none⟩])))
           (.ops none [⟨some 74, .mv (.t 6), none⟩,
            ⟨some 75, .bin .add (.t 74) (.c (.int .i64 1)), none⟩,
            ⟨some 6, .mv (.t 75), none⟩]))))))
      (.seq (.ops none [⟨some 93, .load true 5 (.t 3), none⟩,
        ⟨none, .store 5 (.t 2) (.t 93), none⟩])
       .ret))))))⟩
theorem cop14 : copF Try.prog raws [([1, 2, 3, 4], [(3, some 1, 3)]), ([1, 2, 3, 5], [(3, some 2, 2)]), ([1, 2, 3, 6], [(3, some 4, 3)])] 14 = some ir14 := by kernel_rfl
/-- tenterhook/script.Get -/
def ir15 : F := ⟨63, [.cell 2 true 5],
 (.seq (.ops none [⟨some 2, .alloc [.str ⟨#[]⟩, .nil, .nil, .int .i64 0, .nil], none⟩])
  (.seq (.ops none [⟨some 8, .mv (.t 0), none⟩,
    ⟨some 3, .alloc [.nil], none⟩,
    ⟨none, .store 1 (.t 3) (.t 8), none⟩])
   (.seq (.ops none [⟨some 9, .call 30 false [true] [(.t 3)], none⟩,
     ⟨some 10, .bin .rem (.t 9) (.c (.int .i64 2001)), none⟩,
     ⟨some 4, .mv (.t 10), none⟩])
    (.seq (.ops none [⟨some 11, .mv (.t 4), none⟩,
      ⟨some 12, .call 31 false [true, false] [(.t 3), (.t 11)], none⟩,
      ⟨some 13, .b2s (.t 12), none⟩,
      ⟨some 14, .build [.str ⟨#[]⟩, .nil, .nil, .int .i64 0, .nil] [(0, 1, (.t 13))], none⟩,
      ⟨some 5, .alloc [.str ⟨#[]⟩, .nil, .nil, .int .i64 0, .nil], none⟩,
      ⟨none, .store 5 (.t 5) (.t 14), none⟩])
     (.seq (.seq (.ops none [⟨some 15, .call 32 false [true] [(.t 3)], none⟩,
        ⟨some 16, .bin .rem (.t 15) (.c (.int .i64 5)), none⟩,
        ⟨some 17, .mv (.c (.int .i64 0)), none⟩])
       (.block 0 (.loop [2, 3, 5, 16, 17] [(5, some 1, 3)]
         (.seq (.ops none [⟨some 18, .bin .lss (.t 17) (.t 16), none⟩])
          (.seq (.cond (.t 18)
            .skip
            (.exit 0))
           (.seq (.block 1 (.ops (some [(1, 2), (1, 3)]) [⟨some 19, .faddr 1 (.t 5), none⟩,
              ⟨some 20, .load false 1 (.t 19), none⟩,
              ⟨some 21, .call 33 false [true] [(.t 3)], none⟩,
              ⟨some 22, .bslice 3 1 [.int .i64 0, .int .i64 0, .int .i64 0] [(0, (.t 21))], none⟩,
              ⟨some 23, .append 3 (.t 20) (.t 22), none⟩,
              ⟨some 24, .faddr 1 (.t 5), none⟩,
              ⟨none, .store 1 (.t 24) (.t 23), none⟩]))
            (.ops none [⟨some 25, .bin .add (.t 17) (.c (.int .i64 1)), none⟩,
             ⟨some 17, .mv (.t 25), none⟩])))))))
      (.seq (.seq (.ops none [⟨some 26, .call 32 false [true] [(.t 3)], none⟩,
         ⟨some 27, .bin .rem (.t 26) (.c (.int .i64 8)), none⟩,
         ⟨some 28, .mv (.c (.int .i64 0)), none⟩])
        (.block 2 (.loop [2, 3, 5, 27, 28] [(5, some 2, 2)]
          (.seq (.ops none [⟨some 29, .bin .lss (.t 28) (.t 27), none⟩])
           (.seq (.cond (.t 29)
             .skip
             (.exit 2))
            (.seq (.block 3 (.ops (some [(1, 2), (1, 3)]) [⟨some 30, .faddr 2 (.t 5), none⟩,
               ⟨some 31, .load false 1 (.t 30), none⟩,
               ⟨some 32, .call 34 false [true] [(.t 3)], none⟩,
               ⟨some 33, .bslice 2 1 [.str ⟨#[]⟩, .int .i64 0] [(0, (.t 32))], none⟩,
               ⟨some 34, .append 2 (.t 31) (.t 33), none⟩,
               ⟨some 35, .faddr 2 (.t 5), none⟩,
               ⟨none, .store 1 (.t 35) (.t 34), none⟩]))
             (.ops none [⟨some 36, .bin .add (.t 28) (.c (.int .i64 1)), none⟩,
              ⟨some 28, .mv (.t 36), none⟩])))))))
       (.seq (.ops none [⟨some 37, .call 32 false [true] [(.t 3)], none⟩,
         ⟨some 38, .bin .add (.c (.int .i64 1)) (.t 37), none⟩,
         ⟨some 39, .faddr 3 (.t 5), none⟩,
         ⟨none, .store 1 (.t 39) (.t 38), none⟩])
        (.seq (.seq (.ops none [⟨some 40, .call 31 false [true, false] [(.t 3), (.c (.int .i64 4000))], none⟩,
           ⟨some 41, .len false (.t 40), none⟩,
           ⟨some 42, .mv (.c (.int .i64 0)), none⟩])
          (.block 4 (.loop [2, 5, 40, 41, 42] [(5, some 4, 3)]
            (.seq (.ops none [⟨some 43, .bin .lss (.t 42) (.t 41), none⟩])
             (.seq (.cond (.t 43)
               .skip
               (.exit 4))
              (.seq (.block 5 (.seq (.ops none [⟨some 44, .iaddr 1 (.t 40) (.t 42), none⟩,
                  ⟨some 45, .load false 1 (.t 44), none⟩,
                  ⟨some 7, .mv (.t 45), none⟩])
                 (.ops none [⟨some 46, .faddr 4 (.t 5), none⟩,
                  ⟨some 47, .load false 1 (.t 46), none⟩,
                  ⟨some 48, .mv (.t 7), none⟩,
                  ⟨some 49, .bin .and (.t 48) (.c (.int .u8 1)), none⟩,
                  ⟨some 50, .bin .neq (.t 49) (.c (.int .u8 0)), none⟩,
                  ⟨some 51, .mv (.t 7), none⟩,
                  ⟨some 52, .bin .and (.t 51) (.c (.int .u8 2)), none⟩,
                  ⟨some 53, .bin .neq (.t 52) (.c (.int .u8 0)), none⟩,
                  ⟨some 54, .mv (.t 7), none⟩,
                  ⟨some 55, .conv .i64 (.t 54), none⟩,
                  ⟨some 56, .bin .quo (.t 55) (.c (.int .i64 4)), none⟩,
                  ⟨some 57, .build [.bool false, .int .i64 0, .bool false] [(0, 1, (.t 50)), (2, 1, (.t 53)), (1, 1, (.t 56))], none⟩,
                  ⟨some 58, .bslice 3 1 [.bool false, .int .i64 0, .bool false] [(0, (.t 57))], none⟩,
                  ⟨some 59, .append 3 (.t 47) (.t 58), none⟩,
                  ⟨some 60, .faddr 4 (.t 5), none⟩,
                  ⟨none, .store 1 (.t 60) (.t 59), none⟩])))
               (.ops none [⟨some 61, .bin .add (.t 42) (.c (.int .i64 1)), none⟩,
                ⟨some 42, .mv (.t 61), none⟩])))))))
         (.seq (.ops none [⟨some 62, .load true 5 (.t 5), none⟩,
           ⟨none, .store 5 (.t 2) (.t 62), none⟩])
          .ret)))))))))⟩
theorem cop15 : copF Try.prog raws [([2, 3, 5, 16, 17], [(5, some 1, 3)]), ([2, 3, 5, 27, 28], [(5, some 2, 2)]), ([2, 5, 40, 41, 42], [(5, some 4, 3)])] 15 = some ir15 := by kernel_rfl
/-- tenterhook/tenterhookref23.Get -/
def ir16 : F := ⟨105, [.cell 2 true 5],
 (.seq (.ops none [⟨some 2, .alloc [.str ⟨#[]⟩, .nil, .nil, .int .i64 0, .nil], none⟩])
  (.seq (.ops none [⟨some 12, .mv (.t 0), none⟩,
    ⟨some 13, .build [.nil] [(0, 1, (.t 12))], none⟩,
    ⟨some 14, .box (.t 13), none⟩,
    ⟨some 3, .mv (.t 14), none⟩])
   (.seq (.ops none [⟨some 15, .mv (.t 3), none⟩,
     ⟨some 16, .call 35 false [true] [(.t 15)], none⟩,
     ⟨some 17, .bin .rem (.t 16) (.c (.int .i64 2001)), none⟩,
     ⟨some 4, .mv (.t 17), none⟩])
    (.seq (.ops none [⟨some 18, .mv (.t 3), none⟩,
      ⟨some 19, .mv (.t 4), none⟩,
      ⟨some 20, .call 36 false [true, false] [(.t 18), (.t 19)], none⟩,
      ⟨some 21, .build [.str ⟨#[]⟩, .nil, .nil, .int .i64 0, .nil] [(0, 1, (.t 20))], none⟩,
      ⟨some 5, .alloc [.str ⟨#[]⟩, .nil, .nil, .int .i64 0, .nil], none⟩,
      ⟨none, .store 5 (.t 5) (.t 21), none⟩])
     (.seq (.ops none [⟨some 22, .mv (.t 3), none⟩,
       ⟨some 23, .call 37 false [true] [(.t 22)], none⟩,
       ⟨some 24, .bin .rem (.t 23) (.c (.int .i64 5)), none⟩,
       ⟨some 4, .mv (.t 24), none⟩])
      (.seq (.seq (.ops none [⟨some 6, .mv (.c (.int .i64 0)), none⟩])
        (.block 0 (.loop [2, 3, 4, 5, 6] [(5, some 1, 3)]
          (.seq (.seq (.ops none [⟨some 25, .mv (.t 6), none⟩,
             ⟨some 26, .mv (.t 4), none⟩,
             ⟨some 27, .bin .lss (.t 25) (.t 26), none⟩])
            (.cond (.t 27)
             .skip
             (.exit 0)))
           (.seq (.block 1 (.seq (.ops none [⟨some 30, .mv (.t 3), none⟩,
               ⟨some 31, .call 37 false [true] [(.t 30)], none⟩,
               ⟨some 32, .bin .rem (.t 31) (.c (.int .i64 4)), none⟩,
               ⟨some 33, .build [.int .i64 0, .int .i64 0, .int .i64 0] [(0, 1, (.t 32))], none⟩,
               ⟨some 7, .alloc [.int .i64 0, .int .i64 0, .int .i64 0], none⟩,
               ⟨none, .store 3 (.t 7) (.t 33), none⟩])
              (.seq (.ops none [⟨some 34, .mv (.t 3), none⟩,
                ⟨some 35, .call 35 false [true] [(.t 34)], none⟩,
                ⟨some 36, .faddr 1 (.t 7), none⟩,
                ⟨none, .store 1 (.t 36) (.t 35), none⟩])
               (.seq (.ops none [⟨some 37, .mv (.t 3), none⟩,
                 ⟨some 38, .call 37 false [true] [(.t 37)], none⟩,
                 ⟨some 39, .faddr 2 (.t 7), none⟩,
                 ⟨none, .store 1 (.t 39) (.t 38), none⟩])
                (.ops none [⟨some 40, .faddr 1 (.t 5), none⟩,
                 ⟨some 41, .load false 1 (.t 40), none⟩,
                 ⟨some 42, .load true 3 (.t 7), none⟩,
                 ⟨some 43, .bslice 3 1 [.int .i64 0, .int .i64 0, .int .i64 0] [(0, (.t 42))], none⟩,
                 ⟨some 44, .append 3 (.t 41) (.t 43), none⟩,
                 ⟨some 45, .faddr 1 (.t 5), none⟩,
                 ⟨none, .store 1 (.t 45) (.t 44), none⟩])))))
            (.ops none [⟨some 28, .mv (.t 6), none⟩,
             ⟨some 29, .bin .add (.t 28) (.c (.int .i64 1)), none⟩,
             ⟨some 6, .mv (.t 29), none⟩]))))))
       (.seq (.ops none [⟨some 46, .mv (.t 3), none⟩,
         ⟨some 47, .call 37 false [true] [(.t 46)], none⟩,
         ⟨some 48, .bin .rem (.t 47) (.c (.int .i64 8)), none⟩,
         ⟨some 4, .mv (.t 48), none⟩])
        (.seq (.seq (.ops none [⟨some 8, .mv (.c (.int .i64 0)), none⟩])
          (.block 2 (.loop [2, 3, 4, 5, 8] [(5, some 2, 2)]
            (.seq (.seq (.ops none [⟨some 49, .mv (.t 8), none⟩,
               ⟨some 50, .mv (.t 4), none⟩,
               ⟨some 51, .bin .lss (.t 49) (.t 50), none⟩])
              (.cond (.t 51)
               .skip
               (.exit 2)))
             (.seq (.block 3 (.seq (.ops none [⟨some 54, .mv (.t 3), none⟩,
                 ⟨some 55, .call 37 false [true] [(.t 54)], none⟩,
                 ⟨some 56, .bin .rem (.t 55) (.c (.int .i64 32)), none⟩,
                 ⟨some 9, .mv (.t 56), none⟩])
                (.seq (.ops none [⟨some 57, .mv (.t 3), none⟩,
                  ⟨some 58, .mv (.t 9), none⟩,
                  ⟨some 59, .call 36 false [true, false] [(.t 57), (.t 58)], none⟩,
                  ⟨some 60, .build [.str ⟨#[]⟩, .int .i64 0] [(0, 1, (.t 59))], none⟩,
                  ⟨some 10, .alloc [.str ⟨#[]⟩, .int .i64 0], none⟩,
                  ⟨none, .store 2 (.t 10) (.t 60), none⟩])
                 (.seq (.ops none [⟨some 61, .mv (.t 3), none⟩,
                   ⟨some 62, .call 37 false [true] [(.t 61)], none⟩,
                   ⟨some 63, .bin .rem (.t 62) (.c (.int .i64 5)), none⟩,
                   ⟨some 64, .faddr 1 (.t 10), none⟩,
                   ⟨none, .store 1 (.t 64) (.t 63), none⟩])
                  (.ops none [⟨some 65, .faddr 2 (.t 5), none⟩,
                   ⟨some 66, .load false 1 (.t 65), none⟩,
                   ⟨some 67, .load true 2 (.t 10), none⟩,
                   ⟨some 68, .bslice 2 1 [.str ⟨#[]⟩, .int .i64 0] [(0, (.t 67))], none⟩,
                   ⟨some 69, .append 2 (.t 66) (.t 68), none⟩,
                   ⟨some 70, .faddr 2 (.t 5), none⟩,
                   ⟨none, .store 1 (.t 70) (.t 69), none⟩])))))
              (.ops none [⟨some 52, .mv (.t 8), none⟩,
               ⟨some 53, .bin .add (.t 52) (.c (.int .i64 1)), none⟩,
               ⟨some 8, .mv (.t 53), none⟩]))))))
         (.seq (.ops none [⟨some 71, .mv (.t 3), none⟩,
           ⟨some 72, .call 37 false [true] [(.t 71)], none⟩,
           ⟨some 73, .bin .add (.c (.int .i64 1)) (.t 72), none⟩,
           ⟨some 74, .faddr 3 (.t 5), none⟩,
           ⟨none, .store 1 (.t 74) (.t 73), none⟩])
          (.seq (.block 4 (.loop [2, 3, 5] [(5, some 4, 3)]
             (.seq (.seq (.ops none [⟨some 75, .mv (.t 3), none⟩,
                ⟨some 76, .nilck (.t 75), none⟩,
                ⟨some 77, .faddr 0 (.t 76), none⟩,
                ⟨some 78, .load false 1 (.t 77), none⟩,
                ⟨some 79, .len false (.t 78), none⟩,
                ⟨some 80, .bin .gtr (.t 79) (.c (.int .i64 0)), none⟩,
                ⟨some 81, .mv (.t 80), none⟩,
                ⟨some 82, .faddr 4 (.t 5), some (81, true)⟩,
                ⟨some 83, .load false 1 (.t 82), some (81, true)⟩,
                ⟨some 84, .len false (.t 83), some (81, true)⟩,
                ⟨some 85, .bin .lss (.t 84) (.c (.int .i64 4000)), some (81, true)⟩,
                ⟨some 86, .pick (.t 81) (.t 85) (.c (.bool false)), none⟩])
               (.cond (.t 86)
                .skip
                (.exit 4)))
              (.block 5 (.seq (.ops none [⟨some 87, .mv (.t 3), none⟩,
                 ⟨some 88, .call 37 false [true] [(.t 87)], none⟩,
                 ⟨some 11, .mv (.t 88), none⟩])
                (.ops none [⟨some 89, .faddr 4 (.t 5), none⟩,
                 ⟨some 90, .load false 1 (.t 89), none⟩,
                 ⟨some 91, .mv (.t 11), none⟩,
                 ⟨some 92, .bin .rem (.t 91) (.c (.int .i64 2)), none⟩,
                 ⟨some 93, .bin .eql (.t 92) (.c (.int .i64 1)), none⟩,
                 ⟨some 94, .mv (.t 11), none⟩,
                 ⟨some 95, .bin .quo (.t 94) (.c (.int .i64 2)), none⟩,
                 ⟨some 96, .bin .rem (.t 95) (.c (.int .i64 2)), none⟩,
                 ⟨some 97, .bin .eql (.t 96) (.c (.int .i64 1)), none⟩,
                 ⟨some 98, .mv (.t 11), none⟩,
                 ⟨some 99, .bin .quo (.t 98) (.c (.int .i64 4)), none⟩,
                 ⟨some 100, .build [.bool false, .int .i64 0, .bool false] [(0, 1, (.t 93)), (2, 1, (.t 97)), (1, 1, (.t 99))], none⟩,
                 ⟨some 101, .bslice 3 1 [.bool false, .int .i64 0, .bool false] [(0, (.t 100))], none⟩,
                 ⟨some 102, .append 3 (.t 90) (.t 101), none⟩,
                 ⟨some 103, .faddr 4 (.t 5), none⟩,
                 ⟨none, .store 1 (.t 103) (.t 102), none⟩]))))))
           (.seq (.ops none [⟨some 104, .load true 5 (.t 5), none⟩,
             ⟨none, .store 5 (.t 2) (.t 104), none⟩])
            .ret)))))))))))⟩
theorem cop16 : copF Try.prog raws [([2, 3, 4, 5, 6], [(5, some 1, 3)]), ([2, 3, 4, 5, 8], [(5, some 2, 2)]), ([2, 3, 5], [(5, some 4, 3)])] 16 = some ir16 := by kernel_rfl
/-- tenterhook/script.Sane$1 -/
def ir17 : F := ⟨6, [.t 2],
 (.seq (.ops none [⟨some 1, .box (.t 0), none⟩,
   ⟨some 2, .mv (.c (.bool false)), none⟩])
  (.seq (.ops none [⟨some 3, .load true 3 (.t 1), none⟩,
    ⟨some 4, .call 18 true [] [(.t 3)], none⟩,
    ⟨some 5, .un .not (.t 4), none⟩,
    ⟨some 2, .mv (.t 5), none⟩])
   .ret))⟩
theorem cop17 : copF Try.prog raws [] 17 = some ir17 := by kernel_rfl
/-- (tenterhook/script.Obj).may -/
def ir18 : F := ⟨16, [.t 2],
 (.seq (.ops none [⟨some 1, .box (.t 0), none⟩,
   ⟨some 2, .mv (.c (.bool false)), none⟩])
  (.seq (.ops none [⟨some 3, .faddr 0 (.t 1), none⟩,
    ⟨some 4, .load false 1 (.t 3), none⟩,
    ⟨some 5, .call 22 true [] [(.t 4), (.c (.int .i64 3))], none⟩,
    ⟨some 6, .mv (.t 5), none⟩,
    ⟨some 7, .faddr 1 (.t 1), some (6, true)⟩,
    ⟨some 8, .load false 1 (.t 7), some (6, true)⟩,
    ⟨some 9, .call 22 true [] [(.t 8), (.c (.int .i64 65535))], some (6, true)⟩,
    ⟨some 10, .pick (.t 6) (.t 9) (.c (.bool false)), none⟩,
    ⟨some 11, .mv (.t 10), none⟩,
    ⟨some 12, .faddr 2 (.t 1), some (11, true)⟩,
    ⟨some 13, .load false 1 (.t 12), some (11, true)⟩,
    ⟨some 14, .call 22 true [] [(.t 13), (.c (.int .i64 255))], some (11, true)⟩,
    ⟨some 15, .pick (.t 11) (.t 14) (.c (.bool false)), none⟩,
    ⟨some 2, .mv (.t 15), none⟩])
   .ret))⟩
theorem cop18 : copF Try.prog raws [] 18 = some ir18 := by kernel_rfl
/-- tenterhook/script.Sane$2 -/
def ir19 : F := ⟨6, [.t 2],
 (.seq (.ops none [⟨some 1, .box (.t 0), none⟩,
   ⟨some 2, .mv (.c (.bool false)), none⟩])
  (.seq (.ops none [⟨some 3, .load true 2 (.t 1), none⟩,
    ⟨some 4, .call 20 true [] [(.t 3)], none⟩,
    ⟨some 5, .un .not (.t 4), none⟩,
    ⟨some 2, .mv (.t 5), none⟩])
   .ret))⟩
theorem cop19 : copF Try.prog raws [] 19 = some ir19 := by kernel_rfl
/-- (tenterhook/script.Start).may -/
def ir20 : F := ⟨12, [.t 2],
 (.seq (.ops none [⟨some 1, .box (.t 0), none⟩,
   ⟨some 2, .mv (.c (.bool false)), none⟩])
  (.seq (.ops none [⟨some 3, .faddr 0 (.t 1), none⟩,
    ⟨some 4, .load false 1 (.t 3), none⟩,
    ⟨some 5, .len true (.t 4), none⟩,
    ⟨some 6, .bin .leq (.t 5) (.c (.int .i64 31)), none⟩,
    ⟨some 7, .mv (.t 6), none⟩,
    ⟨some 8, .faddr 1 (.t 1), some (7, true)⟩,
    ⟨some 9, .load false 1 (.t 8), some (7, true)⟩,
    ⟨some 10, .call 22 true [] [(.t 9), (.c (.int .i64 4))], some (7, true)⟩,
    ⟨some 11, .pick (.t 7) (.t 10) (.c (.bool false)), none⟩,
    ⟨some 2, .mv (.t 11), none⟩])
   .ret))⟩
theorem cop20 : copF Try.prog raws [] 20 = some ir20 := by kernel_rfl
/-- tenterhook/script.Sane$3 -/
def ir21 : F := ⟨7, [.t 2],
 (.seq (.ops none [⟨some 1, .box (.t 0), none⟩,
   ⟨some 2, .mv (.c (.bool false)), none⟩])
  (.seq (.ops none [⟨some 3, .faddr 1 (.t 1), none⟩,
    ⟨some 4, .load false 1 (.t 3), none⟩,
    ⟨some 5, .call 22 true [] [(.t 4), (.c (.int .i64 63))], none⟩,
    ⟨some 6, .un .not (.t 5), none⟩,
    ⟨some 2, .mv (.t 6), none⟩])
   .ret))⟩
theorem cop21 : copF Try.prog raws [] 21 = some ir21 := by kernel_rfl
/-- tenterhook/script.within -/
def ir22 : F := ⟨12, [.t 4],
 (.seq (.ops none [⟨some 4, .mv (.c (.bool false)), none⟩])
  (.seq (.ops none [⟨some 5, .mv (.t 0), none⟩,
    ⟨some 6, .bin .geq (.t 5) (.c (.int .i64 0)), none⟩,
    ⟨some 7, .mv (.t 6), none⟩,
    ⟨some 8, .mv (.t 0), some (7, true)⟩,
    ⟨some 9, .mv (.t 1), some (7, true)⟩,
    ⟨some 10, .bin .leq (.t 8) (.t 9), some (7, true)⟩,
    ⟨some 11, .pick (.t 7) (.t 10) (.c (.bool false)), none⟩,
    ⟨some 4, .mv (.t 11), none⟩])
   .ret))⟩
theorem cop22 : copF Try.prog raws [] 22 = some ir22 := by kernel_rfl
/-- slices.ContainsFunc[[]tenterhook/script.Obj,tenterhook/script.Obj] -/
def ir23 : F := ⟨9, [.t 4],
 (.seq (.ops none [⟨some 4, .mv (.c (.bool false)), none⟩])
  (.seq (.ops none [⟨some 5, .mv (.t 0), none⟩,
    ⟨some 6, .mv (.t 1), none⟩,
    ⟨some 7, .call 38 true [] [(.t 5), (.t 6)], none⟩,
    ⟨some 8, .bin .geq (.t 7) (.c (.int .i64 0)), none⟩,
    ⟨some 4, .mv (.t 8), none⟩])
   .ret))⟩
theorem cop23 : copF Try.prog raws [] 23 = some ir23 := by kernel_rfl
/-- slices.ContainsFunc[[]tenterhook/script.Start,tenterhook/script.Start] -/
def ir24 : F := ⟨9, [.t 4],
 (.seq (.ops none [⟨some 4, .mv (.c (.bool false)), none⟩])
  (.seq (.ops none [⟨some 5, .mv (.t 0), none⟩,
    ⟨some 6, .mv (.t 1), none⟩,
    ⟨some 7, .call 39 true [] [(.t 5), (.t 6)], none⟩,
    ⟨some 8, .bin .geq (.t 7) (.c (.int .i64 0)), none⟩,
    ⟨some 4, .mv (.t 8), none⟩])
   .ret))⟩
theorem cop24 : copF Try.prog raws [] 24 = some ir24 := by kernel_rfl
/-- slices.ContainsFunc[[]tenterhook/kern.Choice,tenterhook/kern.Choice] -/
def ir25 : F := ⟨9, [.t 4],
 (.seq (.ops none [⟨some 4, .mv (.c (.bool false)), none⟩])
  (.seq (.ops none [⟨some 5, .mv (.t 0), none⟩,
    ⟨some 6, .mv (.t 1), none⟩,
    ⟨some 7, .call 40 true [] [(.t 5), (.t 6)], none⟩,
    ⟨some 8, .bin .geq (.t 7) (.c (.int .i64 0)), none⟩,
    ⟨some 4, .mv (.t 8), none⟩])
   .ret))⟩
theorem cop25 : copF Try.prog raws [] 25 = some ir25 := by kernel_rfl
/-- tenterhook/tenterhookref23.in -/
def ir26 : F := ⟨15, [.t 6],
 (.seq (.ops none [⟨some 6, .mv (.c (.bool false)), none⟩])
  (.seq (.ops none [⟨some 7, .mv (.t 0), none⟩,
    ⟨some 8, .mv (.t 1), none⟩,
    ⟨some 9, .bin .geq (.t 7) (.t 8), none⟩,
    ⟨some 10, .mv (.t 9), none⟩,
    ⟨some 11, .mv (.t 0), some (10, true)⟩,
    ⟨some 12, .mv (.t 2), some (10, true)⟩,
    ⟨some 13, .bin .leq (.t 11) (.t 12), some (10, true)⟩,
    ⟨some 14, .pick (.t 10) (.t 13) (.c (.bool false)), none⟩,
    ⟨some 6, .mv (.t 14), none⟩])
   .ret))⟩
theorem cop26 : copF Try.prog raws [] 26 = some ir26 := by kernel_rfl
/-- tenterhook/script.pair -/
def ir27 : F := ⟨9, [.t 2],
 (.seq (.ops none [⟨some 2, .mv (.c (.nil)), none⟩])
  (.seq (.ops none [⟨some 3, .mv (.t 0), none⟩,
    ⟨some 4, .bin .shr (.t 3) (.c (.int .u64 8)), none⟩,
    ⟨some 5, .conv .u8 (.t 4), none⟩,
    ⟨some 6, .mv (.t 0), none⟩,
    ⟨some 7, .conv .u8 (.t 6), none⟩,
    ⟨some 8, .bslice 1 2 [.int .u8 0] [(0, (.t 5)), (1, (.t 7))], none⟩,
    ⟨some 2, .mv (.t 8), none⟩])
   .ret))⟩
theorem cop27 : copF Try.prog raws [] 27 = some ir27 := by kernel_rfl
/-- tenterhook/script.code -/
def ir28 : F := ⟨17, [.t 2],
 (.seq (.ops none [⟨some 1, .box (.t 0), none⟩,
   ⟨some 2, .mv (.c (.int .u8 0)), none⟩])
  (.seq (.ops none [⟨some 4, .faddr 1 (.t 1), none⟩,
    ⟨some 5, .load false 1 (.t 4), none⟩,
    ⟨some 6, .bin .mul (.c (.int .i64 4)) (.t 5), none⟩,
    ⟨some 3, .mv (.t 6), none⟩])
   (.seq (.seq (.ops none [⟨some 7, .faddr 0 (.t 1), none⟩,
      ⟨some 8, .load false 1 (.t 7), none⟩])
     (.cond (.t 8)
      (.ops none [⟨some 9, .mv (.t 3), none⟩,
       ⟨some 10, .bin .add (.t 9) (.c (.int .i64 1)), none⟩,
       ⟨some 3, .mv (.t 10), none⟩])
      .skip))
    (.seq (.seq (.ops none [⟨some 11, .faddr 2 (.t 1), none⟩,
       ⟨some 12, .load false 1 (.t 11), none⟩])
      (.cond (.t 12)
       (.ops none [⟨some 13, .mv (.t 3), none⟩,
        ⟨some 14, .bin .add (.t 13) (.c (.int .i64 2)), none⟩,
        ⟨some 3, .mv (.t 14), none⟩])
       .skip))
     (.seq (.ops none [⟨some 15, .mv (.t 3), none⟩,
       ⟨some 16, .conv .u8 (.t 15), none⟩,
       ⟨some 2, .mv (.t 16), none⟩])
      .ret)))))⟩
theorem cop28 : copF Try.prog raws [] 28 = some ir28 := by kernel_rfl
/-- tenterhook/tenterhookref23.yes -/
def ir29 : F := ⟨7, [.t 4],
 (.seq (.ops none [⟨some 4, .mv (.c (.int .i64 0)), none⟩])
  (.seq (.seq (.ops none [⟨some 5, .mv (.t 0), none⟩])
    (.cond (.t 5)
     (.seq (.ops none [⟨some 6, .mv (.t 1), none⟩,
       ⟨some 4, .mv (.t 6), none⟩])
      .ret)
     .skip))
   (.seq (.ops none [⟨some 4, .mv (.c (.int .i64 0)), none⟩])
    .ret)))⟩
theorem cop29 : copF Try.prog raws [] 29 = some ir29 := by kernel_rfl
/-- (*tenterhook/script.reader).two -/
def ir30 : F := ⟨11, [.t 2],
 (.seq (.ops none [⟨some 2, .mv (.c (.int .i64 0)), none⟩])
  (.seq (.ops none [⟨some 4, .mv (.t 0), none⟩,
    ⟨some 5, .call 32 false [true] [(.t 4)], none⟩,
    ⟨some 3, .mv (.t 5), none⟩])
   (.seq (.ops none [⟨some 6, .mv (.t 3), none⟩,
     ⟨some 7, .bin .shl (.t 6) (.c (.int .u64 8)), none⟩,
     ⟨some 8, .mv (.t 0), none⟩,
     ⟨some 9, .call 32 false [true] [(.t 8)], none⟩,
     ⟨some 10, .bin .or (.t 7) (.t 9), none⟩,
     ⟨some 2, .mv (.t 10), none⟩])
    .ret)))⟩
theorem cop30 : copF Try.prog raws [] 30 = some ir30 := by kernel_rfl
/-- (*tenterhook/script.reader).take -/
def ir31 : F := ⟨22, [.t 4],
 (.seq (.ops none [⟨some 4, .mv (.c (.nil)), none⟩])
  (.seq (.ops none [⟨some 6, .mv (.t 0), none⟩,
    ⟨some 7, .nilck (.t 6), none⟩,
    ⟨some 8, .load false 1 (.t 7), none⟩,
    ⟨some 5, .mv (.t 8), none⟩])
   (.seq (.ops none [⟨some 9, .mv (.t 1), none⟩,
     ⟨some 10, .mv (.t 5), none⟩,
     ⟨some 11, .len false (.t 10), none⟩,
     ⟨some 12, .minmax false [(.t 9), (.t 11)], none⟩,
     ⟨some 1, .mv (.t 12), none⟩])
    (.seq (.ops none [⟨some 13, .mv (.t 0), none⟩,
      ⟨some 14, .mv (.t 5), none⟩,
      ⟨some 15, .mv (.t 1), none⟩,
      ⟨some 16, .slice false 1 (.t 14) (some (.t 15)) none none, none⟩,
      ⟨some 17, .nilck (.t 13), none⟩,
      ⟨none, .store 1 (.t 17) (.t 16), none⟩])
     (.seq (.ops none [⟨some 18, .mv (.t 5), none⟩,
       ⟨some 19, .mv (.t 1), none⟩,
       ⟨some 20, .mv (.t 1), none⟩,
       ⟨some 21, .slice false 1 (.t 18) none (some (.t 19)) (some (.t 20)), none⟩,
       ⟨some 4, .mv (.t 21), none⟩])
      .ret)))))⟩
theorem cop31 : copF Try.prog raws [] 31 = some ir31 := by kernel_rfl
/-- (*tenterhook/script.reader).one -/
def ir32 : F := ⟨17, [.t 2],
 (.seq (.ops none [⟨some 2, .mv (.c (.int .i64 0)), none⟩])
  (.seq (.ops none [⟨some 3, .mv (.c (.int .i64 0)), none⟩])
   (.seq (.seq (.ops none [⟨some 6, .mv (.t 0), none⟩,
      ⟨some 7, .call 31 false [true, false] [(.t 6), (.c (.int .i64 1))], none⟩,
      ⟨some 8, .len false (.t 7), none⟩,
      ⟨some 9, .mv (.c (.int .i64 0)), none⟩])
     (.block 0 (.loop [3, 7, 8, 9] []
       (.seq (.ops none [⟨some 10, .bin .lss (.t 9) (.t 8), none⟩])
        (.seq (.cond (.t 10)
          .skip
          (.exit 0))
         (.seq (.block 1 (.seq (.ops none [⟨some 11, .iaddr 1 (.t 7) (.t 9), none⟩,
             ⟨some 12, .load false 1 (.t 11), none⟩,
             ⟨some 5, .mv (.t 12), none⟩])
            (.ops none [⟨some 13, .mv (.t 5), none⟩,
             ⟨some 14, .conv .i64 (.t 13), none⟩,
             ⟨some 3, .mv (.t 14), none⟩])))
          (.ops none [⟨some 15, .bin .add (.t 9) (.c (.int .i64 1)), none⟩,
           ⟨some 9, .mv (.t 15), none⟩])))))))
    (.seq (.ops none [⟨some 16, .mv (.t 3), none⟩,
      ⟨some 2, .mv (.t 16), none⟩])
     .ret))))⟩
theorem cop32 : copF Try.prog raws [([3, 7, 8, 9], [])] 32 = some ir32 := by kernel_rfl
/-- (*tenterhook/script.reader).obj -/
def ir33 : F := ⟨15, [.cell 2 true 3],
 (.seq (.ops none [⟨some 2, .alloc [.int .i64 0, .int .i64 0, .int .i64 0], none⟩])
  (.seq (.ops none [⟨some 4, .mv (.t 0), none⟩,
    ⟨some 5, .call 32 false [true] [(.t 4)], none⟩,
    ⟨some 6, .bin .rem (.t 5) (.c (.int .i64 4)), none⟩,
    ⟨some 7, .build [.int .i64 0, .int .i64 0, .int .i64 0] [(0, 1, (.t 6))], none⟩,
    ⟨some 3, .alloc [.int .i64 0, .int .i64 0, .int .i64 0], none⟩,
    ⟨none, .store 3 (.t 3) (.t 7), none⟩])
   (.seq (.ops none [⟨some 8, .mv (.t 0), none⟩,
     ⟨some 9, .call 30 false [true] [(.t 8)], none⟩,
     ⟨some 10, .faddr 1 (.t 3), none⟩,
     ⟨none, .store 1 (.t 10) (.t 9), none⟩])
    (.seq (.ops none [⟨some 11, .mv (.t 0), none⟩,
      ⟨some 12, .call 32 false [true] [(.t 11)], none⟩,
      ⟨some 13, .faddr 2 (.t 3), none⟩,
      ⟨none, .store 1 (.t 13) (.t 12), none⟩])
     (.seq (.ops none [⟨some 14, .load true 3 (.t 3), none⟩,
       ⟨none, .store 3 (.t 2) (.t 14), none⟩])
      .ret)))))⟩
theorem cop33 : copF Try.prog raws [] 33 = some ir33 := by kernel_rfl
/-- (*tenterhook/script.reader).start -/
def ir34 : F := ⟨18, [.cell 2 true 2],
 (.seq (.ops none [⟨some 2, .alloc [.str ⟨#[]⟩, .int .i64 0], none⟩])
  (.seq (.ops none [⟨some 5, .mv (.t 0), none⟩,
    ⟨some 6, .call 32 false [true] [(.t 5)], none⟩,
    ⟨some 7, .bin .rem (.t 6) (.c (.int .i64 32)), none⟩,
    ⟨some 3, .mv (.t 7), none⟩])
   (.seq (.ops none [⟨some 8, .mv (.t 0), none⟩,
     ⟨some 9, .mv (.t 3), none⟩,
     ⟨some 10, .call 31 false [true, false] [(.t 8), (.t 9)], none⟩,
     ⟨some 11, .b2s (.t 10), none⟩,
     ⟨some 12, .build [.str ⟨#[]⟩, .int .i64 0] [(0, 1, (.t 11))], none⟩,
     ⟨some 4, .alloc [.str ⟨#[]⟩, .int .i64 0], none⟩,
     ⟨none, .store 2 (.t 4) (.t 12), none⟩])
    (.seq (.ops none [⟨some 13, .mv (.t 0), none⟩,
      ⟨some 14, .call 32 false [true] [(.t 13)], none⟩,
      ⟨some 15, .bin .rem (.t 14) (.c (.int .i64 5)), none⟩,
      ⟨some 16, .faddr 1 (.t 4), none⟩,
      ⟨none, .store 1 (.t 16) (.t 15), none⟩])
     (.seq (.ops none [⟨some 17, .load true 2 (.t 4), none⟩,
       ⟨none, .store 2 (.t 2) (.t 17), none⟩])
      .ret)))))⟩
theorem cop34 : copF Try.prog raws [] 34 = some ir34 := by kernel_rfl
/-- (*tenterhook/tenterhookref23.reader).pair -/
def ir35 : F := ⟨11, [.t 2],
 (.seq (.ops none [⟨some 2, .mv (.c (.int .i64 0)), none⟩])
  (.seq (.ops none [⟨some 4, .mv (.t 0), none⟩,
    ⟨some 5, .call 37 false [true] [(.t 4)], none⟩,
    ⟨some 3, .mv (.t 5), none⟩])
   (.seq (.ops none [⟨some 6, .mv (.t 3), none⟩,
     ⟨some 7, .bin .mul (.c (.int .i64 256)) (.t 6), none⟩,
     ⟨some 8, .mv (.t 0), none⟩,
     ⟨some 9, .call 37 false [true] [(.t 8)], none⟩,
     ⟨some 10, .bin .add (.t 7) (.t 9), none⟩,
     ⟨some 2, .mv (.t 10), none⟩])
    .ret)))⟩
theorem cop35 : copF Try.prog raws [] 35 = some ir35 := by kernel_rfl
/-- (*tenterhook/tenterhookref23.reader).text -/
def ir36 : F := ⟨31, [.t 4],
 (.seq (.ops none [⟨some 4, .mv (.c (.str ⟨#[]⟩)), none⟩])
  (.seq (.ops none [⟨some 7, .mv (.t 1), none⟩,
    ⟨some 8, .mv (.t 0), none⟩,
    ⟨some 9, .nilck (.t 8), none⟩,
    ⟨some 10, .faddr 0 (.t 9), none⟩,
    ⟨some 11, .load false 1 (.t 10), none⟩,
    ⟨some 12, .len false (.t 11), none⟩,
    ⟨some 13, .minmax false [(.t 7), (.t 12)], none⟩,
    ⟨some 5, .mv (.t 13), none⟩])
   (.seq (.ops none [⟨some 14, .mv (.t 0), none⟩,
     ⟨some 15, .nilck (.t 14), none⟩,
     ⟨some 16, .faddr 0 (.t 15), none⟩,
     ⟨some 17, .load false 1 (.t 16), none⟩,
     ⟨some 18, .mv (.t 5), none⟩,
     ⟨some 19, .slice false 1 (.t 17) none (some (.t 18)) none, none⟩,
     ⟨some 20, .b2s (.t 19), none⟩,
     ⟨some 6, .mv (.t 20), none⟩])
    (.seq (.ops none [⟨some 21, .mv (.t 0), none⟩,
      ⟨some 22, .mv (.t 0), none⟩,
      ⟨some 23, .nilck (.t 22), none⟩,
      ⟨some 24, .faddr 0 (.t 23), none⟩,
      ⟨some 25, .load false 1 (.t 24), none⟩,
      ⟨some 26, .mv (.t 5), none⟩,
      ⟨some 27, .slice false 1 (.t 25) (some (.t 26)) none none, none⟩,
      ⟨some 28, .nilck (.t 21), none⟩,
      ⟨some 29, .faddr 0 (.t 28), none⟩,
      ⟨none, .store 1 (.t 29) (.t 27), none⟩])
     (.seq (.ops none [⟨some 30, .mv (.t 6), none⟩,
       ⟨some 4, .mv (.t 30), none⟩])
      .ret)))))⟩
theorem cop36 : copF Try.prog raws [] 36 = some ir36 := by kernel_rfl
/-- (*tenterhook/tenterhookref23.reader).one -/
def ir37 : F := ⟨26, [.t 2],
 (.seq (.ops none [⟨some 2, .mv (.c (.int .i64 0)), none⟩])
  (.seq (.seq (.ops none [⟨some 4, .mv (.t 0), none⟩,
     ⟨some 5, .nilck (.t 4), none⟩,
     ⟨some 6, .faddr 0 (.t 5), none⟩,
     ⟨some 7, .load false 1 (.t 6), none⟩,
     ⟨some 8, .len false (.t 7), none⟩,
     ⟨some 9, .bin .eql (.t 8) (.c (.int .i64 0)), none⟩])
    (.cond (.t 9)
     (.seq (.ops none [⟨some 2, .mv (.c (.int .i64 0)), none⟩])
      .ret)
     .skip))
   (.seq (.ops none [⟨some 10, .mv (.t 0), none⟩,
     ⟨some 11, .nilck (.t 10), none⟩,
     ⟨some 12, .faddr 0 (.t 11), none⟩,
     ⟨some 13, .load false 1 (.t 12), none⟩,
     ⟨some 14, .iaddr 1 (.t 13) (.c (.int .i64 0)), none⟩,
     ⟨some 15, .load false 1 (.t 14), none⟩,
     ⟨some 16, .conv .i64 (.t 15), none⟩,
     ⟨some 3, .mv (.t 16), none⟩])
    (.seq (.ops none [⟨some 17, .mv (.t 0), none⟩,
      ⟨some 18, .mv (.t 0), none⟩,
      ⟨some 19, .nilck (.t 18), none⟩,
      ⟨some 20, .faddr 0 (.t 19), none⟩,
      ⟨some 21, .load false 1 (.t 20), none⟩,
      ⟨some 22, .slice false 1 (.t 21) (some (.c (.int .i64 1))) none none, none⟩,
      ⟨some 23, .nilck (.t 17), none⟩,
      ⟨some 24, .faddr 0 (.t 23), none⟩,
      ⟨none, .store 1 (.t 24) (.t 22), none⟩])
     (.seq (.ops none [⟨some 25, .mv (.t 3), none⟩,
       ⟨some 2, .mv (.t 25), none⟩])
      .ret)))))⟩
theorem cop37 : copF Try.prog raws [] 37 = some ir37 := by kernel_rfl
/-- slices.IndexFunc[[]tenterhook/script.Obj,tenterhook/script.Obj] -/
def ir38 : F := ⟨19, [.t 4],
 (.seq (.ops none [⟨some 4, .mv (.c (.int .i64 0)), none⟩])
  (.seq (.seq (.ops none [⟨some 6, .mv (.t 0), none⟩,
     ⟨some 7, .len false (.t 6), none⟩,
     ⟨some 8, .mv (.c (.int .i64 0)), none⟩])
    (.block 0 (.loop [0, 1, 7, 8] []
      (.seq (.ops none [⟨some 9, .bin .lss (.t 8) (.t 7), none⟩])
       (.seq (.cond (.t 9)
         .skip
         (.exit 0))
        (.seq (.block 1 (.seq (.ops none [⟨some 10, .mv (.t 8), none⟩,
            ⟨some 5, .mv (.t 10), none⟩])
           (.seq (.ops none [⟨some 11, .mv (.t 1), none⟩,
             ⟨some 12, .mv (.t 0), none⟩,
             ⟨some 13, .mv (.t 5), none⟩,
             ⟨some 14, .iaddr 3 (.t 12) (.t 13), none⟩,
             ⟨some 15, .load true 3 (.t 14), none⟩,
             ⟨some 16, .callv false [] (.t 11) [(.t 15)], none⟩])
            (.cond (.t 16)
             (.seq (.ops none [⟨some 17, .mv (.t 5), none⟩,
               ⟨some 4, .mv (.t 17), none⟩])
              .ret)
             .skip))))
         (.ops none [⟨some 18, .bin .add (.t 8) (.c (.int .i64 1)), none⟩,
          ⟨some 8, .mv (.t 18), none⟩])))))))
   (.seq (.ops none [⟨some 4, .mv (.c (.int .i64 (-1))), none⟩])
    .ret)))⟩
theorem cop38 : copF Try.prog raws [([0, 1, 7, 8], [])] 38 = some ir38 := by kernel_rfl
/-- slices.IndexFunc[[]tenterhook/script.Start,tenterhook/script.Start] -/
def ir39 : F := ⟨19, [.t 4],
 (.seq (.ops none [⟨some 4, .mv (.c (.int .i64 0)), none⟩])
  (.seq (.seq (.ops none [⟨some 6, .mv (.t 0), none⟩,
     ⟨some 7, .len false (.t 6), none⟩,
     ⟨some 8, .mv (.c (.int .i64 0)), none⟩])
    (.block 0 (.loop [0, 1, 7, 8] []
      (.seq (.ops none [⟨some 9, .bin .lss (.t 8) (.t 7), none⟩])
       (.seq (.cond (.t 9)
         .skip
         (.exit 0))
        (.seq (.block 1 (.seq (.ops none [⟨some 10, .mv (.t 8), none⟩,
            ⟨some 5, .mv (.t 10), none⟩])
           (.seq (.ops none [⟨some 11, .mv (.t 1), none⟩,
             ⟨some 12, .mv (.t 0), none⟩,
             ⟨some 13, .mv (.t 5), none⟩,
             ⟨some 14, .iaddr 2 (.t 12) (.t 13), none⟩,
             ⟨some 15, .load true 2 (.t 14), none⟩,
             ⟨some 16, .callv false [] (.t 11) [(.t 15)], none⟩])
            (.cond (.t 16)
             (.seq (.ops none [⟨some 17, .mv (.t 5), none⟩,
               ⟨some 4, .mv (.t 17), none⟩])
              .ret)
             .skip))))
         (.ops none [⟨some 18, .bin .add (.t 8) (.c (.int .i64 1)), none⟩,
          ⟨some 8, .mv (.t 18), none⟩])))))))
   (.seq (.ops none [⟨some 4, .mv (.c (.int .i64 (-1))), none⟩])
    .ret)))⟩
theorem cop39 : copF Try.prog raws [([0, 1, 7, 8], [])] 39 = some ir39 := by kernel_rfl
/-- slices.IndexFunc[[]tenterhook/kern.Choice,tenterhook/kern.Choice] -/
def ir40 : F := ⟨19, [.t 4],
 (.seq (.ops none [⟨some 4, .mv (.c (.int .i64 0)), none⟩])
  (.seq (.seq (.ops none [⟨some 6, .mv (.t 0), none⟩,
     ⟨some 7, .len false (.t 6), none⟩,
     ⟨some 8, .mv (.c (.int .i64 0)), none⟩])
    (.block 0 (.loop [0, 1, 7, 8] []
      (.seq (.ops none [⟨some 9, .bin .lss (.t 8) (.t 7), none⟩])
       (.seq (.cond (.t 9)
         .skip
         (.exit 0))
        (.seq (.block 1 (.seq (.ops none [⟨some 10, .mv (.t 8), none⟩,
            ⟨some 5, .mv (.t 10), none⟩])
           (.seq (.ops none [⟨some 11, .mv (.t 1), none⟩,
             ⟨some 12, .mv (.t 0), none⟩,
             ⟨some 13, .mv (.t 5), none⟩,
             ⟨some 14, .iaddr 3 (.t 12) (.t 13), none⟩,
             ⟨some 15, .load true 3 (.t 14), none⟩,
             ⟨some 16, .callv false [] (.t 11) [(.t 15)], none⟩])
            (.cond (.t 16)
             (.seq (.ops none [⟨some 17, .mv (.t 5), none⟩,
               ⟨some 4, .mv (.t 17), none⟩])
              .ret)
             .skip))))
         (.ops none [⟨some 18, .bin .add (.t 8) (.c (.int .i64 1)), none⟩,
          ⟨some 8, .mv (.t 18), none⟩])))))))
   (.seq (.ops none [⟨some 4, .mv (.c (.int .i64 (-1))), none⟩])
    .ret)))⟩
theorem cop40 : copF Try.prog raws [([0, 1, 7, 8], [])] 40 = some ir40 := by kernel_rfl
def tab : List (Nat × Def) := [(3, .body ir3), (4, .body ir4), (5, .body ir5), (6, .body ir6), (7, .body ir7), (8, .body ir8), (9, .body ir9), (10, .body ir10), (11, .body ir11), (12, .body ir12), (13, .body ir13), (14, .body ir14), (15, .body ir15), (16, .body ir16), (17, .body ir17), (18, .body ir18), (19, .body ir19), (20, .body ir20), (21, .body ir21), (22, .body ir22), (23, .body ir23), (24, .body ir24), (25, .body ir25), (26, .body ir26), (27, .body ir27), (28, .body ir28), (29, .body ir29), (30, .body ir30), (31, .body ir31), (32, .body ir32), (33, .body ir33), (34, .body ir34), (35, .body ir35), (36, .body ir36), (37, .body ir37), (38, .body ir38), (39, .body ir39), (40, .body ir40)]
def env : Env := fun f => tab.lookup f
theorem env3 : env 3 = some (.body ir3) := by kernel_rfl
theorem env4 : env 4 = some (.body ir4) := by kernel_rfl
theorem env5 : env 5 = some (.body ir5) := by kernel_rfl
theorem env6 : env 6 = some (.body ir6) := by kernel_rfl
theorem env7 : env 7 = some (.body ir7) := by kernel_rfl
theorem env8 : env 8 = some (.body ir8) := by kernel_rfl
theorem env9 : env 9 = some (.body ir9) := by kernel_rfl
theorem env10 : env 10 = some (.body ir10) := by kernel_rfl
theorem env11 : env 11 = some (.body ir11) := by kernel_rfl
theorem env12 : env 12 = some (.body ir12) := by kernel_rfl
theorem env13 : env 13 = some (.body ir13) := by kernel_rfl
theorem env14 : env 14 = some (.body ir14) := by kernel_rfl
theorem env15 : env 15 = some (.body ir15) := by kernel_rfl
theorem env16 : env 16 = some (.body ir16) := by kernel_rfl
theorem env17 : env 17 = some (.body ir17) := by kernel_rfl
theorem env18 : env 18 = some (.body ir18) := by kernel_rfl
theorem env19 : env 19 = some (.body ir19) := by kernel_rfl
theorem env20 : env 20 = some (.body ir20) := by kernel_rfl
theorem env21 : env 21 = some (.body ir21) := by kernel_rfl
theorem env22 : env 22 = some (.body ir22) := by kernel_rfl
theorem env23 : env 23 = some (.body ir23) := by kernel_rfl
theorem env24 : env 24 = some (.body ir24) := by kernel_rfl
theorem env25 : env 25 = some (.body ir25) := by kernel_rfl
theorem env26 : env 26 = some (.body ir26) := by kernel_rfl
theorem env27 : env 27 = some (.body ir27) := by kernel_rfl
theorem env28 : env 28 = some (.body ir28) := by kernel_rfl
theorem env29 : env 29 = some (.body ir29) := by kernel_rfl
theorem env30 : env 30 = some (.body ir30) := by kernel_rfl
theorem env31 : env 31 = some (.body ir31) := by kernel_rfl
theorem env32 : env 32 = some (.body ir32) := by kernel_rfl
theorem env33 : env 33 = some (.body ir33) := by kernel_rfl
theorem env34 : env 34 = some (.body ir34) := by kernel_rfl
theorem env35 : env 35 = some (.body ir35) := by kernel_rfl
theorem env36 : env 36 = some (.body ir36) := by kernel_rfl
theorem env37 : env 37 = some (.body ir37) := by kernel_rfl
theorem env38 : env 38 = some (.body ir38) := by kernel_rfl
theorem env39 : env 39 = some (.body ir39) := by kernel_rfl
theorem env40 : env 40 = some (.body ir40) := by kernel_rfl
theorem envOk : EnvOk Try.prog raws env := envOk_of (tab := tab) (by
  unfold tab
  exact List.forall_mem_cons.2 ⟨⟨_, cop3⟩, List.forall_mem_cons.2 ⟨⟨_, cop4⟩, List.forall_mem_cons.2 ⟨⟨_, cop5⟩, List.forall_mem_cons.2 ⟨⟨_, cop6⟩, List.forall_mem_cons.2 ⟨⟨_, cop7⟩, List.forall_mem_cons.2 ⟨⟨_, cop8⟩, List.forall_mem_cons.2 ⟨⟨_, cop9⟩, List.forall_mem_cons.2 ⟨⟨_, cop10⟩, List.forall_mem_cons.2 ⟨⟨_, cop11⟩, List.forall_mem_cons.2 ⟨⟨_, cop12⟩, List.forall_mem_cons.2 ⟨⟨_, cop13⟩, List.forall_mem_cons.2 ⟨⟨_, cop14⟩, List.forall_mem_cons.2 ⟨⟨_, cop15⟩, List.forall_mem_cons.2 ⟨⟨_, cop16⟩, List.forall_mem_cons.2 ⟨⟨_, cop17⟩, List.forall_mem_cons.2 ⟨⟨_, cop18⟩, List.forall_mem_cons.2 ⟨⟨_, cop19⟩, List.forall_mem_cons.2 ⟨⟨_, cop20⟩, List.forall_mem_cons.2 ⟨⟨_, cop21⟩, List.forall_mem_cons.2 ⟨⟨_, cop22⟩, List.forall_mem_cons.2 ⟨⟨_, cop23⟩, List.forall_mem_cons.2 ⟨⟨_, cop24⟩, List.forall_mem_cons.2 ⟨⟨_, cop25⟩, List.forall_mem_cons.2 ⟨⟨_, cop26⟩, List.forall_mem_cons.2 ⟨⟨_, cop27⟩, List.forall_mem_cons.2 ⟨⟨_, cop28⟩, List.forall_mem_cons.2 ⟨⟨_, cop29⟩, List.forall_mem_cons.2 ⟨⟨_, cop30⟩, List.forall_mem_cons.2 ⟨⟨_, cop31⟩, List.forall_mem_cons.2 ⟨⟨_, cop32⟩, List.forall_mem_cons.2 ⟨⟨_, cop33⟩, List.forall_mem_cons.2 ⟨⟨_, cop34⟩, List.forall_mem_cons.2 ⟨⟨_, cop35⟩, List.forall_mem_cons.2 ⟨⟨_, cop36⟩, List.forall_mem_cons.2 ⟨⟨_, cop37⟩, List.forall_mem_cons.2 ⟨⟨_, cop38⟩, List.forall_mem_cons.2 ⟨⟨_, cop39⟩, List.forall_mem_cons.2 ⟨⟨_, cop40⟩, List.forall_mem_nil _⟩⟩⟩⟩⟩⟩⟩⟩⟩⟩⟩⟩⟩⟩⟩⟩⟩⟩⟩⟩⟩⟩⟩⟩⟩⟩⟩⟩⟩⟩⟩⟩⟩⟩⟩⟩⟩⟩)
end Go.Proofs.YthmfjkakpefkeaaR
