/-
  The translation's functions in the abstract machine's code, written by program; the kernel holds each against the translation.
-/
import Derived.Test.YtfpkelnakagdfaaChecked
import Derived.Test.YtfpkelnakagdfaaAbLim
namespace Go.Proofs.Ytfpkelnakagdfaa
open Go Go.Ab
set_option maxRecDepth 100000

def a2 : AFunc := ⟨[],
 .region [] [
   ⟨some 0, .call 0 (.c (.fn 1 [])) [], none⟩]⟩

def a3 : AFunc := ⟨[.tmp 6],
 (.seq (
  .region [] [
    ⟨some 6, .mv (.c (.bool false)), none⟩]) (
  (.seq (
   .region [] [
     ⟨some 15, .mv (.t 0), none⟩,
     ⟨some 16, .mv (.t 1), none⟩,
     ⟨some 17, .mv (.t 2), none⟩,
     ⟨some 18, .call 0 (.c (.fn 13 [])) [(.t 15), (.t 16), (.t 17)], none⟩,
     ⟨some 14, .mv (.t 18), none⟩,
     ⟨some 19, .ext (.t 14) 0, none⟩,
     ⟨some 20, .ext (.t 14) 1, none⟩,
     ⟨some 7, .mv (.t 19), none⟩,
     ⟨some 8, .mv (.t 20), none⟩]) (
   (.seq (
    (.seq (
     .region [] [
       ⟨some 21, .call 0 (.c (.fn 14 [])) [], none⟩,
       ⟨some 22, .not (.t 21), none⟩]) (
     (.cond (.t 22) (
      (.seq (
       .region [] [
         ⟨some 6, .mv (.c (.bool false)), none⟩]) (
       .ret))) (
      .skip))))) (
    (.seq (
     (.seq (
      .region [] [
        ⟨some 23, .mv (.t 0), none⟩,
        ⟨some 24, .call 0 (.c (.fn 15 [])) [(.t 23)], none⟩,
        ⟨some 25, .not (.t 24), none⟩]) (
      (.cond (.t 25) (
       (.seq (
        .region [] [
          ⟨some 26, .mv (.t 8), none⟩,
          ⟨some 27, .bin .eql (.t 26) (.c (.int .i64 2)), none⟩,
          ⟨some 28, .mv (.t 27), none⟩,
          ⟨some 29, .mv (.t 7), some (28, true)⟩,
          ⟨some 30, .len (.t 29), some (28, true)⟩,
          ⟨some 31, .bin .eql (.t 30) (.c (.int .i64 0)), some (28, true)⟩,
          ⟨some 32, .pick (.t 28) (.t 31) (.c (.bool false)), none⟩,
          ⟨some 6, .mv (.t 32), none⟩]) (
        .ret))) (
       .skip))))) (
     (.seq (
      .region [] [
        ⟨some 34, .mv (.t 0), none⟩,
        ⟨some 35, .mv (.t 1), none⟩,
        ⟨some 36, .mv (.t 2), none⟩,
        ⟨some 37, .call 0 (.c (.fn 16 [])) [(.t 34), (.t 35), (.t 36)], none⟩,
        ⟨some 33, .mv (.t 37), none⟩,
        ⟨some 38, .ext (.t 33) 0, none⟩,
        ⟨some 39, .ext (.t 33) 1, none⟩,
        ⟨some 9, .mv (.t 38), none⟩,
        ⟨some 10, .mv (.t 39), none⟩]) (
      (.seq (
       (.seq (
        .region [] [
          ⟨some 40, .mv (.t 8), none⟩,
          ⟨some 41, .mv (.t 10), none⟩,
          ⟨some 42, .bin .neq (.t 40) (.t 41), none⟩,
          ⟨some 43, .mv (.t 42), none⟩,
          ⟨some 44, .mv (.t 7), some (43, false)⟩,
          ⟨some 45, .len (.t 44), some (43, false)⟩,
          ⟨some 46, .mv (.t 9), some (43, false)⟩,
          ⟨some 47, .len (.t 46), some (43, false)⟩,
          ⟨some 48, .bin .neq (.t 45) (.t 47), some (43, false)⟩,
          ⟨some 49, .pick (.t 43) (.c (.bool true)) (.t 48), none⟩]) (
        (.cond (.t 49) (
         (.seq (
          .region [] [
            ⟨some 6, .mv (.c (.bool false)), none⟩]) (
          .ret))) (
         .skip))))) (
       (.seq (
        (.seq (
         .region [] [
           ⟨some 11, .mv (.c (.int .i64 0)), none⟩]) (
         (.block 0 (
          (.loop (
           (.seq (
            (.seq (
             .region [] [
               ⟨some 50, .mv (.t 11), none⟩,
               ⟨some 51, .mv (.t 7), none⟩,
               ⟨some 52, .len (.t 51), none⟩,
               ⟨some 53, .bin .lss (.t 50) (.t 52), none⟩]) (
             (.cond (.t 53) (
              .skip) (
              .exit 0))))) (
            (.seq (
             (.block 1 (
              (.seq (
               .region [] [
                 ⟨some 56, .mv (.t 7), none⟩,
                 ⟨some 57, .mv (.t 11), none⟩,
                 ⟨some 58, .elemAddr 3 (.t 56) (.t 57), none⟩,
                 ⟨some 59, .load true 3 (.t 58), none⟩,
                 ⟨some 60, .mv (.t 9), none⟩,
                 ⟨some 61, .mv (.t 11), none⟩,
                 ⟨some 62, .elemAddr 3 (.t 60) (.t 61), none⟩,
                 ⟨some 63, .load true 3 (.t 62), none⟩,
                 ⟨some 64, .eqagg [false, false, false] true (.t 59) (.t 63), none⟩]) (
               (.cond (.t 64) (
                (.seq (
                 .region [] [
                   ⟨some 6, .mv (.c (.bool false)), none⟩]) (
                 .ret))) (
                .skip))))))) (
             .region [] [
               ⟨some 54, .mv (.t 11), none⟩,
               ⟨some 55, .bin .add (.t 54) (.c (.int .i64 1)), none⟩,
               ⟨some 11, .mv (.t 55), none⟩]))))))))))) (
        (.seq (
         .region [] [
           ⟨some 65, .lit 1 [(.int .i64 0)] 6 [(0, 1, (.c (.int .i64 2))), (1, 1, (.c (.int .i64 2))), (2, 1, (.c (.int .i64 1))), (3, 1, (.c (.int .i64 2))), (4, 1, (.c (.int .i64 2))), (5, 1, (.c (.int .i64 2)))], none⟩,
           ⟨some 12, .mv (.t 65), none⟩]) (
         (.seq (
          (.seq (
           .region [] [
             ⟨some 66, .mv (.t 1), none⟩]) (
           (.cond (.t 66) (
            .region [] [
              ⟨some 67, .lit 1 [(.int .i64 0)] 6 [(0, 1, (.c (.int .i64 2))), (1, 1, (.c (.int .i64 1))), (2, 1, (.c (.int .i64 2))), (3, 1, (.c (.int .i64 2))), (4, 1, (.c (.int .i64 1))), (5, 1, (.c (.int .i64 2)))], none⟩,
              ⟨some 12, .mv (.t 67), none⟩]) (
            .skip))))) (
          (.seq (
           (.seq (
            .region [] [
              ⟨some 13, .mv (.c (.int .i64 1)), none⟩]) (
            (.block 2 (
             (.loop (
              (.seq (
               (.seq (
                .region [] [
                  ⟨some 68, .mv (.t 13), none⟩,
                  ⟨some 69, .mv (.t 7), none⟩,
                  ⟨some 70, .len (.t 69), none⟩,
                  ⟨some 71, .bin .lss (.t 68) (.t 70), none⟩]) (
                (.cond (.t 71) (
                 .skip) (
                 .exit 2))))) (
               (.seq (
                (.block 3 (
                 (.seq (
                  .region [] [
                    ⟨some 74, .mv (.t 7), none⟩,
                    ⟨some 75, .mv (.t 13), none⟩,
                    ⟨some 76, .elemAddr 3 (.t 74) (.t 75), none⟩,
                    ⟨some 77, .load true 3 (.t 76), none⟩,
                    ⟨some 78, .call 0 (.c (.fn 17 [])) [(.t 77)], none⟩,
                    ⟨some 79, .mv (.t 7), none⟩,
                    ⟨some 80, .mv (.t 13), none⟩,
                    ⟨some 81, .bin .sub (.t 80) (.c (.int .i64 1)), none⟩,
                    ⟨some 82, .elemAddr 3 (.t 79) (.t 81), none⟩,
                    ⟨some 83, .load true 3 (.t 82), none⟩,
                    ⟨some 84, .call 0 (.c (.fn 17 [])) [(.t 83)], none⟩,
                    ⟨some 85, .bin .sub (.t 78) (.t 84), none⟩,
                    ⟨some 86, .mv (.t 12), none⟩,
                    ⟨some 87, .mv (.t 13), none⟩,
                    ⟨some 88, .bin .sub (.t 87) (.c (.int .i64 1)), none⟩,
                    ⟨some 89, .elemAddr 1 (.t 86) (.t 88), none⟩,
                    ⟨some 90, .load false 1 (.t 89), none⟩,
                    ⟨some 91, .bin .neq (.t 85) (.t 90), none⟩]) (
                  (.cond (.t 91) (
                   (.seq (
                    .region [] [
                      ⟨some 6, .mv (.c (.bool false)), none⟩]) (
                    .ret))) (
                   .skip))))))) (
                .region [] [
                  ⟨some 72, .mv (.t 13), none⟩,
                  ⟨some 73, .bin .add (.t 72) (.c (.int .i64 1)), none⟩,
                  ⟨some 13, .mv (.t 73), none⟩]))))))))))) (
           (.seq (
            .region [] [
              ⟨some 6, .mv (.c (.bool true)), none⟩]) (
            .ret))))))))))))))))))))))⟩

def a4 : AFunc := ⟨[.tmp 4],
 (.seq (
  .region [] [
    ⟨some 3, .box 1 (.t 1), none⟩,
    ⟨some 4, .mv (.c (.bool false)), none⟩]) (
  (.seq (
   .region [] [
     ⟨some 12, .mv (.t 0), none⟩,
     ⟨some 13, .load true 2 (.t 3), none⟩,
     ⟨some 14, .call 0 (.c (.fn 18 [])) [(.t 12), (.t 13)], none⟩,
     ⟨some 11, .mv (.t 14), none⟩,
     ⟨some 15, .ext (.t 11) 0, none⟩,
     ⟨some 16, .ext (.t 11) 1, none⟩,
     ⟨some 5, .mv (.t 15), none⟩,
     ⟨some 6, .mv (.t 16), none⟩]) (
   (.seq (
    (.seq (
     .region [] [
       ⟨some 17, .call 0 (.c (.fn 14 [])) [], none⟩,
       ⟨some 18, .not (.t 17), none⟩]) (
     (.cond (.t 18) (
      (.seq (
       .region [] [
         ⟨some 4, .mv (.c (.bool false)), none⟩]) (
       .ret))) (
      .skip))))) (
    (.seq (
     (.seq (
      .region [] [
        ⟨some 19, .mv (.t 0), none⟩,
        ⟨some 20, .call 0 (.c (.fn 15 [])) [(.t 19)], none⟩,
        ⟨some 21, .not (.t 20), none⟩]) (
      (.cond (.t 21) (
       (.seq (
        .region [] [
          ⟨some 22, .mv (.t 5), none⟩,
          ⟨some 23, .bin .eql (.t 22) (.c (.int .i64 0)), none⟩,
          ⟨some 24, .mv (.t 23), none⟩,
          ⟨some 25, .mv (.t 6), some (24, true)⟩,
          ⟨some 26, .bin .eql (.t 25) (.c (.int .i64 2)), some (24, true)⟩,
          ⟨some 27, .pick (.t 24) (.t 26) (.c (.bool false)), none⟩,
          ⟨some 4, .mv (.t 27), none⟩]) (
        .ret))) (
       .skip))))) (
     (.seq (
      .region [] [
        ⟨some 29, .mv (.t 0), none⟩,
        ⟨some 30, .fieldAddr 0 (.t 3), none⟩,
        ⟨some 31, .load false 1 (.t 30), none⟩,
        ⟨some 32, .fieldAddr 1 (.t 3), none⟩,
        ⟨some 33, .load false 1 (.t 32), none⟩,
        ⟨some 34, .call 0 (.c (.fn 19 [])) [(.t 29), (.t 31), (.t 33)], none⟩,
        ⟨some 28, .mv (.t 34), none⟩,
        ⟨some 35, .ext (.t 28) 0, none⟩,
        ⟨some 36, .ext (.t 28) 1, none⟩,
        ⟨some 7, .mv (.t 35), none⟩,
        ⟨some 8, .mv (.t 36), none⟩]) (
      (.seq (
       (.seq (
        .region [] [
          ⟨some 37, .mv (.t 5), none⟩,
          ⟨some 38, .mv (.t 7), none⟩,
          ⟨some 39, .bin .neq (.t 37) (.t 38), none⟩,
          ⟨some 40, .mv (.t 39), none⟩,
          ⟨some 41, .mv (.t 6), some (40, false)⟩,
          ⟨some 42, .mv (.t 8), some (40, false)⟩,
          ⟨some 43, .bin .neq (.t 41) (.t 42), some (40, false)⟩,
          ⟨some 44, .pick (.t 40) (.c (.bool true)) (.t 43), none⟩]) (
        (.cond (.t 44) (
         (.seq (
          .region [] [
            ⟨some 4, .mv (.c (.bool false)), none⟩]) (
          .ret))) (
         .skip))))) (
       (.seq (
        (.seq (
         .region [] [
           ⟨some 45, .mv (.t 6), none⟩,
           ⟨some 46, .bin .neq (.t 45) (.c (.int .i64 0)), none⟩]) (
         (.cond (.t 46) (
          (.seq (
           .region [] [
             ⟨some 4, .mv (.c (.bool true)), none⟩]) (
           .ret))) (
          .skip))))) (
        (.seq (
         .region [] [
           ⟨some 48, .mv (.t 5), none⟩,
           ⟨some 49, .fieldAddr 0 (.t 3), none⟩,
           ⟨some 50, .load false 1 (.t 49), none⟩,
           ⟨some 51, .neg (.t 50), none⟩,
           ⟨some 52, .fieldAddr 1 (.t 3), none⟩,
           ⟨some 53, .load false 1 (.t 52), none⟩,
           ⟨some 54, .neg (.t 53), none⟩,
           ⟨some 55, .build [(.int .i64 0), (.int .i64 0)] [(0, 1, (.t 51)), (1, 1, (.t 54))], none⟩,
           ⟨some 56, .call 0 (.c (.fn 18 [])) [(.t 48), (.t 55)], none⟩,
           ⟨some 47, .mv (.t 56), none⟩,
           ⟨some 57, .ext (.t 47) 0, none⟩,
           ⟨some 58, .ext (.t 47) 1, none⟩,
           ⟨some 9, .mv (.t 57), none⟩,
           ⟨some 10, .mv (.t 58), none⟩]) (
         (.seq (
          .region [] [
            ⟨some 59, .mv (.t 10), none⟩,
            ⟨some 60, .bin .eql (.t 59) (.c (.int .i64 0)), none⟩,
            ⟨some 61, .mv (.t 60), none⟩,
            ⟨some 62, .mv (.t 9), some (61, true)⟩,
            ⟨some 63, .mv (.t 0), some (61, true)⟩,
            ⟨some 64, .bin .eql (.t 62) (.t 63), some (61, true)⟩,
            ⟨some 65, .mv (.t 64), some (61, true)⟩,
            ⟨some 66, .mv (.t 5), some (65, false)⟩,
            ⟨some 67, .mv (.t 0), some (65, false)⟩,
            ⟨some 68, .fieldAddr 1 (.t 3), some (65, false)⟩,
            ⟨some 69, .load false 1 (.t 68), some (65, false)⟩,
            ⟨some 70, .bin .mul (.c (.int .i64 7)) (.t 69), some (65, false)⟩,
            ⟨some 71, .bin .add (.t 67) (.t 70), some (65, false)⟩,
            ⟨some 72, .fieldAddr 0 (.t 3), some (65, false)⟩,
            ⟨some 73, .load false 1 (.t 72), some (65, false)⟩,
            ⟨some 74, .bin .mul (.c (.int .i64 12)) (.t 73), some (65, false)⟩,
            ⟨some 75, .bin .sub (.t 71) (.t 74), some (65, false)⟩,
            ⟨some 76, .bin .neq (.t 66) (.t 75), some (65, false)⟩,
            ⟨some 77, .pick (.t 65) (.c (.bool true)) (.t 76), some (61, true)⟩,
            ⟨some 78, .pick (.t 61) (.t 77) (.c (.bool false)), none⟩,
            ⟨some 4, .mv (.t 78), none⟩]) (
          .ret))))))))))))))))))⟩

def a5 : AFunc := ⟨[.tmp 4],
 (.seq (
  .region [] [
    ⟨some 3, .box 1 (.t 1), none⟩,
    ⟨some 4, .mv (.c (.bool false)), none⟩]) (
  (.seq (
   .region [] [
     ⟨some 13, .mv (.t 0), none⟩,
     ⟨some 14, .bin .rem (.t 13) (.c (.int .u8 15)), none⟩,
     ⟨some 15, .conv .i64 (.t 14), none⟩,
     ⟨some 16, .bin .sub (.t 15) (.c (.int .i64 7)), none⟩,
     ⟨some 5, .mv (.t 16), none⟩]) (
   (.seq (
    .region [] [
      ⟨some 18, .mv (.t 5), none⟩,
      ⟨some 19, .load true 2 (.t 3), none⟩,
      ⟨some 20, .call 0 (.c (.fn 18 [])) [(.t 18), (.t 19)], none⟩,
      ⟨some 17, .mv (.t 20), none⟩,
      ⟨some 21, .ext (.t 17) 0, none⟩,
      ⟨some 22, .ext (.t 17) 1, none⟩,
      ⟨some 6, .mv (.t 21), none⟩,
      ⟨some 7, .mv (.t 22), none⟩]) (
    (.seq (
     (.seq (
      .region [] [
        ⟨some 23, .call 0 (.c (.fn 14 [])) [], none⟩,
        ⟨some 24, .not (.t 23), none⟩,
        ⟨some 25, .mv (.t 24), none⟩,
        ⟨some 26, .mv (.t 7), some (25, false)⟩,
        ⟨some 27, .bin .neq (.t 26) (.c (.int .i64 0)), some (25, false)⟩,
        ⟨some 28, .pick (.t 25) (.c (.bool true)) (.t 27), none⟩]) (
      (.cond (.t 28) (
       (.seq (
        .region [] [
          ⟨some 29, .call 0 (.c (.fn 14 [])) [], none⟩,
          ⟨some 30, .mv (.t 29), none⟩,
          ⟨some 31, .mv (.t 7), some (30, true)⟩,
          ⟨some 32, .bin .eql (.t 31) (.c (.int .i64 2)), some (30, true)⟩,
          ⟨some 33, .pick (.t 30) (.t 32) (.c (.bool false)), none⟩,
          ⟨some 4, .mv (.t 33), none⟩]) (
        .ret))) (
       .skip))))) (
     (.seq (
      .region [] [
        ⟨some 35, .mv (.t 5), none⟩,
        ⟨some 36, .call 0 (.c (.fn 13 [])) [(.t 35), (.c (.bool false)), (.c (.int .i64 4))], none⟩,
        ⟨some 34, .mv (.t 36), none⟩,
        ⟨some 37, .ext (.t 34) 0, none⟩,
        ⟨some 38, .ext (.t 34) 1, none⟩,
        ⟨some 8, .mv (.t 37), none⟩,
        ⟨some 9, .mv (.t 38), none⟩]) (
      (.seq (
       .region [] [
         ⟨some 40, .mv (.t 6), none⟩,
         ⟨some 41, .call 0 (.c (.fn 13 [])) [(.t 40), (.c (.bool false)), (.c (.int .i64 4))], none⟩,
         ⟨some 39, .mv (.t 41), none⟩,
         ⟨some 42, .ext (.t 39) 0, none⟩,
         ⟨some 43, .ext (.t 39) 1, none⟩,
         ⟨some 10, .mv (.t 42), none⟩,
         ⟨some 11, .mv (.t 43), none⟩]) (
       (.seq (
        (.seq (
         .region [] [
           ⟨some 44, .mv (.t 9), none⟩,
           ⟨some 45, .bin .neq (.t 44) (.c (.int .i64 0)), none⟩,
           ⟨some 46, .mv (.t 45), none⟩,
           ⟨some 47, .mv (.t 11), some (46, false)⟩,
           ⟨some 48, .bin .neq (.t 47) (.c (.int .i64 0)), some (46, false)⟩,
           ⟨some 49, .pick (.t 46) (.c (.bool true)) (.t 48), none⟩,
           ⟨some 50, .mv (.t 49), none⟩,
           ⟨some 51, .mv (.t 8), some (50, false)⟩,
           ⟨some 52, .len (.t 51), some (50, false)⟩,
           ⟨some 53, .bin .neq (.t 52) (.c (.int .i64 7)), some (50, false)⟩,
           ⟨some 54, .pick (.t 50) (.c (.bool true)) (.t 53), none⟩,
           ⟨some 55, .mv (.t 54), none⟩,
           ⟨some 56, .mv (.t 10), some (55, false)⟩,
           ⟨some 57, .len (.t 56), some (55, false)⟩,
           ⟨some 58, .bin .neq (.t 57) (.c (.int .i64 7)), some (55, false)⟩,
           ⟨some 59, .pick (.t 55) (.c (.bool true)) (.t 58), none⟩]) (
         (.cond (.t 59) (
          (.seq (
           .region [] [
             ⟨some 4, .mv (.c (.bool false)), none⟩]) (
           .ret))) (
          .skip))))) (
        (.seq (
         (.seq (
          .region [] [
            ⟨some 12, .mv (.c (.int .i64 0)), none⟩]) (
          (.block 0 (
           (.loop (
            (.seq (
             (.seq (
              .region [] [
                ⟨some 60, .mv (.t 12), none⟩,
                ⟨some 61, .bin .lss (.t 60) (.c (.int .i64 7)), none⟩]) (
              (.cond (.t 61) (
               .skip) (
               .exit 0))))) (
             (.seq (
              (.block 1 (
               (.seq (
                .region [] [
                  ⟨some 64, .mv (.t 10), none⟩,
                  ⟨some 65, .mv (.t 12), none⟩,
                  ⟨some 66, .elemAddr 3 (.t 64) (.t 65), none⟩,
                  ⟨some 67, .load true 3 (.t 66), none⟩,
                  ⟨some 68, .call 0 (.c (.fn 17 [])) [(.t 67)], none⟩,
                  ⟨some 69, .mv (.t 8), none⟩,
                  ⟨some 70, .mv (.t 12), none⟩,
                  ⟨some 71, .elemAddr 3 (.t 69) (.t 70), none⟩,
                  ⟨some 72, .load true 3 (.t 71), none⟩,
                  ⟨some 73, .call 0 (.c (.fn 17 [])) [(.t 72)], none⟩,
                  ⟨some 74, .bin .sub (.t 68) (.t 73), none⟩,
                  ⟨some 75, .fieldAddr 1 (.t 3), none⟩,
                  ⟨some 76, .load false 1 (.t 75), none⟩,
                  ⟨some 77, .bin .sub (.t 74) (.t 76), none⟩,
                  ⟨some 78, .bin .rem (.t 77) (.c (.int .i64 12)), none⟩,
                  ⟨some 79, .bin .neq (.t 78) (.c (.int .i64 0)), none⟩]) (
                (.cond (.t 79) (
                 (.seq (
                  .region [] [
                    ⟨some 4, .mv (.c (.bool false)), none⟩]) (
                  .ret))) (
                 .skip))))))) (
              .region [] [
                ⟨some 62, .mv (.t 12), none⟩,
                ⟨some 63, .bin .add (.t 62) (.c (.int .i64 1)), none⟩,
                ⟨some 12, .mv (.t 63), none⟩]))))))))))) (
         (.seq (
          .region [] [
            ⟨some 4, .mv (.c (.bool true)), none⟩]) (
          .ret))))))))))))))))))⟩

def a6 : AFunc := ⟨[.tmp 4],
 (.seq (
  .region [] [
    ⟨some 4, .mv (.c (.bool false)), none⟩]) (
  (.seq (
   .region [] [
     ⟨some 10, .mv (.t 0), none⟩,
     ⟨some 11, .mv (.t 1), none⟩,
     ⟨some 12, .call 0 (.c (.fn 20 [])) [(.t 10), (.t 11)], none⟩,
     ⟨some 9, .mv (.t 12), none⟩,
     ⟨some 13, .ext (.t 9) 0, none⟩,
     ⟨some 14, .ext (.t 9) 1, none⟩,
     ⟨some 5, .mv (.t 13), none⟩,
     ⟨some 6, .mv (.t 14), none⟩]) (
   (.seq (
    .region [] [
      ⟨some 16, .mv (.t 0), none⟩,
      ⟨some 17, .call 0 (.c (.fn 21 [])) [(.t 16)], none⟩,
      ⟨some 15, .mv (.t 17), none⟩,
      ⟨some 18, .ext (.t 15) 0, none⟩,
      ⟨some 19, .ext (.t 15) 1, none⟩,
      ⟨some 7, .mv (.t 18), none⟩,
      ⟨some 8, .mv (.t 19), none⟩]) (
    (.seq (
     (.seq (
      .region [] [
        ⟨some 20, .call 0 (.c (.fn 14 [])) [], none⟩,
        ⟨some 21, .not (.t 20), none⟩,
        ⟨some 22, .mv (.t 21), none⟩,
        ⟨some 23, .mv (.t 0), some (22, false)⟩,
        ⟨some 24, .call 0 (.c (.fn 22 [])) [(.t 23)], some (22, false)⟩,
        ⟨some 25, .bin .eql (.t 24) (.c (.int .i64 0)), some (22, false)⟩,
        ⟨some 26, .mv (.t 0), some (22, false)⟩,
        ⟨some 27, .call 0 (.c (.fn 15 [])) [(.t 26)], some (22, false)⟩,
        ⟨some 28, .eqb true (.t 25) (.t 27), some (22, false)⟩,
        ⟨some 29, .pick (.t 22) (.c (.bool true)) (.t 28), none⟩]) (
      (.cond (.t 29) (
       (.seq (
        .region [] [
          ⟨some 4, .mv (.c (.bool false)), none⟩]) (
        .ret))) (
       .skip))))) (
     (.seq (
      (.seq (
       .region [] [
         ⟨some 30, .mv (.t 0), none⟩,
         ⟨some 31, .call 0 (.c (.fn 15 [])) [(.t 30)], none⟩,
         ⟨some 32, .not (.t 31), none⟩]) (
       (.cond (.t 32) (
        (.seq (
         .region [] [
           ⟨some 33, .mv (.t 0), none⟩,
           ⟨some 34, .call 0 (.c (.fn 22 [])) [(.t 33)], none⟩,
           ⟨some 35, .bin .eql (.t 34) (.c (.int .i64 2)), none⟩,
           ⟨some 36, .mv (.t 35), none⟩,
           ⟨some 37, .mv (.t 5), some (36, true)⟩,
           ⟨some 38, .bin .eql (.t 37) (.c (.int .i64 0)), some (36, true)⟩,
           ⟨some 39, .pick (.t 36) (.t 38) (.c (.bool false)), none⟩,
           ⟨some 40, .mv (.t 39), none⟩,
           ⟨some 41, .mv (.t 6), some (40, true)⟩,
           ⟨some 42, .bin .eql (.t 41) (.c (.int .i64 2)), some (40, true)⟩,
           ⟨some 43, .pick (.t 40) (.t 42) (.c (.bool false)), none⟩,
           ⟨some 44, .mv (.t 43), none⟩,
           ⟨some 45, .mv (.t 7), some (44, true)⟩,
           ⟨some 46, .len (.t 45), some (44, true)⟩,
           ⟨some 47, .bin .eql (.t 46) (.c (.int .i64 0)), some (44, true)⟩,
           ⟨some 48, .pick (.t 44) (.t 47) (.c (.bool false)), none⟩,
           ⟨some 49, .mv (.t 48), none⟩,
           ⟨some 50, .mv (.t 8), some (49, true)⟩,
           ⟨some 51, .bin .eql (.t 50) (.c (.int .i64 2)), some (49, true)⟩,
           ⟨some 52, .pick (.t 49) (.t 51) (.c (.bool false)), none⟩,
           ⟨some 4, .mv (.t 52), none⟩]) (
         .ret))) (
        .skip))))) (
      (.seq (
       (.seq (
        .region [] [
          ⟨some 53, .mv (.t 8), none⟩,
          ⟨some 54, .bin .neq (.t 53) (.c (.int .i64 0)), none⟩,
          ⟨some 55, .mv (.t 54), none⟩,
          ⟨some 56, .mv (.t 7), some (55, false)⟩,
          ⟨some 57, .mv (.t 0), some (55, false)⟩,
          ⟨some 58, .call 0 (.c (.fn 24 [])) [(.t 57)], some (55, false)⟩,
          ⟨some 59, .call 0 (.c (.fn 23 [])) [(.t 56), (.t 58)], some (55, false)⟩,
          ⟨some 60, .not (.t 59), some (55, false)⟩,
          ⟨some 61, .pick (.t 55) (.c (.bool true)) (.t 60), none⟩]) (
        (.cond (.t 61) (
         (.seq (
          .region [] [
            ⟨some 4, .mv (.c (.bool false)), none⟩]) (
          .ret))) (
         .skip))))) (
       (.seq (
        (.seq (
         .region [] [
           ⟨some 62, .mv (.t 1), none⟩,
           ⟨some 63, .bin .lss (.t 62) (.c (.int .i64 0)), none⟩,
           ⟨some 64, .mv (.t 63), none⟩,
           ⟨some 65, .mv (.t 1), some (64, false)⟩,
           ⟨some 66, .bin .gtr (.t 65) (.c (.int .i64 6)), some (64, false)⟩,
           ⟨some 67, .pick (.t 64) (.c (.bool true)) (.t 66), none⟩]) (
         (.cond (.t 67) (
          (.seq (
           .region [] [
             ⟨some 68, .mv (.t 5), none⟩,
             ⟨some 69, .bin .eql (.t 68) (.c (.int .i64 0)), none⟩,
             ⟨some 70, .mv (.t 69), none⟩,
             ⟨some 71, .mv (.t 6), some (70, true)⟩,
             ⟨some 72, .bin .eql (.t 71) (.c (.int .i64 18)), some (70, true)⟩,
             ⟨some 73, .pick (.t 70) (.t 72) (.c (.bool false)), none⟩,
             ⟨some 4, .mv (.t 73), none⟩]) (
           .ret))) (
          .skip))))) (
        (.seq (
         .region [] [
           ⟨some 74, .mv (.t 6), none⟩,
           ⟨some 75, .bin .eql (.t 74) (.c (.int .i64 0)), none⟩,
           ⟨some 76, .mv (.t 75), none⟩,
           ⟨some 77, .mv (.t 5), some (76, true)⟩,
           ⟨some 78, .mv (.t 0), some (76, true)⟩,
           ⟨some 79, .mv (.t 1), some (76, true)⟩,
           ⟨some 80, .call 0 (.c (.fn 25 [])) [(.t 78), (.t 79)], some (76, true)⟩,
           ⟨some 81, .bin .eql (.t 77) (.t 80), some (76, true)⟩,
           ⟨some 82, .pick (.t 76) (.t 81) (.c (.bool false)), none⟩,
           ⟨some 4, .mv (.t 82), none⟩]) (
         .ret))))))))))))))))⟩

def a7 : AFunc := ⟨[.tmp 6],
 (.seq (
  .region [] [
    ⟨some 5, .box 1 (.t 2), none⟩,
    ⟨some 6, .mv (.c (.bool false)), none⟩]) (
  (.seq (
   .region [] [
     ⟨some 19, .mv (.t 0), none⟩,
     ⟨some 20, .mv (.t 1), none⟩,
     ⟨some 21, .call 0 (.c (.fn 26 [])) [(.t 19), (.t 20)], none⟩,
     ⟨some 18, .mv (.t 21), none⟩,
     ⟨some 22, .ext (.t 18) 0, none⟩,
     ⟨some 23, .ext (.t 18) 1, none⟩,
     ⟨some 24, .ext (.t 18) 2, none⟩,
     ⟨some 7, .mv (.t 22), none⟩,
     ⟨some 8, .mv (.t 23), none⟩,
     ⟨some 9, .mv (.t 24), none⟩]) (
   (.seq (
    .region [] [
      ⟨some 26, .arrAddr 2 1 (.t 5) (.c (.int .i64 0)), none⟩,
      ⟨some 27, .load false 1 (.t 26), none⟩,
      ⟨some 28, .arrAddr 2 1 (.t 5) (.c (.int .i64 1)), none⟩,
      ⟨some 29, .load false 1 (.t 28), none⟩,
      ⟨some 30, .mv (.t 1), none⟩,
      ⟨some 31, .call 0 (.c (.fn 27 [])) [(.t 27), (.t 29), (.t 30)], none⟩,
      ⟨some 25, .mv (.t 31), none⟩,
      ⟨some 32, .ext (.t 25) 0, none⟩,
      ⟨some 33, .ext (.t 25) 1, none⟩,
      ⟨some 10, .mv (.t 32), none⟩,
      ⟨some 11, .mv (.t 33), none⟩]) (
    (.seq (
     .region [] [
       ⟨some 35, .arrAddr 2 1 (.t 5) (.c (.int .i64 0)), none⟩,
       ⟨some 36, .load false 1 (.t 35), none⟩,
       ⟨some 37, .arrAddr 2 1 (.t 5) (.c (.int .i64 1)), none⟩,
       ⟨some 38, .load false 1 (.t 37), none⟩,
       ⟨some 39, .mv (.t 1), none⟩,
       ⟨some 40, .call 0 (.c (.fn 28 [])) [(.t 36), (.t 38), (.t 39)], none⟩,
       ⟨some 34, .mv (.t 40), none⟩,
       ⟨some 41, .ext (.t 34) 0, none⟩,
       ⟨some 42, .ext (.t 34) 1, none⟩,
       ⟨some 12, .mv (.t 41), none⟩,
       ⟨some 13, .mv (.t 42), none⟩]) (
     (.seq (
      (.seq (
       .region [] [
         ⟨some 43, .call 0 (.c (.fn 14 [])) [], none⟩,
         ⟨some 44, .not (.t 43), none⟩,
         ⟨some 45, .mv (.t 44), none⟩,
         ⟨some 46, .mv (.t 10), some (45, false)⟩,
         ⟨some 47, .mv (.t 12), some (45, false)⟩,
         ⟨some 48, .bin .neq (.t 46) (.t 47), some (45, false)⟩,
         ⟨some 49, .pick (.t 45) (.c (.bool true)) (.t 48), none⟩,
         ⟨some 50, .mv (.t 49), none⟩,
         ⟨some 51, .mv (.t 11), some (50, false)⟩,
         ⟨some 52, .mv (.t 13), some (50, false)⟩,
         ⟨some 53, .bin .neq (.t 51) (.t 52), some (50, false)⟩,
         ⟨some 54, .pick (.t 50) (.c (.bool true)) (.t 53), none⟩]) (
       (.cond (.t 54) (
        (.seq (
         .region [] [
           ⟨some 6, .mv (.c (.bool false)), none⟩]) (
         .ret))) (
        .skip))))) (
      (.seq (
       (.seq (
        .region [] [
          ⟨some 55, .mv (.t 0), none⟩,
          ⟨some 56, .call 0 (.c (.fn 15 [])) [(.t 55)], none⟩,
          ⟨some 57, .not (.t 56), none⟩]) (
        (.cond (.t 57) (
         (.seq (
          .region [] [
            ⟨some 58, .mv (.t 9), none⟩,
            ⟨some 59, .bin .eql (.t 58) (.c (.int .i64 2)), none⟩,
            ⟨some 60, .mv (.t 59), none⟩,
            ⟨some 61, .mv (.t 7), some (60, true)⟩,
            ⟨some 62, .bin .eql (.t 61) (.c (.int .i64 0)), some (60, true)⟩,
            ⟨some 63, .pick (.t 60) (.t 62) (.c (.bool false)), none⟩,
            ⟨some 64, .mv (.t 63), none⟩,
            ⟨some 65, .mv (.t 8), some (64, true)⟩,
            ⟨some 66, .bin .eql (.t 65) (.c (.int .i64 0)), some (64, true)⟩,
            ⟨some 67, .pick (.t 64) (.t 66) (.c (.bool false)), none⟩,
            ⟨some 6, .mv (.t 67), none⟩]) (
          .ret))) (
         .skip))))) (
       (.seq (
        .region [] [
          ⟨some 69, .mv (.t 0), none⟩,
          ⟨some 70, .mv (.t 1), none⟩,
          ⟨some 71, .call 0 (.c (.fn 29 [])) [(.t 69), (.t 70)], none⟩,
          ⟨some 68, .mv (.t 71), none⟩,
          ⟨some 72, .ext (.t 68) 0, none⟩,
          ⟨some 73, .ext (.t 68) 1, none⟩,
          ⟨some 14, .mv (.t 72), none⟩,
          ⟨some 15, .mv (.t 73), none⟩]) (
        (.seq (
         .region [] [
           ⟨some 75, .mv (.t 7), none⟩,
           ⟨some 76, .mv (.t 8), none⟩,
           ⟨some 77, .mv (.t 1), none⟩,
           ⟨some 78, .call 0 (.c (.fn 27 [])) [(.t 75), (.t 76), (.t 77)], none⟩,
           ⟨some 74, .mv (.t 78), none⟩,
           ⟨some 79, .ext (.t 74) 0, none⟩,
           ⟨some 80, .ext (.t 74) 1, none⟩,
           ⟨some 16, .mv (.t 79), none⟩,
           ⟨some 17, .mv (.t 80), none⟩]) (
         (.seq (
          .region [] [
            ⟨some 81, .mv (.t 9), none⟩,
            ⟨some 82, .bin .eql (.t 81) (.c (.int .i64 0)), none⟩,
            ⟨some 83, .mv (.t 82), none⟩,
            ⟨some 84, .mv (.t 7), some (83, true)⟩,
            ⟨some 85, .mv (.t 14), some (83, true)⟩,
            ⟨some 86, .bin .eql (.t 84) (.t 85), some (83, true)⟩,
            ⟨some 87, .pick (.t 83) (.t 86) (.c (.bool false)), none⟩,
            ⟨some 88, .mv (.t 87), none⟩,
            ⟨some 89, .mv (.t 8), some (88, true)⟩,
            ⟨some 90, .mv (.t 15), some (88, true)⟩,
            ⟨some 91, .bin .eql (.t 89) (.t 90), some (88, true)⟩,
            ⟨some 92, .pick (.t 88) (.t 91) (.c (.bool false)), none⟩,
            ⟨some 93, .mv (.t 92), none⟩,
            ⟨some 94, .mv (.t 17), some (93, true)⟩,
            ⟨some 95, .bin .eql (.t 94) (.c (.int .i64 0)), some (93, true)⟩,
            ⟨some 96, .pick (.t 93) (.t 95) (.c (.bool false)), none⟩,
            ⟨some 97, .mv (.t 96), none⟩,
            ⟨some 98, .mv (.t 16), some (97, true)⟩,
            ⟨some 99, .mv (.t 0), some (97, true)⟩,
            ⟨some 100, .bin .eql (.t 98) (.t 99), some (97, true)⟩,
            ⟨some 101, .pick (.t 97) (.t 100) (.c (.bool false)), none⟩,
            ⟨some 6, .mv (.t 101), none⟩]) (
          .ret))))))))))))))))))⟩

def a8 : AFunc := ⟨[.tmp 4],
 (.seq (
  .region [] [
    ⟨some 4, .mv (.c (.bool false)), none⟩]) (
  (.seq (
   .region [] [
     ⟨some 8, .mv (.t 0), none⟩,
     ⟨some 9, .mv (.t 1), none⟩,
     ⟨some 10, .call 0 (.c (.fn 30 [])) [(.t 8), (.t 9)], none⟩,
     ⟨some 7, .mv (.t 10), none⟩,
     ⟨some 11, .ext (.t 7) 0, none⟩,
     ⟨some 12, .ext (.t 7) 1, none⟩,
     ⟨some 5, .mv (.t 11), none⟩,
     ⟨some 6, .mv (.t 12), none⟩]) (
   (.seq (
    (.seq (
     .region [] [
       ⟨some 13, .call 0 (.c (.fn 14 [])) [], none⟩,
       ⟨some 14, .not (.t 13), none⟩]) (
     (.cond (.t 14) (
      (.seq (
       .region [] [
         ⟨some 4, .mv (.c (.bool false)), none⟩]) (
       .ret))) (
      .skip))))) (
    (.seq (
     (.seq (
      .region [] [
        ⟨some 15, .mv (.t 0), none⟩,
        ⟨some 16, .call 0 (.c (.fn 15 [])) [(.t 15)], none⟩,
        ⟨some 17, .not (.t 16), none⟩,
        ⟨some 18, .mv (.t 17), none⟩,
        ⟨some 19, .mv (.t 1), some (18, false)⟩,
        ⟨some 20, .call 0 (.c (.fn 15 [])) [(.t 19)], some (18, false)⟩,
        ⟨some 21, .not (.t 20), some (18, false)⟩,
        ⟨some 22, .pick (.t 18) (.c (.bool true)) (.t 21), none⟩]) (
      (.cond (.t 22) (
       (.seq (
        .region [] [
          ⟨some 23, .mv (.t 5), none⟩,
          ⟨some 24, .len (.t 23), none⟩,
          ⟨some 25, .bin .eql (.t 24) (.c (.int .i64 0)), none⟩,
          ⟨some 26, .mv (.t 25), none⟩,
          ⟨some 27, .mv (.t 6), some (26, true)⟩,
          ⟨some 28, .bin .eql (.t 27) (.c (.int .i64 2)), some (26, true)⟩,
          ⟨some 29, .pick (.t 26) (.t 28) (.c (.bool false)), none⟩,
          ⟨some 4, .mv (.t 29), none⟩]) (
        .ret))) (
       .skip))))) (
     (.seq (
      .region [] [
        ⟨some 30, .mv (.t 6), none⟩,
        ⟨some 31, .bin .eql (.t 30) (.c (.int .i64 0)), none⟩,
        ⟨some 32, .mv (.t 31), none⟩,
        ⟨some 33, .mv (.t 5), some (32, true)⟩,
        ⟨some 34, .mv (.t 0), some (32, true)⟩,
        ⟨some 35, .mv (.t 1), some (32, true)⟩,
        ⟨some 36, .call 0 (.c (.fn 31 [])) [(.t 34), (.t 35)], some (32, true)⟩,
        ⟨some 37, .call 0 (.c (.fn 23 [])) [(.t 33), (.t 36)], some (32, true)⟩,
        ⟨some 38, .pick (.t 32) (.t 37) (.c (.bool false)), none⟩,
        ⟨some 4, .mv (.t 38), none⟩]) (
      .ret))))))))))⟩

def a9 : AFunc := ⟨[.tmp 4],
 (.seq (
  .region [] [
    ⟨some 3, .box 1 (.t 1), none⟩,
    ⟨some 4, .mv (.c (.bool false)), none⟩]) (
  (.seq (
   .region [] [
     ⟨some 12, .mv (.t 0), none⟩,
     ⟨some 13, .load true 3 (.t 3), none⟩,
     ⟨some 14, .call 0 (.c (.fn 32 [])) [(.t 12), (.t 13)], none⟩,
     ⟨some 11, .mv (.t 14), none⟩,
     ⟨some 15, .ext (.t 11) 0, none⟩,
     ⟨some 16, .ext (.t 11) 1, none⟩,
     ⟨some 17, .ext (.t 11) 2, none⟩,
     ⟨some 5, .mv (.t 15), none⟩,
     ⟨some 6, .mv (.t 16), none⟩,
     ⟨some 7, .mv (.t 17), none⟩]) (
   (.seq (
    .region [] [
      ⟨some 18, .mv (.t 0), none⟩,
      ⟨some 19, .load true 3 (.t 3), none⟩,
      ⟨some 20, .call 0 (.c (.fn 33 [])) [(.t 18), (.t 19)], none⟩,
      ⟨some 8, .mv (.t 20), none⟩]) (
    (.seq (
     (.seq (
      .region [] [
        ⟨some 21, .call 0 (.c (.fn 14 [])) [], none⟩,
        ⟨some 22, .not (.t 21), none⟩]) (
      (.cond (.t 22) (
       (.seq (
        .region [] [
          ⟨some 4, .mv (.c (.bool false)), none⟩]) (
        .ret))) (
       .skip))))) (
     (.seq (
      (.seq (
       .region [] [
         ⟨some 23, .mv (.t 0), none⟩,
         ⟨some 24, .call 0 (.c (.fn 15 [])) [(.t 23)], none⟩,
         ⟨some 25, .not (.t 24), none⟩]) (
       (.cond (.t 25) (
        (.seq (
         .region [] [
           ⟨some 26, .mv (.t 5), none⟩,
           ⟨some 27, .bin .eql (.t 26) (.c (.int .i64 0)), none⟩,
           ⟨some 28, .mv (.t 27), none⟩,
           ⟨some 29, .mv (.t 6), some (28, true)⟩,
           ⟨some 30, .bin .eql (.t 29) (.c (.int .i64 0)), some (28, true)⟩,
           ⟨some 31, .pick (.t 28) (.t 30) (.c (.bool false)), none⟩,
           ⟨some 32, .mv (.t 31), none⟩,
           ⟨some 33, .mv (.t 7), some (32, true)⟩,
           ⟨some 34, .bin .eql (.t 33) (.c (.int .i64 2)), some (32, true)⟩,
           ⟨some 35, .pick (.t 32) (.t 34) (.c (.bool false)), none⟩,
           ⟨some 36, .mv (.t 35), none⟩,
           ⟨some 37, .mv (.t 8), some (36, true)⟩,
           ⟨some 38, .not (.t 37), some (36, true)⟩,
           ⟨some 39, .pick (.t 36) (.t 38) (.c (.bool false)), none⟩,
           ⟨some 4, .mv (.t 39), none⟩]) (
         .ret))) (
        .skip))))) (
      (.seq (
       (.seq (
        .region [] [
          ⟨some 40, .fieldAddr 0 (.t 3), none⟩,
          ⟨some 41, .load false 1 (.t 40), none⟩,
          ⟨some 42, .bin .lss (.t 41) (.c (.int .i64 0)), none⟩,
          ⟨some 43, .mv (.t 42), none⟩,
          ⟨some 44, .fieldAddr 0 (.t 3), some (43, false)⟩,
          ⟨some 45, .load false 1 (.t 44), some (43, false)⟩,
          ⟨some 46, .bin .gtr (.t 45) (.c (.int .i64 6)), some (43, false)⟩,
          ⟨some 47, .pick (.t 43) (.c (.bool true)) (.t 46), none⟩]) (
        (.cond (.t 47) (
         (.seq (
          .region [] [
            ⟨some 48, .mv (.t 5), none⟩,
            ⟨some 49, .bin .eql (.t 48) (.c (.int .i64 0)), none⟩,
            ⟨some 50, .mv (.t 49), none⟩,
            ⟨some 51, .mv (.t 6), some (50, true)⟩,
            ⟨some 52, .bin .eql (.t 51) (.c (.int .i64 0)), some (50, true)⟩,
            ⟨some 53, .pick (.t 50) (.t 52) (.c (.bool false)), none⟩,
            ⟨some 54, .mv (.t 53), none⟩,
            ⟨some 55, .mv (.t 7), some (54, true)⟩,
            ⟨some 56, .bin .eql (.t 55) (.c (.int .i64 18)), some (54, true)⟩,
            ⟨some 57, .pick (.t 54) (.t 56) (.c (.bool false)), none⟩,
            ⟨some 58, .mv (.t 57), none⟩,
            ⟨some 59, .mv (.t 8), some (58, true)⟩,
            ⟨some 60, .not (.t 59), some (58, true)⟩,
            ⟨some 61, .pick (.t 58) (.t 60) (.c (.bool false)), none⟩,
            ⟨some 4, .mv (.t 61), none⟩]) (
          .ret))) (
         .skip))))) (
       (.seq (
        (.seq (
         .region [] [
           ⟨some 62, .fieldAddr 1 (.t 3), none⟩,
           ⟨some 63, .load false 1 (.t 62), none⟩,
           ⟨some 64, .bin .lss (.t 63) (.c (.int .i64 (-2))), none⟩,
           ⟨some 65, .mv (.t 64), none⟩,
           ⟨some 66, .fieldAddr 1 (.t 3), some (65, false)⟩,
           ⟨some 67, .load false 1 (.t 66), some (65, false)⟩,
           ⟨some 68, .bin .gtr (.t 67) (.c (.int .i64 2)), some (65, false)⟩,
           ⟨some 69, .pick (.t 65) (.c (.bool true)) (.t 68), none⟩]) (
         (.cond (.t 69) (
          (.seq (
           .region [] [
             ⟨some 70, .mv (.t 5), none⟩,
             ⟨some 71, .bin .eql (.t 70) (.c (.int .i64 0)), none⟩,
             ⟨some 72, .mv (.t 71), none⟩,
             ⟨some 73, .mv (.t 6), some (72, true)⟩,
             ⟨some 74, .bin .eql (.t 73) (.c (.int .i64 0)), some (72, true)⟩,
             ⟨some 75, .pick (.t 72) (.t 74) (.c (.bool false)), none⟩,
             ⟨some 76, .mv (.t 75), none⟩,
             ⟨some 77, .mv (.t 7), some (76, true)⟩,
             ⟨some 78, .bin .eql (.t 77) (.c (.int .i64 18)), some (76, true)⟩,
             ⟨some 79, .pick (.t 76) (.t 78) (.c (.bool false)), none⟩,
             ⟨some 80, .mv (.t 79), none⟩,
             ⟨some 81, .mv (.t 8), some (80, true)⟩,
             ⟨some 82, .not (.t 81), some (80, true)⟩,
             ⟨some 83, .pick (.t 80) (.t 82) (.c (.bool false)), none⟩,
             ⟨some 4, .mv (.t 83), none⟩]) (
           .ret))) (
          .skip))))) (
        (.seq (
         .region [] [
           ⟨some 85, .mv (.t 0), none⟩,
           ⟨some 86, .call 0 (.c (.fn 29 [])) [(.t 85), (.c (.bool false))], none⟩,
           ⟨some 84, .mv (.t 86), none⟩,
           ⟨some 87, .ext (.t 84) 0, none⟩,
           ⟨some 88, .ext (.t 84) 1, none⟩,
           ⟨some 9, .mv (.t 87), none⟩,
           ⟨some 10, .mv (.t 88), none⟩]) (
         (.seq (
          .region [] [
            ⟨some 89, .mv (.t 7), none⟩,
            ⟨some 90, .bin .eql (.t 89) (.c (.int .i64 0)), none⟩,
            ⟨some 91, .mv (.t 90), none⟩,
            ⟨some 92, .mv (.t 5), some (91, true)⟩,
            ⟨some 93, .fieldAddr 0 (.t 3), some (91, true)⟩,
            ⟨some 94, .load false 1 (.t 93), some (91, true)⟩,
            ⟨some 95, .mv (.t 9), some (91, true)⟩,
            ⟨some 96, .bin .sub (.t 94) (.t 95), some (91, true)⟩,
            ⟨some 97, .bin .add (.t 96) (.c (.int .i64 7)), some (91, true)⟩,
            ⟨some 98, .bin .rem (.t 97) (.c (.int .i64 7)), some (91, true)⟩,
            ⟨some 99, .bin .eql (.t 92) (.t 98), some (91, true)⟩,
            ⟨some 100, .pick (.t 91) (.t 99) (.c (.bool false)), none⟩,
            ⟨some 101, .mv (.t 100), none⟩,
            ⟨some 102, .mv (.t 6), some (101, true)⟩,
            ⟨some 103, .fieldAddr 1 (.t 3), some (101, true)⟩,
            ⟨some 104, .load false 1 (.t 103), some (101, true)⟩,
            ⟨some 105, .mv (.t 0), some (101, true)⟩,
            ⟨some 106, .fieldAddr 0 (.t 3), some (101, true)⟩,
            ⟨some 107, .load false 1 (.t 106), some (101, true)⟩,
            ⟨some 108, .call 0 (.c (.fn 25 [])) [(.t 105), (.t 107)], some (101, true)⟩,
            ⟨some 109, .bin .sub (.t 104) (.t 108), some (101, true)⟩,
            ⟨some 110, .bin .eql (.t 102) (.t 109), some (101, true)⟩,
            ⟨some 111, .pick (.t 101) (.t 110) (.c (.bool false)), none⟩,
            ⟨some 112, .mv (.t 111), none⟩,
            ⟨some 113, .mv (.t 8), some (112, true)⟩,
            ⟨some 114, .mv (.t 6), some (112, true)⟩,
            ⟨some 115, .bin .eql (.t 114) (.c (.int .i64 0)), some (112, true)⟩,
            ⟨some 116, .eqb false (.t 113) (.t 115), some (112, true)⟩,
            ⟨some 117, .pick (.t 112) (.t 116) (.c (.bool false)), none⟩,
            ⟨some 4, .mv (.t 117), none⟩]) (
          .ret))))))))))))))))))⟩

def a10 : AFunc := ⟨[.tmp 4],
 (.seq (
  .region [] [
    ⟨some 4, .mv (.c (.bool false)), none⟩]) (
  (.seq (
   .region [] [
     ⟨some 15, .mv (.t 0), none⟩,
     ⟨some 16, .bin .rem (.t 15) (.c (.int .u8 15)), none⟩,
     ⟨some 17, .conv .i64 (.t 16), none⟩,
     ⟨some 18, .bin .sub (.t 17) (.c (.int .i64 7)), none⟩,
     ⟨some 5, .mv (.t 18), none⟩]) (
   (.seq (
    .region [] [
      ⟨some 20, .mv (.t 5), none⟩,
      ⟨some 21, .mv (.t 1), none⟩,
      ⟨some 22, .call 0 (.c (.fn 13 [])) [(.t 20), (.c (.bool false)), (.t 21)], none⟩,
      ⟨some 19, .mv (.t 22), none⟩,
      ⟨some 23, .ext (.t 19) 0, none⟩,
      ⟨some 24, .ext (.t 19) 1, none⟩,
      ⟨some 6, .mv (.t 23), none⟩,
      ⟨some 7, .mv (.t 24), none⟩]) (
    (.seq (
     (.seq (
      .region [] [
        ⟨some 25, .call 0 (.c (.fn 14 [])) [], none⟩,
        ⟨some 26, .not (.t 25), none⟩]) (
      (.cond (.t 26) (
       (.seq (
        .region [] [
          ⟨some 4, .mv (.c (.bool false)), none⟩]) (
        .ret))) (
       .skip))))) (
     (.seq (
      .region [] [
        ⟨some 8, .mv (.c (.int .i64 0)), none⟩]) (
      (.seq (
       (.seq (
        .region [] [
          ⟨some 9, .mv (.c (.int .i64 0)), none⟩]) (
        (.block 0 (
         (.loop (
          (.seq (
           (.seq (
            .region [] [
              ⟨some 27, .mv (.t 9), none⟩,
              ⟨some 28, .bin .lss (.t 27) (.c (.int .i64 7)), none⟩]) (
            (.cond (.t 28) (
             .skip) (
             .exit 0))))) (
           (.seq (
            (.block 1 (
             (.seq (
              .region [] [
                ⟨some 10, .mv (.c (.int .i64 (-2))), none⟩]) (
              (.block 2 (
               (.loop (
                (.seq (
                 (.seq (
                  .region [] [
                    ⟨some 31, .mv (.t 10), none⟩,
                    ⟨some 32, .bin .leq (.t 31) (.c (.int .i64 2)), none⟩]) (
                  (.cond (.t 32) (
                   .skip) (
                   .exit 2))))) (
                 (.seq (
                  (.block 3 (
                   (.seq (
                    .region [] [
                      ⟨some 35, .mv (.t 5), none⟩,
                      ⟨some 36, .mv (.t 9), none⟩,
                      ⟨some 37, .mv (.t 10), none⟩,
                      ⟨some 38, .mv (.t 1), none⟩,
                      ⟨some 39, .build [(.int .i64 0), (.int .i64 0), (.int .i64 0)] [(0, 1, (.t 36)), (1, 1, (.t 37)), (2, 1, (.t 38))], none⟩,
                      ⟨some 40, .call 0 (.c (.fn 33 [])) [(.t 35), (.t 39)], none⟩]) (
                    (.cond (.t 40) (
                     .region [] [
                       ⟨some 41, .mv (.t 8), none⟩,
                       ⟨some 42, .bin .add (.t 41) (.c (.int .i64 1)), none⟩,
                       ⟨some 8, .mv (.t 42), none⟩]) (
                     .skip))))))) (
                  .region [] [
                    ⟨some 33, .mv (.t 10), none⟩,
                    ⟨some 34, .bin .add (.t 33) (.c (.int .i64 1)), none⟩,
                    ⟨some 10, .mv (.t 34), none⟩]))))))))))))) (
            .region [] [
              ⟨some 29, .mv (.t 9), none⟩,
              ⟨some 30, .bin .add (.t 29) (.c (.int .i64 1)), none⟩,
              ⟨some 9, .mv (.t 30), none⟩]))))))))))) (
       (.seq (
        (.seq (
         .region [] [
           ⟨some 43, .mv (.t 8), none⟩,
           ⟨some 44, .bin .neq (.t 43) (.c (.int .i64 7)), none⟩,
           ⟨some 45, .mv (.t 44), none⟩,
           ⟨some 46, .mv (.t 7), some (45, false)⟩,
           ⟨some 47, .bin .neq (.t 46) (.c (.int .i64 0)), some (45, false)⟩,
           ⟨some 48, .pick (.t 45) (.c (.bool true)) (.t 47), none⟩]) (
         (.cond (.t 48) (
          (.seq (
           .region [] [
             ⟨some 49, .mv (.t 8), none⟩,
             ⟨some 50, .bin .eql (.t 49) (.c (.int .i64 7)), none⟩,
             ⟨some 51, .mv (.t 50), none⟩,
             ⟨some 52, .mv (.t 7), some (51, true)⟩,
             ⟨some 53, .bin .eql (.t 52) (.c (.int .i64 18)), some (51, true)⟩,
             ⟨some 54, .pick (.t 51) (.t 53) (.c (.bool false)), none⟩,
             ⟨some 4, .mv (.t 54), none⟩]) (
           .ret))) (
          .skip))))) (
        (.seq (
         (.seq (
          .region [] [
            ⟨some 11, .mv (.c (.int .i64 0)), none⟩]) (
          (.block 4 (
           (.loop (
            (.seq (
             (.seq (
              .region [] [
                ⟨some 55, .mv (.t 11), none⟩,
                ⟨some 56, .mv (.t 6), none⟩,
                ⟨some 57, .len (.t 56), none⟩,
                ⟨some 58, .bin .lss (.t 55) (.t 57), none⟩]) (
              (.cond (.t 58) (
               .skip) (
               .exit 4))))) (
             (.seq (
              (.block 5 (
               (.seq (
                .region [] [
                  ⟨some 62, .mv (.t 5), none⟩,
                  ⟨some 63, .mv (.t 6), none⟩,
                  ⟨some 64, .mv (.t 11), none⟩,
                  ⟨some 65, .elemAddr 3 (.t 63) (.t 64), none⟩,
                  ⟨some 66, .load true 3 (.t 65), none⟩,
                  ⟨some 67, .call 0 (.c (.fn 32 [])) [(.t 62), (.t 66)], none⟩,
                  ⟨some 61, .mv (.t 67), none⟩,
                  ⟨some 68, .ext (.t 61) 0, none⟩,
                  ⟨some 69, .ext (.t 61) 1, none⟩,
                  ⟨some 70, .ext (.t 61) 2, none⟩,
                  ⟨some 12, .mv (.t 68), none⟩,
                  ⟨some 13, .mv (.t 69), none⟩,
                  ⟨some 14, .mv (.t 70), none⟩]) (
                (.seq (
                 .region [] [
                   ⟨some 71, .mv (.t 12), none⟩,
                   ⟨some 72, .mv (.t 11), none⟩,
                   ⟨some 73, .bin .neq (.t 71) (.t 72), none⟩,
                   ⟨some 74, .mv (.t 73), none⟩,
                   ⟨some 75, .mv (.t 13), some (74, false)⟩,
                   ⟨some 76, .bin .neq (.t 75) (.c (.int .i64 0)), some (74, false)⟩,
                   ⟨some 77, .pick (.t 74) (.c (.bool true)) (.t 76), none⟩,
                   ⟨some 78, .mv (.t 77), none⟩,
                   ⟨some 79, .mv (.t 14), some (78, false)⟩,
                   ⟨some 80, .bin .neq (.t 79) (.c (.int .i64 0)), some (78, false)⟩,
                   ⟨some 81, .pick (.t 78) (.c (.bool true)) (.t 80), none⟩,
                   ⟨some 82, .mv (.t 81), none⟩,
                   ⟨some 83, .mv (.t 5), some (82, false)⟩,
                   ⟨some 84, .mv (.t 6), some (82, false)⟩,
                   ⟨some 85, .mv (.t 11), some (82, false)⟩,
                   ⟨some 86, .elemAddr 3 (.t 84) (.t 85), some (82, false)⟩,
                   ⟨some 87, .load true 3 (.t 86), some (82, false)⟩,
                   ⟨some 88, .call 0 (.c (.fn 33 [])) [(.t 83), (.t 87)], some (82, false)⟩,
                   ⟨some 89, .not (.t 88), some (82, false)⟩,
                   ⟨some 90, .pick (.t 82) (.c (.bool true)) (.t 89), none⟩]) (
                 (.cond (.t 90) (
                  (.seq (
                   .region [] [
                     ⟨some 4, .mv (.c (.bool false)), none⟩]) (
                   .ret))) (
                  .skip))))))))) (
              .region [] [
                ⟨some 59, .mv (.t 11), none⟩,
                ⟨some 60, .bin .add (.t 59) (.c (.int .i64 1)), none⟩,
                ⟨some 11, .mv (.t 60), none⟩]))))))))))) (
         (.seq (
          .region [] [
            ⟨some 91, .mv (.t 6), none⟩,
            ⟨some 92, .len (.t 91), none⟩,
            ⟨some 93, .bin .eql (.t 92) (.c (.int .i64 7)), none⟩,
            ⟨some 4, .mv (.t 93), none⟩]) (
          .ret))))))))))))))))))⟩

def a11 : AFunc := ⟨[.tmp 4],
 (.seq (
  .region [] [
    ⟨some 4, .mv (.c (.bool false)), none⟩]) (
  (.seq (
   .region [] [
     ⟨some 11, .mv (.t 0), none⟩,
     ⟨some 12, .mv (.t 1), none⟩,
     ⟨some 13, .call 0 (.c (.fn 34 [])) [(.t 11), (.t 12)], none⟩,
     ⟨some 10, .mv (.t 13), none⟩,
     ⟨some 14, .ext (.t 10) 0, none⟩,
     ⟨some 15, .ext (.t 10) 1, none⟩,
     ⟨some 5, .mv (.t 14), none⟩,
     ⟨some 6, .mv (.t 15), none⟩]) (
   (.seq (
    (.seq (
     .region [] [
       ⟨some 16, .call 0 (.c (.fn 14 [])) [], none⟩,
       ⟨some 17, .not (.t 16), none⟩]) (
     (.cond (.t 17) (
      (.seq (
       .region [] [
         ⟨some 4, .mv (.c (.bool false)), none⟩]) (
       .ret))) (
      .skip))))) (
    (.seq (
     (.seq (
      .region [] [
        ⟨some 18, .mv (.t 0), none⟩,
        ⟨some 19, .call 0 (.c (.fn 15 [])) [(.t 18)], none⟩,
        ⟨some 20, .not (.t 19), none⟩]) (
      (.cond (.t 20) (
       (.seq (
        .region [] [
          ⟨some 21, .mv (.t 5), none⟩,
          ⟨some 22, .bin .eql (.t 21) (.c (.str ⟨#[]⟩)), none⟩,
          ⟨some 23, .mv (.t 22), none⟩,
          ⟨some 24, .mv (.t 6), some (23, true)⟩,
          ⟨some 25, .bin .eql (.t 24) (.c (.int .i64 2)), some (23, true)⟩,
          ⟨some 26, .pick (.t 23) (.t 25) (.c (.bool false)), none⟩,
          ⟨some 4, .mv (.t 26), none⟩]) (
        .ret))) (
       .skip))))) (
     (.seq (
      .region [] [
        ⟨some 28, .mv (.t 5), none⟩,
        ⟨some 29, .call 0 (.c (.fn 35 [])) [(.t 28)], none⟩,
        ⟨some 27, .mv (.t 29), none⟩,
        ⟨some 30, .ext (.t 27) 0, none⟩,
        ⟨some 31, .ext (.t 27) 1, none⟩,
        ⟨some 32, .ext (.t 27) 2, none⟩,
        ⟨some 7, .mv (.t 30), none⟩,
        ⟨some 8, .mv (.t 31), none⟩,
        ⟨some 9, .mv (.t 32), none⟩]) (
      (.seq (
       .region [] [
         ⟨some 33, .mv (.t 6), none⟩,
         ⟨some 34, .bin .eql (.t 33) (.c (.int .i64 0)), none⟩,
         ⟨some 35, .mv (.t 34), none⟩,
         ⟨some 36, .mv (.t 5), some (35, true)⟩,
         ⟨some 37, .mv (.t 0), some (35, true)⟩,
         ⟨some 38, .mv (.t 1), some (35, true)⟩,
         ⟨some 39, .call 0 (.c (.fn 36 [])) [(.t 37), (.t 38)], some (35, true)⟩,
         ⟨some 40, .bin .eql (.t 36) (.t 39), some (35, true)⟩,
         ⟨some 41, .pick (.t 35) (.t 40) (.c (.bool false)), none⟩,
         ⟨some 42, .mv (.t 41), none⟩,
         ⟨some 43, .mv (.t 7), some (42, true)⟩,
         ⟨some 44, .mv (.t 0), some (42, true)⟩,
         ⟨some 45, .bin .eql (.t 43) (.t 44), some (42, true)⟩,
         ⟨some 46, .pick (.t 42) (.t 45) (.c (.bool false)), none⟩,
         ⟨some 47, .mv (.t 46), none⟩,
         ⟨some 48, .mv (.t 8), some (47, true)⟩,
         ⟨some 49, .mv (.t 1), some (47, true)⟩,
         ⟨some 50, .eqb false (.t 48) (.t 49), some (47, true)⟩,
         ⟨some 51, .pick (.t 47) (.t 50) (.c (.bool false)), none⟩,
         ⟨some 52, .mv (.t 51), none⟩,
         ⟨some 53, .mv (.t 9), some (52, true)⟩,
         ⟨some 54, .bin .eql (.t 53) (.c (.int .i64 0)), some (52, true)⟩,
         ⟨some 55, .pick (.t 52) (.t 54) (.c (.bool false)), none⟩,
         ⟨some 4, .mv (.t 55), none⟩]) (
       .ret))))))))))))⟩

def a12 : AFunc := ⟨[.tmp 2],
 (.seq (
  .region [] [
    ⟨some 2, .mv (.c (.bool false)), none⟩]) (
  (.seq (
   .region [] [
     ⟨some 8, .mv (.t 0), none⟩,
     ⟨some 9, .mv (.t 0), none⟩,
     ⟨some 10, .slen (.t 9), none⟩,
     ⟨some 11, .mm false [(.t 10), (.c (.int .i64 20))], none⟩,
     ⟨some 12, .strSub (.t 8) none (some (.t 11)), none⟩,
     ⟨some 0, .mv (.t 12), none⟩]) (
   (.seq (
    .region [] [
      ⟨some 14, .mv (.t 0), none⟩,
      ⟨some 15, .call 0 (.c (.fn 35 [])) [(.t 14)], none⟩,
      ⟨some 13, .mv (.t 15), none⟩,
      ⟨some 16, .ext (.t 13) 0, none⟩,
      ⟨some 17, .ext (.t 13) 1, none⟩,
      ⟨some 18, .ext (.t 13) 2, none⟩,
      ⟨some 3, .mv (.t 16), none⟩,
      ⟨some 4, .mv (.t 17), none⟩,
      ⟨some 5, .mv (.t 18), none⟩]) (
    (.seq (
     (.seq (
      .region [] [
        ⟨some 19, .call 0 (.c (.fn 14 [])) [], none⟩,
        ⟨some 20, .not (.t 19), none⟩]) (
      (.cond (.t 20) (
       (.seq (
        .region [] [
          ⟨some 2, .mv (.c (.bool false)), none⟩]) (
        .ret))) (
       .skip))))) (
     (.seq (
      (.seq (
       .region [] [
         ⟨some 6, .mv (.c (.int .i64 (-7))), none⟩]) (
       (.block 0 (
        (.loop (
         (.seq (
          (.seq (
           .region [] [
             ⟨some 21, .mv (.t 6), none⟩,
             ⟨some 22, .bin .leq (.t 21) (.c (.int .i64 7)), none⟩]) (
           (.cond (.t 22) (
            .skip) (
            .exit 0))))) (
          (.seq (
           (.block 1 (
            (.seq (
             .region [] [
               ⟨some 7, .mv (.c (.int .i64 0)), none⟩]) (
             (.block 2 (
              (.loop (
               (.seq (
                (.seq (
                 .region [] [
                   ⟨some 25, .mv (.t 7), none⟩,
                   ⟨some 26, .bin .lss (.t 25) (.c (.int .i64 2)), none⟩]) (
                 (.cond (.t 26) (
                  .skip) (
                  .exit 2))))) (
                (.seq (
                 (.block 3 (
                  (.seq (
                   .region [] [
                     ⟨some 29, .mv (.t 6), none⟩,
                     ⟨some 30, .mv (.t 7), none⟩,
                     ⟨some 31, .bin .eql (.t 30) (.c (.int .i64 1)), none⟩,
                     ⟨some 32, .call 0 (.c (.fn 36 [])) [(.t 29), (.t 31)], none⟩,
                     ⟨some 33, .mv (.t 0), none⟩,
                     ⟨some 34, .bin .eql (.t 32) (.t 33), none⟩]) (
                   (.cond (.t 34) (
                    (.seq (
                     .region [] [
                       ⟨some 35, .mv (.t 5), none⟩,
                       ⟨some 36, .bin .eql (.t 35) (.c (.int .i64 0)), none⟩,
                       ⟨some 37, .mv (.t 36), none⟩,
                       ⟨some 38, .mv (.t 3), some (37, true)⟩,
                       ⟨some 39, .mv (.t 6), some (37, true)⟩,
                       ⟨some 40, .bin .eql (.t 38) (.t 39), some (37, true)⟩,
                       ⟨some 41, .pick (.t 37) (.t 40) (.c (.bool false)), none⟩,
                       ⟨some 42, .mv (.t 41), none⟩,
                       ⟨some 43, .mv (.t 4), some (42, true)⟩,
                       ⟨some 44, .mv (.t 7), some (42, true)⟩,
                       ⟨some 45, .bin .eql (.t 44) (.c (.int .i64 1)), some (42, true)⟩,
                       ⟨some 46, .eqb false (.t 43) (.t 45), some (42, true)⟩,
                       ⟨some 47, .pick (.t 42) (.t 46) (.c (.bool false)), none⟩,
                       ⟨some 2, .mv (.t 47), none⟩]) (
                     .ret))) (
                    .skip))))))) (
                 .region [] [
                   ⟨some 27, .mv (.t 7), none⟩,
                   ⟨some 28, .bin .add (.t 27) (.c (.int .i64 1)), none⟩,
                   ⟨some 7, .mv (.t 28), none⟩]))))))))))))) (
           .region [] [
             ⟨some 23, .mv (.t 6), none⟩,
             ⟨some 24, .bin .add (.t 23) (.c (.int .i64 1)), none⟩,
             ⟨some 6, .mv (.t 24), none⟩]))))))))))) (
      (.seq (
       .region [] [
         ⟨some 48, .mv (.t 5), none⟩,
         ⟨some 49, .bin .eql (.t 48) (.c (.int .i64 12)), none⟩,
         ⟨some 50, .mv (.t 49), none⟩,
         ⟨some 51, .mv (.t 3), some (50, true)⟩,
         ⟨some 52, .bin .eql (.t 51) (.c (.int .i64 0)), some (50, true)⟩,
         ⟨some 53, .pick (.t 50) (.t 52) (.c (.bool false)), none⟩,
         ⟨some 54, .mv (.t 53), none⟩,
         ⟨some 55, .mv (.t 4), some (54, true)⟩,
         ⟨some 56, .not (.t 55), some (54, true)⟩,
         ⟨some 57, .pick (.t 54) (.t 56) (.c (.bool false)), none⟩,
         ⟨some 2, .mv (.t 57), none⟩]) (
       .ret))))))))))))⟩

def a13 : AFunc := ⟨[.tmp 6, .tmp 7],
 (.seq (
  .region [] [
    ⟨some 6, .mv (.c .nilsl), none⟩,
    ⟨some 7, .mv (.c (.int .i64 0)), none⟩]) (
  (.seq (
   .region [] [
     ⟨some 13, .mv (.t 0), none⟩,
     ⟨some 14, .mv (.t 1), none⟩,
     ⟨some 15, .call 0 (.c (.fn 26 [])) [(.t 13), (.t 14)], none⟩,
     ⟨some 12, .mv (.t 15), none⟩,
     ⟨some 16, .ext (.t 12) 0, none⟩,
     ⟨some 17, .ext (.t 12) 1, none⟩,
     ⟨some 18, .ext (.t 12) 2, none⟩,
     ⟨some 8, .mv (.t 16), none⟩,
     ⟨some 9, .mv (.t 17), none⟩,
     ⟨some 10, .mv (.t 18), none⟩]) (
   (.seq (
    (.seq (
     .region [] [
       ⟨some 19, .mv (.t 10), none⟩,
       ⟨some 20, .bin .neq (.t 19) (.c (.int .i64 0)), none⟩]) (
     (.cond (.t 20) (
      (.seq (
       .region [] [
         ⟨some 21, .mv (.t 10), none⟩,
         ⟨some 6, .mv (.c .nilsl), none⟩,
         ⟨some 7, .mv (.t 21), none⟩]) (
       .ret))) (
      .skip))))) (
    (.seq (
     .region [] [
       ⟨some 11, .mv (.c .nilsl), none⟩]) (
     (.seq (
      (.seq (
       .region [] [
         ⟨some 22, .mv (.c (.int .i64 0)), none⟩]) (
       (.block 0 (
        (.loop (
         (.seq (
          .region [] [
            ⟨some 23, .bin .lss (.t 22) (.c (.int .i64 7)), none⟩]) (
          (.seq (
           (.cond (.t 23) (
            .skip) (
            .exit 0))) (
           (.seq (
            (.block 1 (
             (.seq (
              (.seq (
               .region [] [
                 ⟨some 24, .mv (.t 2), none⟩,
                 ⟨some 25, .bin .lss (.t 24) (.c (.int .i64 (-1))), none⟩,
                 ⟨some 26, .mv (.t 25), none⟩,
                 ⟨some 27, .mv (.t 2), some (26, false)⟩,
                 ⟨some 28, .bin .gtr (.t 27) (.c (.int .i64 9)), some (26, false)⟩,
                 ⟨some 29, .pick (.t 26) (.c (.bool true)) (.t 28), none⟩]) (
               (.cond (.t 29) (
                (.seq (
                 .region [] [
                   ⟨some 6, .mv (.c .nilsl), none⟩,
                   ⟨some 7, .mv (.c (.int .i64 18)), none⟩]) (
                 .ret))) (
                .skip))))) (
              (.seq (
               .region [] [
                 ⟨some 30, .mv (.t 11), none⟩,
                 ⟨some 31, .mv (.t 8), none⟩,
                 ⟨some 32, .mv (.t 0), none⟩,
                 ⟨some 33, .mv (.t 8), none⟩,
                 ⟨some 34, .call 0 (.c (.fn 37 [])) [(.t 32), (.t 33)], none⟩,
                 ⟨some 35, .mv (.t 2), none⟩,
                 ⟨some 36, .build [(.int .i64 0), (.int .i64 0), (.int .i64 0)] [(0, 1, (.t 31)), (1, 1, (.t 34)), (2, 1, (.t 35))], none⟩,
                 ⟨some 37, .lit 3 [(.int .i64 0), (.int .i64 0), (.int .i64 0)] 1 [(0, 3, (.t 36))], none⟩,
                 ⟨some 38, .app 1 3 24 (.t 30) (.t 37), none⟩,
                 ⟨some 11, .mv (.t 38), none⟩]) (
               (.seq (
                .region [] [
                  ⟨some 39, .mv (.t 8), none⟩,
                  ⟨some 40, .bin .add (.t 39) (.c (.int .i64 1)), none⟩,
                  ⟨some 8, .mv (.t 40), none⟩]) (
                (.seq (
                 .region [] [
                   ⟨some 41, .mv (.t 8), none⟩,
                   ⟨some 42, .bin .eql (.t 41) (.c (.int .i64 7)), none⟩]) (
                 (.cond (.t 42) (
                  .region [] [
                    ⟨some 43, .mv (.t 2), none⟩,
                    ⟨some 44, .bin .add (.t 43) (.c (.int .i64 1)), none⟩,
                    ⟨some 8, .mv (.c (.int .i64 0)), none⟩,
                    ⟨some 2, .mv (.t 44), none⟩]) (
                  .skip))))))))))))) (
            .region [] [
              ⟨some 45, .bin .add (.t 22) (.c (.int .i64 1)), none⟩,
              ⟨some 22, .mv (.t 45), none⟩]))))))))))))) (
      (.seq (
       .region [] [
         ⟨some 46, .mv (.t 11), none⟩,
         ⟨some 6, .mv (.t 46), none⟩,
         ⟨some 7, .mv (.c (.int .i64 0)), none⟩]) (
       .ret))))))))))))⟩

def a14 : AFunc := ⟨[.tmp 0],
 (.seq (
  .region [] [
    ⟨some 0, .mv (.c (.bool false)), none⟩]) (
  (.seq (
   .region [] [
     ⟨some 10, .call 0 (.c (.fn 21 [])) [(.c (.int .i64 2))], none⟩,
     ⟨some 9, .mv (.t 10), none⟩,
     ⟨some 11, .ext (.t 9) 0, none⟩,
     ⟨some 12, .ext (.t 9) 1, none⟩,
     ⟨some 1, .mv (.t 11), none⟩,
     ⟨some 2, .mv (.t 12), none⟩]) (
   (.seq (
    .region [] [
      ⟨some 14, .call 0 (.c (.fn 34 [])) [(.c (.int .i64 2)), (.c (.bool true))], none⟩,
      ⟨some 13, .mv (.t 14), none⟩,
      ⟨some 15, .ext (.t 13) 0, none⟩,
      ⟨some 16, .ext (.t 13) 1, none⟩,
      ⟨some 3, .mv (.t 15), none⟩,
      ⟨some 4, .mv (.t 16), none⟩]) (
    (.seq (
     .region [] [
       ⟨some 18, .call 0 (.c (.fn 13 [])) [(.c (.int .i64 2)), (.c (.bool false)), (.c (.int .i64 4))], none⟩,
       ⟨some 17, .mv (.t 18), none⟩,
       ⟨some 19, .ext (.t 17) 0, none⟩,
       ⟨some 20, .ext (.t 17) 1, none⟩,
       ⟨some 5, .mv (.t 19), none⟩,
       ⟨some 6, .mv (.t 20), none⟩]) (
     (.seq (
      .region [] [
        ⟨some 22, .build [(.int .i64 0), (.int .i64 0)] [(0, 1, (.c (.int .i64 1))), (1, 1, (.c (.int .i64 2)))], none⟩,
        ⟨some 23, .call 0 (.c (.fn 18 [])) [(.c (.int .i64 7)), (.t 22)], none⟩,
        ⟨some 21, .mv (.t 23), none⟩,
        ⟨some 24, .ext (.t 21) 0, none⟩,
        ⟨some 25, .ext (.t 21) 1, none⟩,
        ⟨some 7, .mv (.t 24), none⟩,
        ⟨some 8, .mv (.t 25), none⟩]) (
      (.seq (
       .region [] [
         ⟨some 26, .mv (.t 2), none⟩,
         ⟨some 27, .bin .eql (.t 26) (.c (.int .i64 0)), none⟩,
         ⟨some 28, .mv (.t 27), none⟩,
         ⟨some 29, .mv (.t 1), some (28, true)⟩,
         ⟨some 30, .len (.t 29), some (28, true)⟩,
         ⟨some 31, .bin .eql (.t 30) (.c (.int .i64 2)), some (28, true)⟩,
         ⟨some 32, .pick (.t 28) (.t 31) (.c (.bool false)), none⟩,
         ⟨some 33, .mv (.t 32), none⟩,
         ⟨some 34, .mv (.t 1), some (33, true)⟩,
         ⟨some 35, .elemAddr 1 (.t 34) (.c (.int .i64 0)), some (33, true)⟩,
         ⟨some 36, .load false 1 (.t 35), some (33, true)⟩,
         ⟨some 37, .bin .eql (.t 36) (.c (.int .i64 3)), some (33, true)⟩,
         ⟨some 38, .pick (.t 33) (.t 37) (.c (.bool false)), none⟩,
         ⟨some 39, .mv (.t 38), none⟩,
         ⟨some 40, .mv (.t 1), some (39, true)⟩,
         ⟨some 41, .elemAddr 1 (.t 40) (.c (.int .i64 1)), some (39, true)⟩,
         ⟨some 42, .load false 1 (.t 41), some (39, true)⟩,
         ⟨some 43, .bin .eql (.t 42) (.c (.int .i64 0)), some (39, true)⟩,
         ⟨some 44, .pick (.t 39) (.t 43) (.c (.bool false)), none⟩,
         ⟨some 45, .mv (.t 44), none⟩,
         ⟨some 46, .mv (.t 4), some (45, true)⟩,
         ⟨some 47, .bin .eql (.t 46) (.c (.int .i64 0)), some (45, true)⟩,
         ⟨some 48, .pick (.t 45) (.t 47) (.c (.bool false)), none⟩,
         ⟨some 49, .mv (.t 48), none⟩,
         ⟨some 50, .mv (.t 3), some (49, true)⟩,
         ⟨some 51, .bin .eql (.t 50) (.c (.str ⟨#[66, 32, 109, 105, 110, 111, 114]⟩)), some (49, true)⟩,
         ⟨some 52, .pick (.t 49) (.t 51) (.c (.bool false)), none⟩,
         ⟨some 53, .mv (.t 52), none⟩,
         ⟨some 54, .mv (.t 6), some (53, true)⟩,
         ⟨some 55, .bin .eql (.t 54) (.c (.int .i64 0)), some (53, true)⟩,
         ⟨some 56, .pick (.t 53) (.t 55) (.c (.bool false)), none⟩,
         ⟨some 57, .mv (.t 56), none⟩,
         ⟨some 58, .mv (.t 5), some (57, true)⟩,
         ⟨some 59, .len (.t 58), some (57, true)⟩,
         ⟨some 60, .bin .eql (.t 59) (.c (.int .i64 7)), some (57, true)⟩,
         ⟨some 61, .pick (.t 57) (.t 60) (.c (.bool false)), none⟩,
         ⟨some 62, .mv (.t 61), none⟩,
         ⟨some 63, .mv (.t 5), some (62, true)⟩,
         ⟨some 64, .elemAddr 3 (.t 63) (.c (.int .i64 6)), some (62, true)⟩,
         ⟨some 65, .load true 3 (.t 64), some (62, true)⟩,
         ⟨some 66, .build [(.int .i64 0), (.int .i64 0), (.int .i64 0)] [(0, 1, (.c (.int .i64 0))), (1, 1, (.c (.int .i64 1))), (2, 1, (.c (.int .i64 5)))], some (62, true)⟩,
         ⟨some 67, .eqagg [false, false, false] false (.t 65) (.t 66), some (62, true)⟩,
         ⟨some 68, .pick (.t 62) (.t 67) (.c (.bool false)), none⟩,
         ⟨some 69, .mv (.t 68), none⟩,
         ⟨some 70, .mv (.t 8), some (69, true)⟩,
         ⟨some 71, .bin .eql (.t 70) (.c (.int .i64 0)), some (69, true)⟩,
         ⟨some 72, .pick (.t 69) (.t 71) (.c (.bool false)), none⟩,
         ⟨some 73, .mv (.t 72), none⟩,
         ⟨some 74, .mv (.t 7), some (73, true)⟩,
         ⟨some 75, .bin .eql (.t 74) (.c (.int .i64 (-3))), some (73, true)⟩,
         ⟨some 76, .pick (.t 73) (.t 75) (.c (.bool false)), none⟩,
         ⟨some 0, .mv (.t 76), none⟩]) (
       .ret))))))))))))⟩

def a15 : AFunc := ⟨[.tmp 2],
 (.seq (
  .region [] [
    ⟨some 2, .mv (.c (.bool false)), none⟩]) (
  (.seq (
   .region [] [
     ⟨some 3, .mv (.t 0), none⟩,
     ⟨some 4, .bin .geq (.t 3) (.c (.int .i64 (-7))), none⟩,
     ⟨some 5, .mv (.t 4), none⟩,
     ⟨some 6, .mv (.t 0), some (5, true)⟩,
     ⟨some 7, .bin .leq (.t 6) (.c (.int .i64 7)), some (5, true)⟩,
     ⟨some 8, .pick (.t 5) (.t 7) (.c (.bool false)), none⟩,
     ⟨some 2, .mv (.t 8), none⟩]) (
   .ret))))⟩

def a16 : AFunc := ⟨[.tmp 6, .tmp 7],
 (.seq (
  .region [] [
    ⟨some 6, .mv (.c .nilsl), none⟩,
    ⟨some 7, .mv (.c (.int .i64 0)), none⟩]) (
  (.seq (
   .region [] [
     ⟨some 13, .mv (.t 0), none⟩,
     ⟨some 14, .mv (.t 1), none⟩,
     ⟨some 15, .call 0 (.c (.fn 29 [])) [(.t 13), (.t 14)], none⟩,
     ⟨some 12, .mv (.t 15), none⟩,
     ⟨some 16, .ext (.t 12) 0, none⟩,
     ⟨some 17, .ext (.t 12) 1, none⟩,
     ⟨some 8, .mv (.t 16), none⟩,
     ⟨some 9, .mv (.t 17), none⟩]) (
   (.seq (
    .region [] [
      ⟨some 10, .mv (.c .nilsl), none⟩]) (
    (.seq (
     (.seq (
      .region [] [
        ⟨some 11, .mv (.c (.int .i64 0)), none⟩]) (
      (.block 0 (
       (.loop (
        (.seq (
         (.seq (
          .region [] [
            ⟨some 18, .mv (.t 11), none⟩,
            ⟨some 19, .bin .lss (.t 18) (.c (.int .i64 7)), none⟩]) (
          (.cond (.t 19) (
           .skip) (
           .exit 0))))) (
         (.seq (
          (.block 1 (
           (.seq (
            (.seq (
             .region [] [
               ⟨some 22, .mv (.t 2), none⟩,
               ⟨some 23, .bin .lss (.t 22) (.c (.int .i64 (-1))), none⟩,
               ⟨some 24, .mv (.t 23), none⟩,
               ⟨some 25, .mv (.t 2), some (24, false)⟩,
               ⟨some 26, .bin .gtr (.t 25) (.c (.int .i64 9)), some (24, false)⟩,
               ⟨some 27, .pick (.t 24) (.c (.bool true)) (.t 26), none⟩]) (
             (.cond (.t 27) (
              (.seq (
               .region [] [
                 ⟨some 6, .mv (.c .nilsl), none⟩,
                 ⟨some 7, .mv (.c (.int .i64 18)), none⟩]) (
               .ret))) (
              .skip))))) (
            (.seq (
             .region [] [
               ⟨some 28, .mv (.t 10), none⟩,
               ⟨some 29, .mv (.t 8), none⟩,
               ⟨some 30, .mv (.t 0), none⟩,
               ⟨some 31, .mv (.t 8), none⟩,
               ⟨some 32, .call 0 (.c (.fn 25 [])) [(.t 30), (.t 31)], none⟩,
               ⟨some 33, .mv (.t 2), none⟩,
               ⟨some 34, .build [(.int .i64 0), (.int .i64 0), (.int .i64 0)] [(0, 1, (.t 29)), (1, 1, (.t 32)), (2, 1, (.t 33))], none⟩,
               ⟨some 35, .lit 3 [(.int .i64 0), (.int .i64 0), (.int .i64 0)] 1 [(0, 3, (.t 34))], none⟩,
               ⟨some 36, .app 1 3 24 (.t 28) (.t 35), none⟩,
               ⟨some 10, .mv (.t 36), none⟩]) (
             (.seq (
              .region [] [
                ⟨some 37, .mv (.t 8), none⟩,
                ⟨some 38, .bin .add (.t 37) (.c (.int .i64 1)), none⟩,
                ⟨some 8, .mv (.t 38), none⟩]) (
              (.seq (
               .region [] [
                 ⟨some 39, .mv (.t 8), none⟩,
                 ⟨some 40, .bin .eql (.t 39) (.c (.int .i64 7)), none⟩]) (
               (.cond (.t 40) (
                .region [] [
                  ⟨some 41, .mv (.t 2), none⟩,
                  ⟨some 42, .bin .add (.t 41) (.c (.int .i64 1)), none⟩,
                  ⟨some 8, .mv (.c (.int .i64 0)), none⟩,
                  ⟨some 2, .mv (.t 42), none⟩]) (
                .skip))))))))))))) (
          .region [] [
            ⟨some 20, .mv (.t 11), none⟩,
            ⟨some 21, .bin .add (.t 20) (.c (.int .i64 1)), none⟩,
            ⟨some 11, .mv (.t 21), none⟩]))))))))))) (
     (.seq (
      .region [] [
        ⟨some 43, .mv (.t 10), none⟩,
        ⟨some 6, .mv (.t 43), none⟩,
        ⟨some 7, .mv (.c (.int .i64 0)), none⟩]) (
      .ret))))))))))⟩

def a17 : AFunc := ⟨[.tmp 2],
 (.seq (
  .region [] [
    ⟨some 1, .box 1 (.t 0), none⟩,
    ⟨some 2, .mv (.c (.int .i64 0)), none⟩]) (
  (.seq (
   .region [] [
     ⟨some 3, .lit 1 [(.int .i64 0)] 7 [(0, 1, (.c (.int .i64 0))), (1, 1, (.c (.int .i64 2))), (2, 1, (.c (.int .i64 4))), (3, 1, (.c (.int .i64 5))), (4, 1, (.c (.int .i64 7))), (5, 1, (.c (.int .i64 9))), (6, 1, (.c (.int .i64 11)))], none⟩,
     ⟨some 4, .fieldAddr 0 (.t 1), none⟩,
     ⟨some 5, .load false 1 (.t 4), none⟩,
     ⟨some 6, .elemAddr 1 (.t 3) (.t 5), none⟩,
     ⟨some 7, .load false 1 (.t 6), none⟩,
     ⟨some 8, .fieldAddr 1 (.t 1), none⟩,
     ⟨some 9, .load false 1 (.t 8), none⟩,
     ⟨some 10, .bin .add (.t 7) (.t 9), none⟩,
     ⟨some 11, .fieldAddr 2 (.t 1), none⟩,
     ⟨some 12, .load false 1 (.t 11), none⟩,
     ⟨some 13, .bin .add (.t 12) (.c (.int .i64 1)), none⟩,
     ⟨some 14, .bin .mul (.c (.int .i64 12)) (.t 13), none⟩,
     ⟨some 15, .bin .add (.t 10) (.t 14), none⟩,
     ⟨some 2, .mv (.t 15), none⟩]) (
   .ret))))⟩

def a18 : AFunc := ⟨[.tmp 4, .tmp 5],
 (.seq (
  .region [] [
    ⟨some 3, .box 1 (.t 1), none⟩,
    ⟨some 4, .mv (.c (.int .i64 0)), none⟩,
    ⟨some 5, .mv (.c (.int .i64 0)), none⟩]) (
  (.seq (
   (.seq (
    .region [] [
      ⟨some 7, .mv (.t 0), none⟩,
      ⟨some 8, .call 0 (.c (.fn 22 [])) [(.t 7)], none⟩,
      ⟨some 6, .mv (.t 8), none⟩]) (
    (.seq (
     .region [] [
       ⟨some 9, .mv (.t 6), none⟩,
       ⟨some 10, .bin .neq (.t 9) (.c (.int .i64 0)), none⟩]) (
     (.cond (.t 10) (
      (.seq (
       .region [] [
         ⟨some 11, .mv (.t 6), none⟩,
         ⟨some 4, .mv (.c (.int .i64 0)), none⟩,
         ⟨some 5, .mv (.t 11), none⟩]) (
       .ret))) (
      .skip))))))) (
   (.seq (
    (.seq (
     .region [] [
       ⟨some 12, .fieldAddr 0 (.t 3), none⟩,
       ⟨some 13, .load false 1 (.t 12), none⟩,
       ⟨some 14, .bin .lss (.t 13) (.c (.int .i64 (-77))), none⟩,
       ⟨some 15, .mv (.t 14), none⟩,
       ⟨some 16, .fieldAddr 0 (.t 3), some (15, false)⟩,
       ⟨some 17, .load false 1 (.t 16), some (15, false)⟩,
       ⟨some 18, .bin .gtr (.t 17) (.c (.int .i64 77)), some (15, false)⟩,
       ⟨some 19, .pick (.t 15) (.c (.bool true)) (.t 18), none⟩,
       ⟨some 20, .mv (.t 19), none⟩,
       ⟨some 21, .fieldAddr 1 (.t 3), some (20, false)⟩,
       ⟨some 22, .load false 1 (.t 21), some (20, false)⟩,
       ⟨some 23, .bin .lss (.t 22) (.c (.int .i64 (-140))), some (20, false)⟩,
       ⟨some 24, .pick (.t 20) (.c (.bool true)) (.t 23), none⟩,
       ⟨some 25, .mv (.t 24), none⟩,
       ⟨some 26, .fieldAddr 1 (.t 3), some (25, false)⟩,
       ⟨some 27, .load false 1 (.t 26), some (25, false)⟩,
       ⟨some 28, .bin .gtr (.t 27) (.c (.int .i64 140)), some (25, false)⟩,
       ⟨some 29, .pick (.t 25) (.c (.bool true)) (.t 28), none⟩]) (
     (.cond (.t 29) (
      (.seq (
       .region [] [
         ⟨some 4, .mv (.c (.int .i64 0)), none⟩,
         ⟨some 5, .mv (.c (.int .i64 2)), none⟩]) (
       .ret))) (
      .skip))))) (
    (.seq (
     .region [] [
       ⟨some 30, .mv (.t 0), none⟩,
       ⟨some 31, .fieldAddr 1 (.t 3), none⟩,
       ⟨some 32, .load false 1 (.t 31), none⟩,
       ⟨some 33, .bin .mul (.c (.int .i64 7)) (.t 32), none⟩,
       ⟨some 34, .fieldAddr 0 (.t 3), none⟩,
       ⟨some 35, .load false 1 (.t 34), none⟩,
       ⟨some 36, .bin .mul (.c (.int .i64 12)) (.t 35), none⟩,
       ⟨some 37, .bin .sub (.t 33) (.t 36), none⟩,
       ⟨some 38, .bin .add (.t 30) (.t 37), none⟩,
       ⟨some 0, .mv (.t 38), none⟩]) (
     (.seq (
      (.block 0 (
       (.loop (
        (.seq (
         (.seq (
          .region [] [
            ⟨some 39, .mv (.t 0), none⟩,
            ⟨some 40, .bin .gtr (.t 39) (.c (.int .i64 7)), none⟩]) (
          (.cond (.t 40) (
           .skip) (
           .exit 0))))) (
         (.block 1 (
          .region [] [
            ⟨some 41, .mv (.t 0), none⟩,
            ⟨some 42, .bin .sub (.t 41) (.c (.int .i64 12)), none⟩,
            ⟨some 0, .mv (.t 42), none⟩]))))))))) (
      (.seq (
       (.block 2 (
        (.loop (
         (.seq (
          (.seq (
           .region [] [
             ⟨some 43, .mv (.t 0), none⟩,
             ⟨some 44, .bin .lss (.t 43) (.c (.int .i64 (-7))), none⟩]) (
           (.cond (.t 44) (
            .skip) (
            .exit 2))))) (
          (.block 3 (
           .region [] [
             ⟨some 45, .mv (.t 0), none⟩,
             ⟨some 46, .bin .add (.t 45) (.c (.int .i64 12)), none⟩,
             ⟨some 0, .mv (.t 46), none⟩]))))))))) (
       (.seq (
        .region [] [
          ⟨some 47, .mv (.t 0), none⟩,
          ⟨some 4, .mv (.t 47), none⟩,
          ⟨some 5, .mv (.c (.int .i64 0)), none⟩]) (
        .ret))))))))))))))⟩

def a19 : AFunc := ⟨[.tmp 6, .tmp 7],
 (.seq (
  .region [] [
    ⟨some 6, .mv (.c (.int .i64 0)), none⟩,
    ⟨some 7, .mv (.c (.int .i64 0)), none⟩]) (
  (.seq (
   (.seq (
    .region [] [
      ⟨some 9, .mv (.t 1), none⟩,
      ⟨some 10, .bin .lss (.t 9) (.c (.int .i64 (-77))), none⟩,
      ⟨some 11, .mv (.t 10), none⟩,
      ⟨some 12, .mv (.t 1), some (11, false)⟩,
      ⟨some 13, .bin .gtr (.t 12) (.c (.int .i64 77)), some (11, false)⟩,
      ⟨some 14, .pick (.t 11) (.c (.bool true)) (.t 13), none⟩,
      ⟨some 15, .mv (.t 14), none⟩,
      ⟨some 16, .mv (.t 2), some (15, false)⟩,
      ⟨some 17, .bin .lss (.t 16) (.c (.int .i64 (-140))), some (15, false)⟩,
      ⟨some 18, .pick (.t 15) (.c (.bool true)) (.t 17), none⟩,
      ⟨some 19, .mv (.t 18), none⟩,
      ⟨some 20, .mv (.t 2), some (19, false)⟩,
      ⟨some 21, .bin .gtr (.t 20) (.c (.int .i64 140)), some (19, false)⟩,
      ⟨some 22, .pick (.t 19) (.c (.bool true)) (.t 21), none⟩]) (
    (.cond (.t 22) (
     (.seq (
      .region [] [
        ⟨some 6, .mv (.c (.int .i64 0)), none⟩,
        ⟨some 7, .mv (.c (.int .i64 2)), none⟩]) (
      .ret))) (
     .skip))))) (
   (.seq (
    .region [] [
      ⟨some 23, .mv (.t 0), none⟩,
      ⟨some 24, .mv (.t 2), none⟩,
      ⟨some 25, .bin .mul (.c (.int .i64 7)) (.t 24), none⟩,
      ⟨some 26, .bin .add (.t 23) (.t 25), none⟩,
      ⟨some 27, .mv (.t 1), none⟩,
      ⟨some 28, .bin .mul (.c (.int .i64 12)) (.t 27), none⟩,
      ⟨some 29, .bin .sub (.t 26) (.t 28), none⟩,
      ⟨some 8, .mv (.t 29), none⟩]) (
    (.seq (
     (.block 0 (
      (.loop (
       (.seq (
        (.seq (
         .region [] [
           ⟨some 30, .mv (.t 8), none⟩,
           ⟨some 31, .bin .gtr (.t 30) (.c (.int .i64 7)), none⟩]) (
         (.cond (.t 31) (
          .skip) (
          .exit 0))))) (
        (.block 1 (
         .region [] [
           ⟨some 32, .mv (.t 8), none⟩,
           ⟨some 33, .bin .sub (.t 32) (.c (.int .i64 12)), none⟩,
           ⟨some 8, .mv (.t 33), none⟩]))))))))) (
     (.seq (
      (.block 2 (
       (.loop (
        (.seq (
         (.seq (
          .region [] [
            ⟨some 34, .mv (.t 8), none⟩,
            ⟨some 35, .bin .lss (.t 34) (.c (.int .i64 (-7))), none⟩]) (
          (.cond (.t 35) (
           .skip) (
           .exit 2))))) (
         (.block 3 (
          .region [] [
            ⟨some 36, .mv (.t 8), none⟩,
            ⟨some 37, .bin .add (.t 36) (.c (.int .i64 12)), none⟩,
            ⟨some 8, .mv (.t 37), none⟩]))))))))) (
      (.seq (
       .region [] [
         ⟨some 38, .mv (.t 8), none⟩,
         ⟨some 6, .mv (.t 38), none⟩,
         ⟨some 7, .mv (.c (.int .i64 0)), none⟩]) (
       .ret))))))))))))⟩

def a20 : AFunc := ⟨[.tmp 4, .tmp 5],
 (.seq (
  .region [] [
    ⟨some 4, .mv (.c (.int .i64 0)), none⟩,
    ⟨some 5, .mv (.c (.int .i64 0)), none⟩]) (
  (.seq (
   (.seq (
    .region [] [
      ⟨some 7, .mv (.t 0), none⟩,
      ⟨some 8, .call 0 (.c (.fn 22 [])) [(.t 7)], none⟩,
      ⟨some 6, .mv (.t 8), none⟩]) (
    (.seq (
     .region [] [
       ⟨some 9, .mv (.t 6), none⟩,
       ⟨some 10, .bin .neq (.t 9) (.c (.int .i64 0)), none⟩]) (
     (.cond (.t 10) (
      (.seq (
       .region [] [
         ⟨some 11, .mv (.t 6), none⟩,
         ⟨some 4, .mv (.c (.int .i64 0)), none⟩,
         ⟨some 5, .mv (.t 11), none⟩]) (
       .ret))) (
      .skip))))))) (
   (.seq (
    (.seq (
     .region [] [
       ⟨some 12, .mv (.t 1), none⟩,
       ⟨some 13, .call 0 (.c (.fn 38 [])) [(.t 12)], none⟩,
       ⟨some 14, .not (.t 13), none⟩]) (
     (.cond (.t 14) (
      (.seq (
       .region [] [
         ⟨some 4, .mv (.c (.int .i64 0)), none⟩,
         ⟨some 5, .mv (.c (.int .i64 18)), none⟩]) (
       .ret))) (
      .skip))))) (
    (.seq (
     .region [] [
       ⟨some 15, .mv (.t 0), none⟩,
       ⟨some 16, .mv (.t 1), none⟩,
       ⟨some 17, .call 0 (.c (.fn 37 [])) [(.t 15), (.t 16)], none⟩,
       ⟨some 4, .mv (.t 17), none⟩,
       ⟨some 5, .mv (.c (.int .i64 0)), none⟩]) (
     .ret))))))))⟩

def a21 : AFunc := ⟨[.tmp 2, .tmp 3],
 (.seq (
  .region [] [
    ⟨some 2, .mv (.c .nilsl), none⟩,
    ⟨some 3, .mv (.c (.int .i64 0)), none⟩]) (
  (.seq (
   (.seq (
    .region [] [
      ⟨some 8, .mv (.t 0), none⟩,
      ⟨some 9, .call 0 (.c (.fn 22 [])) [(.t 8)], none⟩,
      ⟨some 4, .mv (.t 9), none⟩]) (
    (.seq (
     .region [] [
       ⟨some 10, .mv (.t 4), none⟩,
       ⟨some 11, .bin .neq (.t 10) (.c (.int .i64 0)), none⟩]) (
     (.cond (.t 11) (
      (.seq (
       .region [] [
         ⟨some 12, .mv (.t 4), none⟩,
         ⟨some 2, .mv (.c .nilsl), none⟩,
         ⟨some 3, .mv (.t 12), none⟩]) (
       .ret))) (
      .skip))))))) (
   (.seq (
    .region [] [
      ⟨some 13, .call 0 (.c (.fn 39 [])) [], none⟩,
      ⟨some 5, .alloc 1 [(.int .i64 0), (.int .i64 0), (.int .i64 0), (.int .i64 0), (.int .i64 0), (.int .i64 0), (.int .i64 0)], none⟩,
      ⟨none, .store 7 (.t 5) (.t 13), none⟩]) (
    (.seq (
     .region [] [
       ⟨some 14, .mks 2 1 [(.int .i64 0)] 8 (.c (.int .i64 0)) (.c (.int .i64 7)), none⟩,
       ⟨some 6, .mv (.t 14), none⟩]) (
     (.seq (
      (.seq (
       .region [] [
         ⟨some 15, .mv (.t 0), none⟩,
         ⟨some 16, .mv (.t 0), none⟩,
         ⟨some 17, .neg (.t 16), none⟩,
         ⟨some 18, .mm true [(.t 15), (.t 17)], none⟩,
         ⟨some 19, .mv (.c (.int .i64 0)), none⟩]) (
       (.block 0 (
        (.loop (
         (.seq (
          .region [] [
            ⟨some 20, .bin .lss (.t 19) (.t 18), none⟩]) (
          (.seq (
           (.cond (.t 20) (
            .skip) (
            .exit 0))) (
           (.seq (
            (.block 1 (
             (.seq (
              .region [] [
                ⟨some 21, .mv (.t 19), none⟩,
                ⟨some 7, .mv (.t 21), none⟩]) (
              (.seq (
               .region [] [
                 ⟨some 22, .mv (.t 0), none⟩,
                 ⟨some 23, .bin .gtr (.t 22) (.c (.int .i64 0)), none⟩]) (
               (.cond (.t 23) (
                .region [] [
                  ⟨some 24, .mv (.t 6), none⟩,
                  ⟨some 25, .mv (.t 7), none⟩,
                  ⟨some 26, .arrAddr 7 1 (.t 5) (.t 25), none⟩,
                  ⟨some 27, .load false 1 (.t 26), none⟩,
                  ⟨some 28, .lit 1 [(.int .i64 0)] 1 [(0, 1, (.t 27))], none⟩,
                  ⟨some 29, .app 3 1 8 (.t 24) (.t 28), none⟩,
                  ⟨some 6, .mv (.t 29), none⟩]) (
                .region [] [
                  ⟨some 30, .mv (.t 6), none⟩,
                  ⟨some 31, .mv (.t 7), none⟩,
                  ⟨some 32, .bin .sub (.c (.int .i64 6)) (.t 31), none⟩,
                  ⟨some 33, .arrAddr 7 1 (.t 5) (.t 32), none⟩,
                  ⟨some 34, .load false 1 (.t 33), none⟩,
                  ⟨some 35, .lit 1 [(.int .i64 0)] 1 [(0, 1, (.t 34))], none⟩,
                  ⟨some 36, .app 4 1 8 (.t 30) (.t 35), none⟩,
                  ⟨some 6, .mv (.t 36), none⟩]))))))))) (
            .region [] [
              ⟨some 37, .bin .add (.t 19) (.c (.int .i64 1)), none⟩,
              ⟨some 19, .mv (.t 37), none⟩]))))))))))))) (
      (.seq (
       .region [] [
         ⟨some 38, .mv (.t 6), none⟩,
         ⟨some 2, .mv (.t 38), none⟩,
         ⟨some 3, .mv (.c (.int .i64 0)), none⟩]) (
       .ret))))))))))))⟩

def a22 : AFunc := ⟨[.tmp 2],
 (.seq (
  .region [] [
    ⟨some 2, .mv (.c (.int .i64 0)), none⟩]) (
  (.seq (
   (.seq (
    .region [] [
      ⟨some 3, .mv (.t 0), none⟩,
      ⟨some 4, .bin .lss (.t 3) (.c (.int .i64 (-7))), none⟩,
      ⟨some 5, .mv (.t 4), none⟩,
      ⟨some 6, .mv (.t 0), some (5, false)⟩,
      ⟨some 7, .bin .gtr (.t 6) (.c (.int .i64 7)), some (5, false)⟩,
      ⟨some 8, .pick (.t 5) (.c (.bool true)) (.t 7), none⟩]) (
    (.cond (.t 8) (
     (.seq (
      .region [] [
        ⟨some 2, .mv (.c (.int .i64 2)), none⟩]) (
      .ret))) (
     .skip))))) (
   (.seq (
    .region [] [
      ⟨some 2, .mv (.c (.int .i64 0)), none⟩]) (
    .ret))))))⟩

def a23 : AFunc := ⟨[.tmp 4],
 (.seq (
  .region [] [
    ⟨some 4, .mv (.c (.bool false)), none⟩]) (
  (.seq (
   (.seq (
    .region [] [
      ⟨some 6, .mv (.t 0), none⟩,
      ⟨some 7, .len (.t 6), none⟩,
      ⟨some 8, .mv (.t 1), none⟩,
      ⟨some 9, .len (.t 8), none⟩,
      ⟨some 10, .bin .neq (.t 7) (.t 9), none⟩]) (
    (.cond (.t 10) (
     (.seq (
      .region [] [
        ⟨some 4, .mv (.c (.bool false)), none⟩]) (
      .ret))) (
     .skip))))) (
   (.seq (
    (.seq (
     .region [] [
       ⟨some 5, .mv (.c (.int .i64 0)), none⟩]) (
     (.block 0 (
      (.loop (
       (.seq (
        (.seq (
         .region [] [
           ⟨some 11, .mv (.t 5), none⟩,
           ⟨some 12, .mv (.t 0), none⟩,
           ⟨some 13, .len (.t 12), none⟩,
           ⟨some 14, .bin .lss (.t 11) (.t 13), none⟩]) (
         (.cond (.t 14) (
          .skip) (
          .exit 0))))) (
        (.seq (
         (.block 1 (
          (.seq (
           .region [] [
             ⟨some 17, .mv (.t 0), none⟩,
             ⟨some 18, .mv (.t 5), none⟩,
             ⟨some 19, .elemAddr 1 (.t 17) (.t 18), none⟩,
             ⟨some 20, .load false 1 (.t 19), none⟩,
             ⟨some 21, .mv (.t 1), none⟩,
             ⟨some 22, .mv (.t 5), none⟩,
             ⟨some 23, .elemAddr 1 (.t 21) (.t 22), none⟩,
             ⟨some 24, .load false 1 (.t 23), none⟩,
             ⟨some 25, .bin .neq (.t 20) (.t 24), none⟩]) (
           (.cond (.t 25) (
            (.seq (
             .region [] [
               ⟨some 4, .mv (.c (.bool false)), none⟩]) (
             .ret))) (
            .skip))))))) (
         .region [] [
           ⟨some 15, .mv (.t 5), none⟩,
           ⟨some 16, .bin .add (.t 15) (.c (.int .i64 1)), none⟩,
           ⟨some 5, .mv (.t 16), none⟩]))))))))))) (
    (.seq (
     .region [] [
       ⟨some 4, .mv (.c (.bool true)), none⟩]) (
     .ret))))))))⟩

def a24 : AFunc := ⟨[.tmp 2],
 (.seq (
  .region [] [
    ⟨some 2, .mv (.c .nilsl), none⟩]) (
  (.seq (
   .region [] [
     ⟨some 3, .mv (.c .nilsl), none⟩]) (
   (.seq (
    (.seq (
     .region [] [
       ⟨some 4, .mv (.c (.int .i64 0)), none⟩]) (
     (.block 0 (
      (.loop (
       (.seq (
        (.seq (
         .region [] [
           ⟨some 6, .mv (.t 4), none⟩,
           ⟨some 7, .mv (.t 0), none⟩,
           ⟨some 8, .bin .lss (.t 6) (.t 7), none⟩]) (
         (.cond (.t 8) (
          .skip) (
          .exit 0))))) (
        (.seq (
         (.block 1 (
          .region [] [
            ⟨some 11, .mv (.t 3), none⟩,
            ⟨some 12, .call 0 (.c (.fn 40 [])) [], none⟩,
            ⟨some 13, .mv (.t 4), none⟩,
            ⟨some 14, .elemAddr 1 (.t 12) (.t 13), none⟩,
            ⟨some 15, .load false 1 (.t 14), none⟩,
            ⟨some 16, .lit 1 [(.int .i64 0)] 1 [(0, 1, (.t 15))], none⟩,
            ⟨some 17, .app 1 1 8 (.t 11) (.t 16), none⟩,
            ⟨some 3, .mv (.t 17), none⟩]))) (
         .region [] [
           ⟨some 9, .mv (.t 4), none⟩,
           ⟨some 10, .bin .add (.t 9) (.c (.int .i64 1)), none⟩,
           ⟨some 4, .mv (.t 10), none⟩]))))))))))) (
    (.seq (
     (.seq (
      .region [] [
        ⟨some 5, .mv (.c (.int .i64 0)), none⟩]) (
      (.block 2 (
       (.loop (
        (.seq (
         (.seq (
          .region [] [
            ⟨some 18, .mv (.t 5), none⟩,
            ⟨some 19, .mv (.t 0), none⟩,
            ⟨some 20, .neg (.t 19), none⟩,
            ⟨some 21, .bin .lss (.t 18) (.t 20), none⟩]) (
          (.cond (.t 21) (
           .skip) (
           .exit 2))))) (
         (.seq (
          (.block 3 (
           .region [] [
             ⟨some 24, .mv (.t 3), none⟩,
             ⟨some 25, .call 0 (.c (.fn 40 [])) [], none⟩,
             ⟨some 26, .mv (.t 5), none⟩,
             ⟨some 27, .bin .sub (.c (.int .i64 6)) (.t 26), none⟩,
             ⟨some 28, .elemAddr 1 (.t 25) (.t 27), none⟩,
             ⟨some 29, .load false 1 (.t 28), none⟩,
             ⟨some 30, .lit 1 [(.int .i64 0)] 1 [(0, 1, (.t 29))], none⟩,
             ⟨some 31, .app 2 1 8 (.t 24) (.t 30), none⟩,
             ⟨some 3, .mv (.t 31), none⟩]))) (
          .region [] [
            ⟨some 22, .mv (.t 5), none⟩,
            ⟨some 23, .bin .add (.t 22) (.c (.int .i64 1)), none⟩,
            ⟨some 5, .mv (.t 23), none⟩]))))))))))) (
     (.seq (
      .region [] [
        ⟨some 32, .mv (.t 3), none⟩,
        ⟨some 2, .mv (.t 32), none⟩]) (
      .ret))))))))))⟩

def a25 : AFunc := ⟨[.tmp 4],
 (.seq (
  .region [] [
    ⟨some 4, .mv (.c (.int .i64 0)), none⟩]) (
  (.seq (
   .region [] [
     ⟨some 7, .mv (.t 0), none⟩,
     ⟨some 8, .call 0 (.c (.fn 24 [])) [(.t 7)], none⟩,
     ⟨some 5, .mv (.t 8), none⟩]) (
   (.seq (
    (.seq (
     .region [] [
       ⟨some 6, .mv (.c (.int .i64 0)), none⟩]) (
     (.block 0 (
      (.loop (
       (.seq (
        (.seq (
         .region [] [
           ⟨some 9, .mv (.t 6), none⟩,
           ⟨some 10, .mv (.t 5), none⟩,
           ⟨some 11, .len (.t 10), none⟩,
           ⟨some 12, .bin .lss (.t 9) (.t 11), none⟩]) (
         (.cond (.t 12) (
          .skip) (
          .exit 0))))) (
        (.seq (
         (.block 1 (
          (.seq (
           (.seq (
            .region [] [
              ⟨some 15, .mv (.t 5), none⟩,
              ⟨some 16, .mv (.t 6), none⟩,
              ⟨some 17, .elemAddr 1 (.t 15) (.t 16), none⟩,
              ⟨some 18, .load false 1 (.t 17), none⟩,
              ⟨some 19, .mv (.t 1), none⟩,
              ⟨some 20, .bin .eql (.t 18) (.t 19), none⟩,
              ⟨some 21, .mv (.t 20), none⟩,
              ⟨some 22, .mv (.t 0), some (21, true)⟩,
              ⟨some 23, .bin .gtr (.t 22) (.c (.int .i64 0)), some (21, true)⟩,
              ⟨some 24, .pick (.t 21) (.t 23) (.c (.bool false)), none⟩]) (
            (.cond (.t 24) (
             (.seq (
              .region [] [
                ⟨some 4, .mv (.c (.int .i64 1)), none⟩]) (
              .ret))) (
             .skip))))) (
           (.seq (
            .region [] [
              ⟨some 25, .mv (.t 5), none⟩,
              ⟨some 26, .mv (.t 6), none⟩,
              ⟨some 27, .elemAddr 1 (.t 25) (.t 26), none⟩,
              ⟨some 28, .load false 1 (.t 27), none⟩,
              ⟨some 29, .mv (.t 1), none⟩,
              ⟨some 30, .bin .eql (.t 28) (.t 29), none⟩]) (
            (.cond (.t 30) (
             (.seq (
              .region [] [
                ⟨some 4, .mv (.c (.int .i64 (-1))), none⟩]) (
              .ret))) (
             .skip))))))))) (
         .region [] [
           ⟨some 13, .mv (.t 6), none⟩,
           ⟨some 14, .bin .add (.t 13) (.c (.int .i64 1)), none⟩,
           ⟨some 6, .mv (.t 14), none⟩]))))))))))) (
    (.seq (
     .region [] [
       ⟨some 4, .mv (.c (.int .i64 0)), none⟩]) (
     .ret))))))))⟩

def a26 : AFunc := ⟨[.tmp 4, .tmp 5, .tmp 6],
 (.seq (
  .region [] [
    ⟨some 4, .mv (.c (.int .i64 0)), none⟩,
    ⟨some 5, .mv (.c (.int .i64 0)), none⟩,
    ⟨some 6, .mv (.c (.int .i64 0)), none⟩]) (
  (.seq (
   (.seq (
    .region [] [
      ⟨some 8, .mv (.t 0), none⟩,
      ⟨some 9, .call 0 (.c (.fn 22 [])) [(.t 8)], none⟩,
      ⟨some 7, .mv (.t 9), none⟩]) (
    (.seq (
     .region [] [
       ⟨some 10, .mv (.t 7), none⟩,
       ⟨some 11, .bin .neq (.t 10) (.c (.int .i64 0)), none⟩]) (
     (.cond (.t 11) (
      (.seq (
       .region [] [
         ⟨some 12, .mv (.t 7), none⟩,
         ⟨some 4, .mv (.c (.int .i64 0)), none⟩,
         ⟨some 5, .mv (.c (.int .i64 0)), none⟩,
         ⟨some 6, .mv (.t 12), none⟩]) (
       .ret))) (
      .skip))))))) (
   (.seq (
    .region [] [
      ⟨some 14, .mv (.t 0), none⟩,
      ⟨some 15, .mv (.t 1), none⟩,
      ⟨some 16, .call 0 (.c (.fn 42 [])) [(.t 15)], none⟩,
      ⟨some 17, .bin .add (.t 14) (.t 16), none⟩,
      ⟨some 18, .call 0 (.c (.fn 41 [])) [(.t 17)], none⟩,
      ⟨some 13, .mv (.t 18), none⟩,
      ⟨some 19, .ext (.t 13) 0, none⟩,
      ⟨some 20, .ext (.t 13) 1, none⟩,
      ⟨some 4, .mv (.t 19), none⟩,
      ⟨some 5, .mv (.t 20), none⟩]) (
    (.seq (
     .region [] [
       ⟨some 21, .mv (.t 4), none⟩,
       ⟨some 22, .mv (.t 5), none⟩,
       ⟨some 4, .mv (.t 21), none⟩,
       ⟨some 5, .mv (.t 22), none⟩,
       ⟨some 6, .mv (.c (.int .i64 0)), none⟩]) (
     .ret))))))))⟩

def a27 : AFunc := ⟨[.tmp 6, .tmp 7],
 (.seq (
  .region [] [
    ⟨some 6, .mv (.c (.int .i64 0)), none⟩,
    ⟨some 7, .mv (.c (.int .i64 0)), none⟩]) (
  (.seq (
   (.seq (
    .region [] [
      ⟨some 10, .mv (.t 0), none⟩,
      ⟨some 11, .call 0 (.c (.fn 38 [])) [(.t 10)], none⟩,
      ⟨some 12, .not (.t 11), none⟩,
      ⟨some 13, .mv (.t 12), none⟩,
      ⟨some 14, .mv (.t 1), some (13, false)⟩,
      ⟨some 15, .bin .lss (.t 14) (.c (.int .i64 (-2))), some (13, false)⟩,
      ⟨some 16, .pick (.t 13) (.c (.bool true)) (.t 15), none⟩,
      ⟨some 17, .mv (.t 16), none⟩,
      ⟨some 18, .mv (.t 1), some (17, false)⟩,
      ⟨some 19, .bin .gtr (.t 18) (.c (.int .i64 2)), some (17, false)⟩,
      ⟨some 20, .pick (.t 17) (.c (.bool true)) (.t 19), none⟩]) (
    (.cond (.t 20) (
     (.seq (
      .region [] [
        ⟨some 6, .mv (.c (.int .i64 0)), none⟩,
        ⟨some 7, .mv (.c (.int .i64 18)), none⟩]) (
      .ret))) (
     .skip))))) (
   (.seq (
    .region [] [
      ⟨some 21, .mv (.t 0), none⟩,
      ⟨some 22, .call 0 (.c (.fn 43 [])) [(.t 21)], none⟩,
      ⟨some 23, .mv (.t 1), none⟩,
      ⟨some 24, .bin .mul (.c (.int .i64 7)) (.t 23), none⟩,
      ⟨some 25, .bin .add (.t 22) (.t 24), none⟩,
      ⟨some 26, .mv (.t 2), none⟩,
      ⟨some 27, .call 0 (.c (.fn 42 [])) [(.t 26)], none⟩,
      ⟨some 28, .bin .sub (.t 25) (.t 27), none⟩,
      ⟨some 8, .mv (.t 28), none⟩]) (
    (.seq (
     (.seq (
      .region [] [
        ⟨some 29, .mv (.t 8), none⟩,
        ⟨some 30, .call 0 (.c (.fn 22 [])) [(.t 29)], none⟩,
        ⟨some 9, .mv (.t 30), none⟩]) (
      (.seq (
       .region [] [
         ⟨some 31, .mv (.t 9), none⟩,
         ⟨some 32, .bin .neq (.t 31) (.c (.int .i64 0)), none⟩]) (
       (.cond (.t 32) (
        (.seq (
         .region [] [
           ⟨some 33, .mv (.t 9), none⟩,
           ⟨some 6, .mv (.c (.int .i64 0)), none⟩,
           ⟨some 7, .mv (.t 33), none⟩]) (
         .ret))) (
        .skip))))))) (
     (.seq (
      .region [] [
        ⟨some 34, .mv (.t 8), none⟩,
        ⟨some 6, .mv (.t 34), none⟩,
        ⟨some 7, .mv (.c (.int .i64 0)), none⟩]) (
      .ret))))))))))⟩

def a28 : AFunc := ⟨[.tmp 6, .tmp 7],
 (.seq (
  .region [] [
    ⟨some 6, .mv (.c (.int .i64 0)), none⟩,
    ⟨some 7, .mv (.c (.int .i64 0)), none⟩]) (
  (.seq (
   (.seq (
    .region [] [
      ⟨some 11, .mv (.t 0), none⟩,
      ⟨some 12, .bin .lss (.t 11) (.c (.int .i64 0)), none⟩,
      ⟨some 13, .mv (.t 12), none⟩,
      ⟨some 14, .mv (.t 0), some (13, false)⟩,
      ⟨some 15, .bin .gtr (.t 14) (.c (.int .i64 6)), some (13, false)⟩,
      ⟨some 16, .pick (.t 13) (.c (.bool true)) (.t 15), none⟩,
      ⟨some 17, .mv (.t 16), none⟩,
      ⟨some 18, .mv (.t 1), some (17, false)⟩,
      ⟨some 19, .bin .lss (.t 18) (.c (.int .i64 (-2))), some (17, false)⟩,
      ⟨some 20, .pick (.t 17) (.c (.bool true)) (.t 19), none⟩,
      ⟨some 21, .mv (.t 20), none⟩,
      ⟨some 22, .mv (.t 1), some (21, false)⟩,
      ⟨some 23, .bin .gtr (.t 22) (.c (.int .i64 2)), some (21, false)⟩,
      ⟨some 24, .pick (.t 21) (.c (.bool true)) (.t 23), none⟩]) (
    (.cond (.t 24) (
     (.seq (
      .region [] [
        ⟨some 6, .mv (.c (.int .i64 0)), none⟩,
        ⟨some 7, .mv (.c (.int .i64 18)), none⟩]) (
      .ret))) (
     .skip))))) (
   (.seq (
    (.seq (
     .region [] [
       ⟨some 8, .mv (.c (.int .i64 (-7))), none⟩]) (
     (.block 0 (
      (.loop (
       (.seq (
        (.seq (
         .region [] [
           ⟨some 25, .mv (.t 8), none⟩,
           ⟨some 26, .bin .leq (.t 25) (.c (.int .i64 7)), none⟩]) (
         (.cond (.t 26) (
          .skip) (
          .exit 0))))) (
        (.seq (
         (.block 1 (
          (.seq (
           .region [] [
             ⟨some 30, .mv (.t 8), none⟩,
             ⟨some 31, .mv (.t 2), none⟩,
             ⟨some 32, .call 0 (.c (.fn 29 [])) [(.t 30), (.t 31)], none⟩,
             ⟨some 29, .mv (.t 32), none⟩,
             ⟨some 33, .ext (.t 29) 0, none⟩,
             ⟨some 34, .ext (.t 29) 1, none⟩,
             ⟨some 9, .mv (.t 33), none⟩,
             ⟨some 10, .mv (.t 34), none⟩]) (
           (.seq (
            .region [] [
              ⟨some 35, .mv (.t 9), none⟩,
              ⟨some 36, .mv (.t 0), none⟩,
              ⟨some 37, .bin .eql (.t 35) (.t 36), none⟩,
              ⟨some 38, .mv (.t 37), none⟩,
              ⟨some 39, .mv (.t 10), some (38, true)⟩,
              ⟨some 40, .mv (.t 1), some (38, true)⟩,
              ⟨some 41, .bin .eql (.t 39) (.t 40), some (38, true)⟩,
              ⟨some 42, .pick (.t 38) (.t 41) (.c (.bool false)), none⟩]) (
            (.cond (.t 42) (
             (.seq (
              .region [] [
                ⟨some 43, .mv (.t 8), none⟩,
                ⟨some 6, .mv (.t 43), none⟩,
                ⟨some 7, .mv (.c (.int .i64 0)), none⟩]) (
              .ret))) (
             .skip))))))))) (
         .region [] [
           ⟨some 27, .mv (.t 8), none⟩,
           ⟨some 28, .bin .add (.t 27) (.c (.int .i64 1)), none⟩,
           ⟨some 8, .mv (.t 28), none⟩]))))))))))) (
    (.seq (
     .region [] [
       ⟨some 6, .mv (.c (.int .i64 0)), none⟩,
       ⟨some 7, .mv (.c (.int .i64 2)), none⟩]) (
     .ret))))))))⟩

def a29 : AFunc := ⟨[.tmp 4, .tmp 5],
 (.seq (
  .region [] [
    ⟨some 4, .mv (.c (.int .i64 0)), none⟩,
    ⟨some 5, .mv (.c (.int .i64 0)), none⟩]) (
  (.seq (
   (.seq (
    .region [] [
      ⟨some 8, .mv (.t 1), none⟩]) (
    (.cond (.t 8) (
     .region [] [
       ⟨some 9, .mv (.t 0), none⟩,
       ⟨some 10, .bin .add (.t 9) (.c (.int .i64 3)), none⟩,
       ⟨some 0, .mv (.t 10), none⟩]) (
     .skip))))) (
   (.seq (
    (.seq (
     .region [] [
       ⟨some 6, .mv (.c (.int .i64 (-2))), none⟩]) (
     (.block 0 (
      (.loop (
       (.seq (
        (.seq (
         .region [] [
           ⟨some 11, .mv (.t 6), none⟩,
           ⟨some 12, .bin .leq (.t 11) (.c (.int .i64 2)), none⟩]) (
         (.cond (.t 12) (
          .skip) (
          .exit 0))))) (
        (.seq (
         (.block 1 (
          (.seq (
           .region [] [
             ⟨some 7, .mv (.c (.int .i64 0)), none⟩]) (
           (.block 2 (
            (.loop (
             (.seq (
              (.seq (
               .region [] [
                 ⟨some 15, .mv (.t 7), none⟩,
                 ⟨some 16, .bin .lss (.t 15) (.c (.int .i64 7)), none⟩]) (
               (.cond (.t 16) (
                .skip) (
                .exit 2))))) (
              (.seq (
               (.block 3 (
                (.seq (
                 .region [] [
                   ⟨some 19, .mv (.t 7), none⟩,
                   ⟨some 20, .mv (.t 6), none⟩,
                   ⟨some 21, .call 0 (.c (.fn 44 [])) [(.t 19), (.t 20)], none⟩,
                   ⟨some 22, .mv (.t 0), none⟩,
                   ⟨some 23, .bin .eql (.t 21) (.t 22), none⟩]) (
                 (.cond (.t 23) (
                  (.seq (
                   .region [] [
                     ⟨some 24, .mv (.t 7), none⟩,
                     ⟨some 25, .mv (.t 6), none⟩,
                     ⟨some 4, .mv (.t 24), none⟩,
                     ⟨some 5, .mv (.t 25), none⟩]) (
                   .ret))) (
                  .skip))))))) (
               .region [] [
                 ⟨some 17, .mv (.t 7), none⟩,
                 ⟨some 18, .bin .add (.t 17) (.c (.int .i64 1)), none⟩,
                 ⟨some 7, .mv (.t 18), none⟩]))))))))))))) (
         .region [] [
           ⟨some 13, .mv (.t 6), none⟩,
           ⟨some 14, .bin .add (.t 13) (.c (.int .i64 1)), none⟩,
           ⟨some 6, .mv (.t 14), none⟩]))))))))))) (
    (.seq (
     .region [] [
       ⟨some 4, .mv (.c (.int .i64 0)), none⟩,
       ⟨some 5, .mv (.c (.int .i64 0)), none⟩]) (
     .ret))))))))⟩

def a30 : AFunc := ⟨[.tmp 4, .tmp 5],
 (.seq (
  .region [] [
    ⟨some 4, .mv (.c .nilsl), none⟩,
    ⟨some 5, .mv (.c (.int .i64 0)), none⟩]) (
  (.seq (
   .region [] [
     ⟨some 12, .mv (.t 0), none⟩,
     ⟨some 13, .call 0 (.c (.fn 21 [])) [(.t 12)], none⟩,
     ⟨some 11, .mv (.t 13), none⟩,
     ⟨some 14, .ext (.t 11) 0, none⟩,
     ⟨some 15, .ext (.t 11) 1, none⟩,
     ⟨some 6, .mv (.t 14), none⟩,
     ⟨some 7, .mv (.t 15), none⟩]) (
   (.seq (
    (.seq (
     .region [] [
       ⟨some 16, .mv (.t 7), none⟩,
       ⟨some 17, .bin .eql (.t 16) (.c (.int .i64 0)), none⟩]) (
     (.cond (.t 17) (
      .region [] [
        ⟨some 18, .mv (.t 1), none⟩,
        ⟨some 19, .call 0 (.c (.fn 22 [])) [(.t 18)], none⟩,
        ⟨some 7, .mv (.t 19), none⟩]) (
      .skip))))) (
    (.seq (
     (.seq (
      .region [] [
        ⟨some 20, .mv (.t 7), none⟩,
        ⟨some 21, .bin .neq (.t 20) (.c (.int .i64 0)), none⟩]) (
      (.cond (.t 21) (
       (.seq (
        .region [] [
          ⟨some 22, .mv (.t 7), none⟩,
          ⟨some 4, .mv (.c .nilsl), none⟩,
          ⟨some 5, .mv (.t 22), none⟩]) (
        .ret))) (
       .skip))))) (
     (.seq (
      .region [] [
        ⟨some 8, .mv (.c .nilsl), none⟩]) (
      (.seq (
       (.seq (
        .region [] [
          ⟨some 23, .mv (.t 6), none⟩,
          ⟨some 24, .len (.t 23), none⟩,
          ⟨some 25, .mv (.c (.int .i64 0)), none⟩]) (
        (.block 0 (
         (.loop (
          (.seq (
           .region [] [
             ⟨some 26, .bin .lss (.t 25) (.t 24), none⟩]) (
           (.seq (
            (.cond (.t 26) (
             .skip) (
             .exit 0))) (
            (.seq (
             (.block 1 (
              (.seq (
               .region [] [
                 ⟨some 27, .elemAddr 1 (.t 23) (.t 25), none⟩,
                 ⟨some 28, .load false 1 (.t 27), none⟩,
                 ⟨some 10, .mv (.t 28), none⟩]) (
               (.seq (
                .region [] [
                  ⟨some 29, .mv (.t 1), none⟩,
                  ⟨some 30, .mv (.t 10), none⟩,
                  ⟨some 31, .call 0 (.c (.fn 37 [])) [(.t 29), (.t 30)], none⟩,
                  ⟨some 32, .bin .eql (.t 31) (.c (.int .i64 0)), none⟩]) (
                (.cond (.t 32) (
                 .region [] [
                   ⟨some 33, .mv (.t 8), none⟩,
                   ⟨some 34, .mv (.t 10), none⟩,
                   ⟨some 35, .lit 1 [(.int .i64 0)] 1 [(0, 1, (.t 34))], none⟩,
                   ⟨some 36, .app 1 1 8 (.t 33) (.t 35), none⟩,
                   ⟨some 8, .mv (.t 36), none⟩]) (
                 .skip))))))))) (
             .region [] [
               ⟨some 37, .bin .add (.t 25) (.c (.int .i64 1)), none⟩,
               ⟨some 25, .mv (.t 37), none⟩]))))))))))))) (
       (.seq (
        .region [] [
          ⟨some 38, .mv (.t 8), none⟩,
          ⟨some 4, .mv (.t 38), none⟩,
          ⟨some 5, .mv (.c (.int .i64 0)), none⟩]) (
        .ret))))))))))))))⟩

def a31 : AFunc := ⟨[.tmp 4],
 (.seq (
  .region [] [
    ⟨some 4, .mv (.c .nilsl), none⟩]) (
  (.seq (
   .region [] [
     ⟨some 5, .mv (.c .nilsl), none⟩]) (
   (.seq (
    .region [] [
      ⟨some 8, .mv (.t 0), none⟩,
      ⟨some 9, .call 0 (.c (.fn 24 [])) [(.t 8)], none⟩,
      ⟨some 6, .mv (.t 9), none⟩]) (
    (.seq (
     (.seq (
      .region [] [
        ⟨some 7, .mv (.c (.int .i64 0)), none⟩]) (
      (.block 0 (
       (.loop (
        (.seq (
         (.seq (
          .region [] [
            ⟨some 10, .mv (.t 7), none⟩,
            ⟨some 11, .mv (.t 6), none⟩,
            ⟨some 12, .len (.t 11), none⟩,
            ⟨some 13, .bin .lss (.t 10) (.t 12), none⟩]) (
          (.cond (.t 13) (
           .skip) (
           .exit 0))))) (
         (.seq (
          (.block 1 (
           (.seq (
            .region [] [
              ⟨some 16, .mv (.t 1), none⟩,
              ⟨some 17, .mv (.t 6), none⟩,
              ⟨some 18, .mv (.t 7), none⟩,
              ⟨some 19, .elemAddr 1 (.t 17) (.t 18), none⟩,
              ⟨some 20, .load false 1 (.t 19), none⟩,
              ⟨some 21, .call 0 (.c (.fn 25 [])) [(.t 16), (.t 20)], none⟩,
              ⟨some 22, .bin .eql (.t 21) (.c (.int .i64 0)), none⟩]) (
            (.cond (.t 22) (
             .region [] [
               ⟨some 23, .mv (.t 5), none⟩,
               ⟨some 24, .mv (.t 6), none⟩,
               ⟨some 25, .mv (.t 7), none⟩,
               ⟨some 26, .elemAddr 1 (.t 24) (.t 25), none⟩,
               ⟨some 27, .load false 1 (.t 26), none⟩,
               ⟨some 28, .lit 1 [(.int .i64 0)] 1 [(0, 1, (.t 27))], none⟩,
               ⟨some 29, .app 1 1 8 (.t 23) (.t 28), none⟩,
               ⟨some 5, .mv (.t 29), none⟩]) (
             .skip))))))) (
          .region [] [
            ⟨some 14, .mv (.t 7), none⟩,
            ⟨some 15, .bin .add (.t 14) (.c (.int .i64 1)), none⟩,
            ⟨some 7, .mv (.t 15), none⟩]))))))))))) (
     (.seq (
      .region [] [
        ⟨some 30, .mv (.t 5), none⟩,
        ⟨some 4, .mv (.t 30), none⟩]) (
      .ret))))))))))⟩

def a32 : AFunc := ⟨[.tmp 4, .tmp 5, .tmp 6],
 (.seq (
  .region [] [
    ⟨some 3, .box 1 (.t 1), none⟩,
    ⟨some 4, .mv (.c (.int .i64 0)), none⟩,
    ⟨some 5, .mv (.c (.int .i64 0)), none⟩,
    ⟨some 6, .mv (.c (.int .i64 0)), none⟩]) (
  (.seq (
   .region [] [
     ⟨some 10, .mv (.t 0), none⟩,
     ⟨some 11, .call 0 (.c (.fn 26 [])) [(.t 10), (.c (.bool false))], none⟩,
     ⟨some 9, .mv (.t 11), none⟩,
     ⟨some 12, .ext (.t 9) 0, none⟩,
     ⟨some 13, .ext (.t 9) 1, none⟩,
     ⟨some 14, .ext (.t 9) 2, none⟩,
     ⟨some 7, .mv (.t 12), none⟩,
     ⟨some 8, .mv (.t 13), none⟩,
     ⟨some 6, .mv (.t 14), none⟩]) (
   (.seq (
    (.seq (
     .region [] [
       ⟨some 15, .mv (.t 6), none⟩,
       ⟨some 16, .bin .neq (.t 15) (.c (.int .i64 0)), none⟩]) (
     (.cond (.t 16) (
      (.seq (
       .region [] [
         ⟨some 17, .mv (.t 6), none⟩,
         ⟨some 4, .mv (.c (.int .i64 0)), none⟩,
         ⟨some 5, .mv (.c (.int .i64 0)), none⟩,
         ⟨some 6, .mv (.t 17), none⟩]) (
       .ret))) (
      .skip))))) (
    (.seq (
     (.seq (
      .region [] [
        ⟨some 18, .fieldAddr 0 (.t 3), none⟩,
        ⟨some 19, .load false 1 (.t 18), none⟩,
        ⟨some 20, .call 0 (.c (.fn 38 [])) [(.t 19)], none⟩,
        ⟨some 21, .not (.t 20), none⟩,
        ⟨some 22, .mv (.t 21), none⟩,
        ⟨some 23, .fieldAddr 1 (.t 3), some (22, false)⟩,
        ⟨some 24, .load false 1 (.t 23), some (22, false)⟩,
        ⟨some 25, .bin .lss (.t 24) (.c (.int .i64 (-2))), some (22, false)⟩,
        ⟨some 26, .pick (.t 22) (.c (.bool true)) (.t 25), none⟩,
        ⟨some 27, .mv (.t 26), none⟩,
        ⟨some 28, .fieldAddr 1 (.t 3), some (27, false)⟩,
        ⟨some 29, .load false 1 (.t 28), some (27, false)⟩,
        ⟨some 30, .bin .gtr (.t 29) (.c (.int .i64 2)), some (27, false)⟩,
        ⟨some 31, .pick (.t 27) (.c (.bool true)) (.t 30), none⟩]) (
      (.cond (.t 31) (
       (.seq (
        .region [] [
          ⟨some 4, .mv (.c (.int .i64 0)), none⟩,
          ⟨some 5, .mv (.c (.int .i64 0)), none⟩,
          ⟨some 6, .mv (.c (.int .i64 18)), none⟩]) (
        .ret))) (
       .skip))))) (
     (.seq (
      .region [] [
        ⟨some 32, .fieldAddr 0 (.t 3), none⟩,
        ⟨some 33, .load false 1 (.t 32), none⟩,
        ⟨some 34, .mv (.t 7), none⟩,
        ⟨some 35, .bin .sub (.t 33) (.t 34), none⟩,
        ⟨some 36, .bin .add (.t 35) (.c (.int .i64 7)), none⟩,
        ⟨some 37, .bin .rem (.t 36) (.c (.int .i64 7)), none⟩,
        ⟨some 38, .fieldAddr 1 (.t 3), none⟩,
        ⟨some 39, .load false 1 (.t 38), none⟩,
        ⟨some 40, .mv (.t 0), none⟩,
        ⟨some 41, .fieldAddr 0 (.t 3), none⟩,
        ⟨some 42, .load false 1 (.t 41), none⟩,
        ⟨some 43, .call 0 (.c (.fn 37 [])) [(.t 40), (.t 42)], none⟩,
        ⟨some 44, .bin .sub (.t 39) (.t 43), none⟩,
        ⟨some 4, .mv (.t 37), none⟩,
        ⟨some 5, .mv (.t 44), none⟩,
        ⟨some 6, .mv (.c (.int .i64 0)), none⟩]) (
      .ret))))))))))⟩

def a33 : AFunc := ⟨[.tmp 4],
 (.seq (
  .region [] [
    ⟨some 3, .box 1 (.t 1), none⟩,
    ⟨some 4, .mv (.c (.bool false)), none⟩]) (
  (.seq (
   .region [] [
     ⟨some 8, .mv (.t 0), none⟩,
     ⟨some 9, .fieldAddr 0 (.t 3), none⟩,
     ⟨some 10, .load false 1 (.t 9), none⟩,
     ⟨some 11, .call 0 (.c (.fn 20 [])) [(.t 8), (.t 10)], none⟩,
     ⟨some 7, .mv (.t 11), none⟩,
     ⟨some 12, .ext (.t 7) 0, none⟩,
     ⟨some 13, .ext (.t 7) 1, none⟩,
     ⟨some 5, .mv (.t 12), none⟩,
     ⟨some 6, .mv (.t 13), none⟩]) (
   (.seq (
    .region [] [
      ⟨some 14, .mv (.t 6), none⟩,
      ⟨some 15, .bin .eql (.t 14) (.c (.int .i64 0)), none⟩,
      ⟨some 16, .mv (.t 15), none⟩,
      ⟨some 17, .mv (.t 5), some (16, true)⟩,
      ⟨some 18, .fieldAddr 1 (.t 3), some (16, true)⟩,
      ⟨some 19, .load false 1 (.t 18), some (16, true)⟩,
      ⟨some 20, .bin .eql (.t 17) (.t 19), some (16, true)⟩,
      ⟨some 21, .pick (.t 16) (.t 20) (.c (.bool false)), none⟩,
      ⟨some 4, .mv (.t 21), none⟩]) (
    .ret))))))⟩

def a34 : AFunc := ⟨[.tmp 4, .tmp 5],
 (.seq (
  .region [] [
    ⟨some 4, .mv (.c (.str ⟨#[]⟩)), none⟩,
    ⟨some 5, .mv (.c (.int .i64 0)), none⟩]) (
  (.seq (
   .region [] [
     ⟨some 11, .mv (.t 0), none⟩,
     ⟨some 12, .mv (.t 1), none⟩,
     ⟨some 13, .call 0 (.c (.fn 26 [])) [(.t 11), (.t 12)], none⟩,
     ⟨some 10, .mv (.t 13), none⟩,
     ⟨some 14, .ext (.t 10) 0, none⟩,
     ⟨some 15, .ext (.t 10) 1, none⟩,
     ⟨some 16, .ext (.t 10) 2, none⟩,
     ⟨some 6, .mv (.t 14), none⟩,
     ⟨some 7, .mv (.t 15), none⟩,
     ⟨some 8, .mv (.t 16), none⟩]) (
   (.seq (
    (.seq (
     .region [] [
       ⟨some 17, .mv (.t 8), none⟩,
       ⟨some 18, .bin .neq (.t 17) (.c (.int .i64 0)), none⟩]) (
     (.cond (.t 18) (
      (.seq (
       .region [] [
         ⟨some 19, .mv (.t 8), none⟩,
         ⟨some 4, .mv (.c (.str ⟨#[]⟩)), none⟩,
         ⟨some 5, .mv (.t 19), none⟩]) (
       .ret))) (
      .skip))))) (
    (.seq (
     .region [] [
       ⟨some 20, .mv (.t 6), none⟩,
       ⟨some 21, .mv (.t 6), none⟩,
       ⟨some 22, .bin .add (.t 21) (.c (.int .i64 1)), none⟩,
       ⟨some 23, .strSub (.c (.str ⟨#[67, 68, 69, 70, 71, 65, 66]⟩)) (some (.t 20)) (some (.t 22)), none⟩,
       ⟨some 9, .mv (.t 23), none⟩]) (
     (.seq (
      (.seq (
       .region [] [
         ⟨some 24, .mv (.t 7), none⟩]) (
       (.block 0 (
        (.seq (
         .region [] [
           ⟨some 26, .bin .eql (.t 24) (.c (.int .i64 1)), none⟩,
           ⟨some 25, .mv (.t 26), none⟩]) (
         (.cond (.t 25) (
          .region [] [
            ⟨some 27, .mv (.t 9), none⟩,
            ⟨some 28, .bin .add (.t 27) (.c (.str ⟨#[35]⟩)), none⟩,
            ⟨some 9, .mv (.t 28), none⟩]) (
          (.seq (
           .region [] [
             ⟨some 30, .bin .eql (.t 24) (.c (.int .i64 (-1))), none⟩,
             ⟨some 29, .mv (.t 30), none⟩]) (
           (.cond (.t 29) (
            .region [] [
              ⟨some 31, .mv (.t 9), none⟩,
              ⟨some 32, .bin .add (.t 31) (.c (.str ⟨#[98]⟩)), none⟩,
              ⟨some 9, .mv (.t 32), none⟩]) (
            .skip))))))))))))) (
      (.seq (
       (.seq (
        .region [] [
          ⟨some 33, .mv (.t 1), none⟩]) (
        (.cond (.t 33) (
         (.seq (
          .region [] [
            ⟨some 34, .mv (.t 9), none⟩,
            ⟨some 35, .bin .add (.t 34) (.c (.str ⟨#[32, 109, 105, 110, 111, 114]⟩)), none⟩,
            ⟨some 4, .mv (.t 35), none⟩,
            ⟨some 5, .mv (.c (.int .i64 0)), none⟩]) (
          .ret))) (
         .skip))))) (
       (.seq (
        .region [] [
          ⟨some 36, .mv (.t 9), none⟩,
          ⟨some 37, .bin .add (.t 36) (.c (.str ⟨#[32, 109, 97, 106, 111, 114]⟩)), none⟩,
          ⟨some 4, .mv (.t 37), none⟩,
          ⟨some 5, .mv (.c (.int .i64 0)), none⟩]) (
        .ret))))))))))))))⟩

def a35 : AFunc := ⟨[.tmp 2, .tmp 3, .tmp 4],
 (.seq (
  .region [] [
    ⟨some 2, .mv (.c (.int .i64 0)), none⟩,
    ⟨some 3, .mv (.c (.bool false)), none⟩,
    ⟨some 4, .mv (.c (.int .i64 0)), none⟩]) (
  (.seq (
   (.seq (
    .region [] [
      ⟨some 10, .mv (.t 0), none⟩,
      ⟨some 11, .bin .eql (.t 10) (.c (.str ⟨#[]⟩)), none⟩]) (
    (.cond (.t 11) (
     (.seq (
      .region [] [
        ⟨some 2, .mv (.c (.int .i64 0)), none⟩,
        ⟨some 3, .mv (.c (.bool false)), none⟩,
        ⟨some 4, .mv (.c (.int .i64 12)), none⟩]) (
      .ret))) (
     .skip))))) (
   (.seq (
    .region [] [
      ⟨some 12, .mkmap 1, none⟩,
      ⟨none, .mins .int (.t 12) (.c (.int .u8 67)) (.c (.int .i64 0)), none⟩,
      ⟨none, .mins .int (.t 12) (.c (.int .u8 68)) (.c (.int .i64 1)), none⟩,
      ⟨none, .mins .int (.t 12) (.c (.int .u8 69)) (.c (.int .i64 2)), none⟩,
      ⟨none, .mins .int (.t 12) (.c (.int .u8 70)) (.c (.int .i64 3)), none⟩,
      ⟨none, .mins .int (.t 12) (.c (.int .u8 71)) (.c (.int .i64 4)), none⟩,
      ⟨none, .mins .int (.t 12) (.c (.int .u8 65)) (.c (.int .i64 5)), none⟩,
      ⟨none, .mins .int (.t 12) (.c (.int .u8 66)) (.c (.int .i64 6)), none⟩,
      ⟨some 13, .mv (.t 12), none⟩,
      ⟨some 5, .mv (.t 13), none⟩]) (
    (.seq (
     .region [] [
       ⟨some 15, .mv (.t 5), none⟩,
       ⟨some 16, .mv (.t 0), none⟩,
       ⟨some 17, .strIdx (.t 16) (.c (.int .i64 0)), none⟩,
       ⟨some 18, .mget .int true (.int .i64 0) (.t 15) (.t 17), none⟩,
       ⟨some 14, .mv (.t 18), none⟩,
       ⟨some 19, .ext (.t 14) 0, none⟩,
       ⟨some 20, .ext (.t 14) 1, none⟩,
       ⟨some 6, .mv (.t 19), none⟩,
       ⟨some 7, .mv (.t 20), none⟩]) (
     (.seq (
      .region [] [
        ⟨some 21, .mv (.t 0), none⟩,
        ⟨some 22, .strSub (.t 21) (some (.c (.int .i64 1))) none, none⟩,
        ⟨some 8, .mv (.t 22), none⟩,
        ⟨some 9, .mv (.c (.int .i64 0)), none⟩]) (
      (.seq (
       (.block 0 (
        (.seq (
         .region [] [
           ⟨some 24, .mv (.t 8), none⟩,
           ⟨some 25, .call 0 (.c (.fn 45 [])) [(.t 24), (.c (.str ⟨#[35]⟩))], none⟩,
           ⟨some 23, .mv (.t 25), none⟩]) (
         (.cond (.t 23) (
          .region [] [
            ⟨some 26, .mv (.t 8), none⟩,
            ⟨some 27, .strSub (.t 26) (some (.c (.int .i64 1))) none, none⟩,
            ⟨some 8, .mv (.t 27), none⟩,
            ⟨some 9, .mv (.c (.int .i64 1)), none⟩]) (
          (.seq (
           .region [] [
             ⟨some 29, .mv (.t 8), none⟩,
             ⟨some 30, .call 0 (.c (.fn 45 [])) [(.t 29), (.c (.str ⟨#[98]⟩))], none⟩,
             ⟨some 28, .mv (.t 30), none⟩]) (
           (.cond (.t 28) (
            .region [] [
              ⟨some 31, .mv (.t 8), none⟩,
              ⟨some 32, .strSub (.t 31) (some (.c (.int .i64 1))) none, none⟩,
              ⟨some 8, .mv (.t 32), none⟩,
              ⟨some 9, .mv (.c (.int .i64 (-1))), none⟩]) (
            .skip))))))))))) (
       (.seq (
        .region [] [
          ⟨some 33, .mv (.t 8), none⟩,
          ⟨some 34, .bin .eql (.t 33) (.c (.str ⟨#[32, 109, 105, 110, 111, 114]⟩)), none⟩,
          ⟨some 3, .mv (.t 34), none⟩]) (
        (.seq (
         (.seq (
          .region [] [
            ⟨some 36, .mv (.t 6), none⟩,
            ⟨some 37, .mv (.t 9), none⟩,
            ⟨some 38, .mv (.t 3), none⟩,
            ⟨some 39, .call 0 (.c (.fn 27 [])) [(.t 36), (.t 37), (.t 38)], none⟩,
            ⟨some 35, .mv (.t 39), none⟩,
            ⟨some 40, .ext (.t 35) 0, none⟩,
            ⟨some 41, .ext (.t 35) 1, none⟩,
            ⟨some 2, .mv (.t 40), none⟩,
            ⟨some 4, .mv (.t 41), none⟩]) (
          (.seq (
           .region [] [
             ⟨some 42, .mv (.t 7), none⟩,
             ⟨some 43, .not (.t 42), none⟩,
             ⟨some 44, .mv (.t 43), none⟩,
             ⟨some 45, .mv (.t 4), some (44, false)⟩,
             ⟨some 46, .bin .neq (.t 45) (.c (.int .i64 0)), some (44, false)⟩,
             ⟨some 47, .pick (.t 44) (.c (.bool true)) (.t 46), none⟩,
             ⟨some 48, .mv (.t 47), none⟩,
             ⟨some 49, .mv (.t 3), some (48, false)⟩,
             ⟨some 50, .not (.t 49), some (48, false)⟩,
             ⟨some 51, .mv (.t 50), some (48, false)⟩,
             ⟨some 52, .mv (.t 8), some (51, true)⟩,
             ⟨some 53, .bin .neq (.t 52) (.c (.str ⟨#[32, 109, 97, 106, 111, 114]⟩)), some (51, true)⟩,
             ⟨some 54, .pick (.t 51) (.t 53) (.c (.bool false)), some (48, false)⟩,
             ⟨some 55, .pick (.t 48) (.c (.bool true)) (.t 54), none⟩]) (
           (.cond (.t 55) (
            (.seq (
             .region [] [
               ⟨some 2, .mv (.c (.int .i64 0)), none⟩,
               ⟨some 3, .mv (.c (.bool false)), none⟩,
               ⟨some 4, .mv (.c (.int .i64 12)), none⟩]) (
             .ret))) (
            .skip))))))) (
         (.seq (
          .region [] [
            ⟨some 56, .mv (.t 2), none⟩,
            ⟨some 57, .mv (.t 3), none⟩,
            ⟨some 2, .mv (.t 56), none⟩,
            ⟨some 3, .mv (.t 57), none⟩,
            ⟨some 4, .mv (.c (.int .i64 0)), none⟩]) (
          .ret))))))))))))))))))⟩

def a36 : AFunc := ⟨[.tmp 4],
 (.seq (
  .region [] [
    ⟨some 4, .mv (.c (.str ⟨#[]⟩)), none⟩]) (
  (.seq (
   .region [] [
     ⟨some 8, .mv (.t 0), none⟩,
     ⟨some 9, .mv (.t 1), none⟩,
     ⟨some 10, .call 0 (.c (.fn 29 [])) [(.t 8), (.t 9)], none⟩,
     ⟨some 7, .mv (.t 10), none⟩,
     ⟨some 11, .ext (.t 7) 0, none⟩,
     ⟨some 12, .ext (.t 7) 1, none⟩,
     ⟨some 5, .mv (.t 11), none⟩,
     ⟨some 6, .mv (.t 12), none⟩]) (
   (.seq (
    .region [] [
      ⟨some 13, .mv (.t 5), none⟩,
      ⟨some 14, .mv (.t 5), none⟩,
      ⟨some 15, .bin .add (.t 14) (.c (.int .i64 1)), none⟩,
      ⟨some 16, .strSub (.c (.str ⟨#[67, 68, 69, 70, 71, 65, 66]⟩)) (some (.t 13)) (some (.t 15)), none⟩,
      ⟨some 17, .lit 1 [(.str ⟨#[]⟩)] 3 [(0, 1, (.c (.str ⟨#[98]⟩))), (1, 1, (.c (.str ⟨#[]⟩))), (2, 1, (.c (.str ⟨#[35]⟩)))], none⟩,
      ⟨some 18, .mv (.t 6), none⟩,
      ⟨some 19, .bin .add (.t 18) (.c (.int .i64 1)), none⟩,
      ⟨some 20, .elemAddr 1 (.t 17) (.t 19), none⟩,
      ⟨some 21, .loadi false 1 (.t 20), none⟩,
      ⟨some 22, .bin .add (.t 16) (.t 21), none⟩,
      ⟨some 23, .mkmap 1, none⟩,
      ⟨none, .mins .bool (.t 23) (.c (.bool false)) (.c (.str ⟨#[32, 109, 97, 106, 111, 114]⟩)), none⟩,
      ⟨none, .mins .bool (.t 23) (.c (.bool true)) (.c (.str ⟨#[32, 109, 105, 110, 111, 114]⟩)), none⟩,
      ⟨some 24, .mv (.t 23), none⟩,
      ⟨some 25, .mv (.t 1), none⟩,
      ⟨some 26, .mget .bool false (.str ⟨#[]⟩) (.t 24) (.t 25), none⟩,
      ⟨some 27, .bin .add (.t 22) (.t 26), none⟩,
      ⟨some 4, .mv (.t 27), none⟩]) (
    .ret))))))⟩

def a37 : AFunc := ⟨[.tmp 4],
 (.seq (
  .region [] [
    ⟨some 4, .mv (.c (.int .i64 0)), none⟩]) (
  (.seq (
   (.seq (
    .region [] [
      ⟨some 6, .mv (.t 1), none⟩,
      ⟨some 7, .call 0 (.c (.fn 43 [])) [(.t 6)], none⟩,
      ⟨some 8, .bin .add (.t 7) (.c (.int .i64 1)), none⟩,
      ⟨some 5, .mv (.t 8), none⟩]) (
    (.block 0 (
     (.seq (
      .region [] [
        ⟨some 10, .mv (.t 5), none⟩,
        ⟨some 11, .mv (.t 0), none⟩,
        ⟨some 12, .bin .lss (.t 10) (.t 11), none⟩,
        ⟨some 9, .mv (.t 12), none⟩]) (
      (.cond (.t 9) (
       (.seq (
        .region [] [
          ⟨some 4, .mv (.c (.int .i64 1)), none⟩]) (
        .ret))) (
       (.seq (
        .region [] [
          ⟨some 14, .mv (.t 5), none⟩,
          ⟨some 15, .bin .sub (.c (.int .i64 6)) (.t 14), none⟩,
          ⟨some 16, .mv (.t 0), none⟩,
          ⟨some 17, .neg (.t 16), none⟩,
          ⟨some 18, .bin .lss (.t 15) (.t 17), none⟩,
          ⟨some 13, .mv (.t 18), none⟩]) (
        (.cond (.t 13) (
         (.seq (
          .region [] [
            ⟨some 4, .mv (.c (.int .i64 (-1))), none⟩]) (
          .ret))) (
         .skip))))))))))))) (
   (.seq (
    .region [] [
      ⟨some 4, .mv (.c (.int .i64 0)), none⟩]) (
    .ret))))))⟩

def a38 : AFunc := ⟨[.tmp 2],
 (.seq (
  .region [] [
    ⟨some 2, .mv (.c (.bool false)), none⟩]) (
  (.seq (
   .region [] [
     ⟨some 3, .mv (.t 0), none⟩,
     ⟨some 4, .bin .geq (.t 3) (.c (.int .i64 0)), none⟩,
     ⟨some 5, .mv (.t 4), none⟩,
     ⟨some 6, .mv (.t 0), some (5, true)⟩,
     ⟨some 7, .bin .leq (.t 6) (.c (.int .i64 6)), some (5, true)⟩,
     ⟨some 8, .pick (.t 5) (.t 7) (.c (.bool false)), none⟩,
     ⟨some 2, .mv (.t 8), none⟩]) (
   .ret))))⟩

def a39 : AFunc := ⟨[.cell 0 true 7],
 (.seq (
  .region [] [
    ⟨some 0, .alloc 1 [(.int .i64 0), (.int .i64 0), (.int .i64 0), (.int .i64 0), (.int .i64 0), (.int .i64 0), (.int .i64 0)], none⟩]) (
  (.seq (
   .region [] [
     ⟨some 1, .build [(.int .i64 0), (.int .i64 0), (.int .i64 0), (.int .i64 0), (.int .i64 0), (.int .i64 0), (.int .i64 0)] [(0, 1, (.c (.int .i64 3))), (1, 1, (.c (.int .i64 0))), (2, 1, (.c (.int .i64 4))), (3, 1, (.c (.int .i64 1))), (4, 1, (.c (.int .i64 5))), (5, 1, (.c (.int .i64 2))), (6, 1, (.c (.int .i64 6)))], none⟩,
     ⟨none, .store 7 (.t 0) (.t 1), none⟩]) (
   .ret))))⟩

def a40 : AFunc := ⟨[.tmp 0],
 (.seq (
  .region [] [
    ⟨some 0, .mv (.c .nilsl), none⟩]) (
  (.seq (
   .region [] [
     ⟨some 1, .lit 1 [(.int .i64 0)] 7 [(0, 1, (.c (.int .i64 3))), (1, 1, (.c (.int .i64 0))), (2, 1, (.c (.int .i64 4))), (3, 1, (.c (.int .i64 1))), (4, 1, (.c (.int .i64 5))), (5, 1, (.c (.int .i64 2))), (6, 1, (.c (.int .i64 6)))], none⟩,
     ⟨some 0, .mv (.t 1), none⟩]) (
   .ret))))⟩

def a41 : AFunc := ⟨[.tmp 2, .tmp 3],
 (.seq (
  .region [] [
    ⟨some 2, .mv (.c (.int .i64 0)), none⟩,
    ⟨some 3, .mv (.c (.int .i64 0)), none⟩]) (
  (.seq (
   .region [] [
     ⟨some 5, .mv (.t 0), none⟩,
     ⟨some 6, .bin .add (.t 5) (.c (.int .i64 1)), none⟩,
     ⟨some 7, .bin .rem (.t 6) (.c (.int .i64 7)), none⟩,
     ⟨some 8, .bin .add (.t 7) (.c (.int .i64 7)), none⟩,
     ⟨some 9, .bin .rem (.t 8) (.c (.int .i64 7)), none⟩,
     ⟨some 4, .mv (.t 9), none⟩]) (
   (.seq (
    .region [] [
      ⟨some 10, .call 0 (.c (.fn 39 [])) [], none⟩,
      ⟨some 11, .mv (.t 4), none⟩,
      ⟨some 12, .idx 7 1 false (.t 10) (.t 11), none⟩,
      ⟨some 13, .mv (.t 0), none⟩,
      ⟨some 14, .bin .add (.t 13) (.c (.int .i64 1)), none⟩,
      ⟨some 15, .mv (.t 4), none⟩,
      ⟨some 16, .bin .sub (.t 14) (.t 15), none⟩,
      ⟨some 17, .bin .quo (.t 16) (.c (.int .i64 7)), none⟩,
      ⟨some 2, .mv (.t 12), none⟩,
      ⟨some 3, .mv (.t 17), none⟩]) (
    .ret))))))⟩

def a42 : AFunc := ⟨[.tmp 2],
 (.seq (
  .region [] [
    ⟨some 2, .mv (.c (.int .i64 0)), none⟩]) (
  (.seq (
   (.seq (
    .region [] [
      ⟨some 3, .mv (.t 0), none⟩]) (
    (.cond (.t 3) (
     (.seq (
      .region [] [
        ⟨some 2, .mv (.c (.int .i64 3)), none⟩]) (
      .ret))) (
     .skip))))) (
   (.seq (
    .region [] [
      ⟨some 2, .mv (.c (.int .i64 0)), none⟩]) (
    .ret))))))⟩

def a43 : AFunc := ⟨[.tmp 2],
 (.seq (
  .region [] [
    ⟨some 2, .mv (.c (.int .i64 0)), none⟩]) (
  (.seq (
   (.seq (
    .region [] [
      ⟨some 5, .call 0 (.c (.fn 39 [])) [], none⟩,
      ⟨some 6, .mv (.c (.int .i64 0)), none⟩]) (
    (.block 0 (
     (.loop (
      (.seq (
       .region [] [
         ⟨some 7, .bin .lss (.t 6) (.c (.int .i64 7)), none⟩]) (
       (.seq (
        (.cond (.t 7) (
         .skip) (
         .exit 0))) (
        (.seq (
         (.block 1 (
          (.seq (
           .region [] [
             ⟨some 8, .mv (.t 6), none⟩,
             ⟨some 9, .idx 7 1 false (.t 5) (.t 6), none⟩,
             ⟨some 3, .mv (.t 8), none⟩,
             ⟨some 4, .mv (.t 9), none⟩]) (
           (.seq (
            .region [] [
              ⟨some 10, .mv (.t 4), none⟩,
              ⟨some 11, .mv (.t 0), none⟩,
              ⟨some 12, .bin .eql (.t 10) (.t 11), none⟩]) (
            (.cond (.t 12) (
             (.seq (
              .region [] [
                ⟨some 13, .mv (.t 3), none⟩,
                ⟨some 14, .bin .sub (.t 13) (.c (.int .i64 1)), none⟩,
                ⟨some 2, .mv (.t 14), none⟩]) (
              .ret))) (
             .skip))))))))) (
         .region [] [
           ⟨some 15, .bin .add (.t 6) (.c (.int .i64 1)), none⟩,
           ⟨some 6, .mv (.t 15), none⟩]))))))))))))) (
   (.seq (
    .region [] [
      ⟨some 2, .mv (.c (.int .i64 0)), none⟩]) (
    .ret))))))⟩

def a44 : AFunc := ⟨[.tmp 4],
 (.seq (
  .region [] [
    ⟨some 4, .mv (.c (.int .i64 0)), none⟩]) (
  (.seq (
   (.seq (
    .region [] [
      ⟨some 5, .mv (.c (.int .i64 0)), none⟩]) (
    (.block 0 (
     (.loop (
      (.seq (
       (.seq (
        .region [] [
          ⟨some 6, .mv (.t 5), none⟩,
          ⟨some 7, .bin .lss (.t 6) (.c (.int .i64 7)), none⟩]) (
        (.cond (.t 7) (
         .skip) (
         .exit 0))))) (
       (.seq (
        (.block 1 (
         (.seq (
          .region [] [
            ⟨some 10, .call 0 (.c (.fn 40 [])) [], none⟩,
            ⟨some 11, .mv (.t 5), none⟩,
            ⟨some 12, .elemAddr 1 (.t 10) (.t 11), none⟩,
            ⟨some 13, .load false 1 (.t 12), none⟩,
            ⟨some 14, .mv (.t 0), none⟩,
            ⟨some 15, .bin .eql (.t 13) (.t 14), none⟩]) (
          (.cond (.t 15) (
           (.seq (
            .region [] [
              ⟨some 16, .mv (.t 5), none⟩,
              ⟨some 17, .bin .sub (.t 16) (.c (.int .i64 1)), none⟩,
              ⟨some 18, .mv (.t 1), none⟩,
              ⟨some 19, .bin .mul (.c (.int .i64 7)) (.t 18), none⟩,
              ⟨some 20, .bin .add (.t 17) (.t 19), none⟩,
              ⟨some 4, .mv (.t 20), none⟩]) (
            .ret))) (
           .skip))))))) (
        .region [] [
          ⟨some 8, .mv (.t 5), none⟩,
          ⟨some 9, .bin .add (.t 8) (.c (.int .i64 1)), none⟩,
          ⟨some 5, .mv (.t 9), none⟩]))))))))))) (
   (.seq (
    .region [] [
      ⟨some 4, .mv (.c (.int .i64 0)), none⟩]) (
    .ret))))))⟩

def a45 : AFunc := ⟨[.tmp 4],
 (.seq (
  .region [] [
    ⟨some 4, .mv (.c (.bool false)), none⟩]) (
  (.seq (
   .region [] [
     ⟨some 5, .mv (.t 0), none⟩,
     ⟨some 6, .mv (.t 1), none⟩,
     ⟨some 7, .call 0 (.c (.fn 46 [])) [(.t 5), (.t 6)], none⟩,
     ⟨some 4, .mv (.t 7), none⟩]) (
   .ret))))⟩

def a46 : AFunc := ⟨[.tmp 4],
 (.seq (
  .region [] [
    ⟨some 4, .mv (.c (.bool false)), none⟩]) (
  (.seq (
   .region [] [
     ⟨some 5, .mv (.t 0), none⟩,
     ⟨some 6, .slen (.t 5), none⟩,
     ⟨some 7, .mv (.t 1), none⟩,
     ⟨some 8, .slen (.t 7), none⟩,
     ⟨some 9, .bin .geq (.t 6) (.t 8), none⟩,
     ⟨some 10, .mv (.t 9), none⟩,
     ⟨some 11, .mv (.t 0), some (10, true)⟩,
     ⟨some 12, .mv (.t 1), some (10, true)⟩,
     ⟨some 13, .slen (.t 12), some (10, true)⟩,
     ⟨some 14, .strSub (.t 11) none (some (.t 13)), some (10, true)⟩,
     ⟨some 15, .mv (.t 1), some (10, true)⟩,
     ⟨some 16, .bin .eql (.t 14) (.t 15), some (10, true)⟩,
     ⟨some 17, .pick (.t 10) (.t 16) (.c (.bool false)), none⟩,
     ⟨some 4, .mv (.t 17), none⟩]) (
   .ret))))⟩


def tblF : FuncId → Option AFunc := fun f =>
  match f with
  | 2 => some a2
  | 3 => some a3
  | 4 => some a4
  | 5 => some a5
  | 6 => some a6
  | 7 => some a7
  | 8 => some a8
  | 9 => some a9
  | 10 => some a10
  | 11 => some a11
  | 12 => some a12
  | 13 => some a13
  | 14 => some a14
  | 15 => some a15
  | 16 => some a16
  | 17 => some a17
  | 18 => some a18
  | 19 => some a19
  | 20 => some a20
  | 21 => some a21
  | 22 => some a22
  | 23 => some a23
  | 24 => some a24
  | 25 => some a25
  | 26 => some a26
  | 27 => some a27
  | 28 => some a28
  | 29 => some a29
  | 30 => some a30
  | 31 => some a31
  | 32 => some a32
  | 33 => some a33
  | 34 => some a34
  | 35 => some a35
  | 36 => some a36
  | 37 => some a37
  | 38 => some a38
  | 39 => some a39
  | 40 => some a40
  | 41 => some a41
  | 42 => some a42
  | 43 => some a43
  | 44 => some a44
  | 45 => some a45
  | 46 => some a46
  | _ => none

def tbl : Tbl := ⟨tblF, fun _ _ => none⟩

theorem ok2 : cFunc Try.prog 0 Try.f2 = some a2 := by kernel_rfl
theorem ok3 : cFunc Try.prog 0 Try.f3 = some a3 := by kernel_rfl
theorem ok4 : cFunc Try.prog 0 Try.f4 = some a4 := by kernel_rfl
theorem ok5 : cFunc Try.prog 0 Try.f5 = some a5 := by kernel_rfl
theorem ok6 : cFunc Try.prog 0 Try.f6 = some a6 := by kernel_rfl
theorem ok7 : cFunc Try.prog 0 Try.f7 = some a7 := by kernel_rfl
theorem ok8 : cFunc Try.prog 0 Try.f8 = some a8 := by kernel_rfl
theorem ok9 : cFunc Try.prog 0 Try.f9 = some a9 := by kernel_rfl
theorem ok10 : cFunc Try.prog 0 Try.f10 = some a10 := by kernel_rfl
theorem ok11 : cFunc Try.prog 0 Try.f11 = some a11 := by kernel_rfl
theorem ok12 : cFunc Try.prog 0 Try.f12 = some a12 := by kernel_rfl
theorem ok13 : cFunc Try.prog 0 Try.f13 = some a13 := by kernel_rfl
theorem ok14 : cFunc Try.prog 0 Try.f14 = some a14 := by kernel_rfl
theorem ok15 : cFunc Try.prog 0 Try.f15 = some a15 := by kernel_rfl
theorem ok16 : cFunc Try.prog 0 Try.f16 = some a16 := by kernel_rfl
theorem ok17 : cFunc Try.prog 0 Try.f17 = some a17 := by kernel_rfl
theorem ok18 : cFunc Try.prog 0 Try.f18 = some a18 := by kernel_rfl
theorem ok19 : cFunc Try.prog 0 Try.f19 = some a19 := by kernel_rfl
theorem ok20 : cFunc Try.prog 0 Try.f20 = some a20 := by kernel_rfl
theorem ok21 : cFunc Try.prog 0 Try.f21 = some a21 := by kernel_rfl
theorem ok22 : cFunc Try.prog 0 Try.f22 = some a22 := by kernel_rfl
theorem ok23 : cFunc Try.prog 0 Try.f23 = some a23 := by kernel_rfl
theorem ok24 : cFunc Try.prog 0 Try.f24 = some a24 := by kernel_rfl
theorem ok25 : cFunc Try.prog 0 Try.f25 = some a25 := by kernel_rfl
theorem ok26 : cFunc Try.prog 0 Try.f26 = some a26 := by kernel_rfl
theorem ok27 : cFunc Try.prog 0 Try.f27 = some a27 := by kernel_rfl
theorem ok28 : cFunc Try.prog 0 Try.f28 = some a28 := by kernel_rfl
theorem ok29 : cFunc Try.prog 0 Try.f29 = some a29 := by kernel_rfl
theorem ok30 : cFunc Try.prog 0 Try.f30 = some a30 := by kernel_rfl
theorem ok31 : cFunc Try.prog 0 Try.f31 = some a31 := by kernel_rfl
theorem ok32 : cFunc Try.prog 0 Try.f32 = some a32 := by kernel_rfl
theorem ok33 : cFunc Try.prog 0 Try.f33 = some a33 := by kernel_rfl
theorem ok34 : cFunc Try.prog 0 Try.f34 = some a34 := by kernel_rfl
theorem ok35 : cFunc Try.prog 0 Try.f35 = some a35 := by kernel_rfl
theorem ok36 : cFunc Try.prog 0 Try.f36 = some a36 := by kernel_rfl
theorem ok37 : cFunc Try.prog 0 Try.f37 = some a37 := by kernel_rfl
theorem ok38 : cFunc Try.prog 0 Try.f38 = some a38 := by kernel_rfl
theorem ok39 : cFunc Try.prog 0 Try.f39 = some a39 := by kernel_rfl
theorem ok40 : cFunc Try.prog 0 Try.f40 = some a40 := by kernel_rfl
theorem ok41 : cFunc Try.prog 0 Try.f41 = some a41 := by kernel_rfl
theorem ok42 : cFunc Try.prog 0 Try.f42 = some a42 := by kernel_rfl
theorem ok43 : cFunc Try.prog 0 Try.f43 = some a43 := by kernel_rfl
theorem ok44 : cFunc Try.prog 0 Try.f44 = some a44 := by kernel_rfl
theorem ok45 : cFunc Try.prog 0 Try.f45 = some a45 := by kernel_rfl
theorem ok46 : cFunc Try.prog 0 Try.f46 = some a46 := by kernel_rfl

theorem tblF_ok (pr : FuncId → List V → Option V) : TblOk Try.prog ⟨tblF, pr⟩ := by
  intro f af h
  change tblF f = some af at h
  unfold tblF at h
  split at h
  · cases h; exact ⟨_, _, Try.func2, ok2⟩
  · cases h; exact ⟨_, _, Try.func3, ok3⟩
  · cases h; exact ⟨_, _, Try.func4, ok4⟩
  · cases h; exact ⟨_, _, Try.func5, ok5⟩
  · cases h; exact ⟨_, _, Try.func6, ok6⟩
  · cases h; exact ⟨_, _, Try.func7, ok7⟩
  · cases h; exact ⟨_, _, Try.func8, ok8⟩
  · cases h; exact ⟨_, _, Try.func9, ok9⟩
  · cases h; exact ⟨_, _, Try.func10, ok10⟩
  · cases h; exact ⟨_, _, Try.func11, ok11⟩
  · cases h; exact ⟨_, _, Try.func12, ok12⟩
  · cases h; exact ⟨_, _, Try.func13, ok13⟩
  · cases h; exact ⟨_, _, Try.func14, ok14⟩
  · cases h; exact ⟨_, _, Try.func15, ok15⟩
  · cases h; exact ⟨_, _, Try.func16, ok16⟩
  · cases h; exact ⟨_, _, Try.func17, ok17⟩
  · cases h; exact ⟨_, _, Try.func18, ok18⟩
  · cases h; exact ⟨_, _, Try.func19, ok19⟩
  · cases h; exact ⟨_, _, Try.func20, ok20⟩
  · cases h; exact ⟨_, _, Try.func21, ok21⟩
  · cases h; exact ⟨_, _, Try.func22, ok22⟩
  · cases h; exact ⟨_, _, Try.func23, ok23⟩
  · cases h; exact ⟨_, _, Try.func24, ok24⟩
  · cases h; exact ⟨_, _, Try.func25, ok25⟩
  · cases h; exact ⟨_, _, Try.func26, ok26⟩
  · cases h; exact ⟨_, _, Try.func27, ok27⟩
  · cases h; exact ⟨_, _, Try.func28, ok28⟩
  · cases h; exact ⟨_, _, Try.func29, ok29⟩
  · cases h; exact ⟨_, _, Try.func30, ok30⟩
  · cases h; exact ⟨_, _, Try.func31, ok31⟩
  · cases h; exact ⟨_, _, Try.func32, ok32⟩
  · cases h; exact ⟨_, _, Try.func33, ok33⟩
  · cases h; exact ⟨_, _, Try.func34, ok34⟩
  · cases h; exact ⟨_, _, Try.func35, ok35⟩
  · cases h; exact ⟨_, _, Try.func36, ok36⟩
  · cases h; exact ⟨_, _, Try.func37, ok37⟩
  · cases h; exact ⟨_, _, Try.func38, ok38⟩
  · cases h; exact ⟨_, _, Try.func39, ok39⟩
  · cases h; exact ⟨_, _, Try.func40, ok40⟩
  · cases h; exact ⟨_, _, Try.func41, ok41⟩
  · cases h; exact ⟨_, _, Try.func42, ok42⟩
  · cases h; exact ⟨_, _, Try.func43, ok43⟩
  · cases h; exact ⟨_, _, Try.func44, ok44⟩
  · cases h; exact ⟨_, _, Try.func45, ok45⟩
  · cases h; exact ⟨_, _, Try.func46, ok46⟩
  · cases h

theorem mixed : Try.prog.follows .mixedOrders = true := by kernel_rfl

theorem sound : SoundCall Try.prog (call tbl) := call_sound mixed (tblF_ok _) prOk_none

end Go.Proofs.Ytfpkelnakagdfaa
