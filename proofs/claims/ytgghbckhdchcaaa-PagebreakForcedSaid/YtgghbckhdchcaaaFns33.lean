/-
  The translation's functions in the abstract machine's code, written by program; the kernel holds each against the translation.
-/
import Derived.Test.YtgghbckhdchcaaaChecked
import Derived.Test.YtgghbckhdchcaaaAbLim
namespace Go.Proofs.Ytgghbckhdchcaaa
open Go Go.Ab
set_option maxRecDepth 100000

def a2 : AFunc := ⟨[],
 .region [] [
   ⟨some 0, .call 0 (.c (.fn 1 [])) [], none⟩]⟩

def a3 : AFunc := ⟨[.tmp 4],
 (.seq (
  .region [] [
    ⟨some 3, .box 1 (.t 1), none⟩,
    ⟨some 4, .mv (.c (.bool false)), none⟩]) (
  (.seq (
   .region [] [
     ⟨some 6, .mv (.t 0), none⟩,
     ⟨some 7, .mv (.t 0), none⟩,
     ⟨some 8, .len (.t 7), none⟩,
     ⟨some 9, .mm false [(.t 8), (.c (.int .i64 30))], none⟩,
     ⟨some 10, .sub 4 (.t 6) none (some (.t 9)) none, none⟩,
     ⟨some 0, .mv (.t 10), none⟩]) (
   (.seq (
    .region [] [
      ⟨some 11, .mks 2 4 [(.int .i64 0), (.int .i64 0), (.int .i64 0), (.int .i64 0)] 32 (.c (.int .i64 1025)) (.c (.int .i64 1025)), none⟩,
      ⟨some 5, .mv (.t 11), none⟩]) (
    (.seq (
     .region [] [
       ⟨some 12, .call 0 (.c (.fn 11 [])) [], none⟩,
       ⟨some 13, .mv (.t 12), none⟩,
       ⟨some 14, .mv (.t 0), some (13, true)⟩,
       ⟨some 15, .load true 2 (.t 3), some (13, true)⟩,
       ⟨some 16, .call 0 (.c (.fn 12 [])) [(.t 14), (.t 15)], some (13, true)⟩,
       ⟨some 17, .mv (.t 0), some (13, true)⟩,
       ⟨some 18, .load true 2 (.t 3), some (13, true)⟩,
       ⟨some 19, .call 0 (.c (.fn 13 [])) [(.t 17), (.t 18)], some (13, true)⟩,
       ⟨some 20, .bin .eql (.t 16) (.t 19), some (13, true)⟩,
       ⟨some 21, .pick (.t 13) (.t 20) (.c (.bool false)), none⟩,
       ⟨some 22, .mv (.t 21), none⟩,
       ⟨some 23, .mv (.t 5), some (22, true)⟩,
       ⟨some 24, .load true 2 (.t 3), some (22, true)⟩,
       ⟨some 25, .call 0 (.c (.fn 12 [])) [(.t 23), (.t 24)], some (22, true)⟩,
       ⟨some 26, .bin .eql (.t 25) (.c (.int .i64 9)), some (22, true)⟩,
       ⟨some 27, .pick (.t 22) (.t 26) (.c (.bool false)), none⟩,
       ⟨some 4, .mv (.t 27), none⟩]) (
     .ret))))))))⟩

def a4 : AFunc := ⟨[.tmp 4],
 (.seq (
  .region [] [
    ⟨some 3, .box 1 (.t 1), none⟩,
    ⟨some 4, .mv (.c (.bool false)), none⟩]) (
  (.seq (
   .region [] [
     ⟨some 10, .mv (.t 0), none⟩,
     ⟨some 11, .mv (.t 0), none⟩,
     ⟨some 12, .len (.t 11), none⟩,
     ⟨some 13, .mm false [(.t 12), (.c (.int .i64 9))], none⟩,
     ⟨some 14, .sub 4 (.t 10) none (some (.t 13)) none, none⟩,
     ⟨some 0, .mv (.t 14), none⟩]) (
   (.seq (
    .region [] [
      ⟨some 16, .mv (.t 0), none⟩,
      ⟨some 17, .load true 2 (.t 3), none⟩,
      ⟨some 18, .call 0 (.c (.fn 14 [])) [(.t 16), (.t 17)], none⟩,
      ⟨some 15, .mv (.t 18), none⟩,
      ⟨some 19, .ext (.t 15) 0, none⟩,
      ⟨some 20, .ext (.t 15) 1, none⟩,
      ⟨some 5, .mv (.t 19), none⟩,
      ⟨some 6, .mv (.t 20), none⟩]) (
    (.seq (
     (.seq (
      .region [] [
        ⟨some 21, .mv (.t 0), none⟩,
        ⟨some 22, .load true 2 (.t 3), none⟩,
        ⟨some 23, .call 0 (.c (.fn 13 [])) [(.t 21), (.t 22)], none⟩,
        ⟨some 7, .mv (.t 23), none⟩]) (
      (.seq (
       .region [] [
         ⟨some 24, .mv (.t 7), none⟩,
         ⟨some 25, .bin .neq (.t 24) (.c (.int .i64 0)), none⟩]) (
       (.cond (.t 25) (
        (.seq (
         .region [] [
           ⟨some 26, .call 0 (.c (.fn 11 [])) [], none⟩,
           ⟨some 27, .mv (.t 26), none⟩,
           ⟨some 28, .mv (.t 5), some (27, true)⟩,
           ⟨some 29, .len (.t 28), some (27, true)⟩,
           ⟨some 30, .bin .eql (.t 29) (.c (.int .i64 0)), some (27, true)⟩,
           ⟨some 31, .pick (.t 27) (.t 30) (.c (.bool false)), none⟩,
           ⟨some 32, .mv (.t 31), none⟩,
           ⟨some 33, .mv (.t 6), some (32, true)⟩,
           ⟨some 34, .mv (.t 7), some (32, true)⟩,
           ⟨some 35, .bin .eql (.t 33) (.t 34), some (32, true)⟩,
           ⟨some 36, .pick (.t 32) (.t 35) (.c (.bool false)), none⟩,
           ⟨some 4, .mv (.t 36), none⟩]) (
         .ret))) (
        .skip))))))) (
     (.seq (
      .region [] [
        ⟨some 38, .mv (.t 0), none⟩,
        ⟨some 39, .load true 2 (.t 3), none⟩,
        ⟨some 40, .call 0 (.c (.fn 15 [])) [(.t 38), (.t 39)], none⟩,
        ⟨some 37, .mv (.t 40), none⟩,
        ⟨some 41, .ext (.t 37) 0, none⟩,
        ⟨some 42, .ext (.t 37) 1, none⟩,
        ⟨some 8, .mv (.t 41), none⟩,
        ⟨some 9, .mv (.t 42), none⟩]) (
      (.seq (
       .region [] [
         ⟨some 43, .call 0 (.c (.fn 11 [])) [], none⟩,
         ⟨some 44, .mv (.t 43), none⟩,
         ⟨some 45, .mv (.t 6), some (44, true)⟩,
         ⟨some 46, .mv (.t 9), some (44, true)⟩,
         ⟨some 47, .bin .eql (.t 45) (.t 46), some (44, true)⟩,
         ⟨some 48, .pick (.t 44) (.t 47) (.c (.bool false)), none⟩,
         ⟨some 49, .mv (.t 48), none⟩,
         ⟨some 50, .mv (.t 5), some (49, true)⟩,
         ⟨some 51, .mv (.t 8), some (49, true)⟩,
         ⟨some 52, .call 0 (.c (.fn 16 [])) [(.t 50), (.t 51)], some (49, true)⟩,
         ⟨some 53, .pick (.t 49) (.t 52) (.c (.bool false)), none⟩,
         ⟨some 4, .mv (.t 53), none⟩]) (
       .ret))))))))))))⟩

def a5 : AFunc := ⟨[.tmp 6],
 (.seq (
  .region [] [
    ⟨some 4, .box 1 (.t 1), none⟩,
    ⟨some 6, .mv (.c (.bool false)), none⟩]) (
  (.seq (
   .region [] [
     ⟨some 10, .mv (.t 0), none⟩,
     ⟨some 11, .mv (.t 0), none⟩,
     ⟨some 12, .len (.t 11), none⟩,
     ⟨some 13, .mm false [(.t 12), (.c (.int .i64 30))], none⟩,
     ⟨some 14, .sub 4 (.t 10) none (some (.t 13)) none, none⟩,
     ⟨some 15, .mv (.t 2), none⟩,
     ⟨some 16, .mv (.t 2), none⟩,
     ⟨some 17, .len (.t 16), none⟩,
     ⟨some 18, .mm false [(.t 17), (.c (.int .i64 30))], none⟩,
     ⟨some 19, .sub 1 (.t 15) none (some (.t 18)) none, none⟩,
     ⟨some 0, .mv (.t 14), none⟩,
     ⟨some 2, .mv (.t 19), none⟩]) (
   (.seq (
    .region [] [
      ⟨some 21, .mv (.t 0), none⟩,
      ⟨some 22, .load true 2 (.t 4), none⟩,
      ⟨some 23, .mv (.t 2), none⟩,
      ⟨some 24, .call 0 (.c (.fn 17 [])) [(.t 21), (.t 22), (.t 23)], none⟩,
      ⟨some 20, .mv (.t 24), none⟩,
      ⟨some 25, .ext (.t 20) 0, none⟩,
      ⟨some 26, .ext (.t 20) 1, none⟩,
      ⟨some 7, .mv (.t 25), none⟩,
      ⟨some 8, .mv (.t 26), none⟩]) (
    (.seq (
     (.seq (
      .region [] [
        ⟨some 27, .call 0 (.c (.fn 11 [])) [], none⟩,
        ⟨some 28, .not (.t 27), none⟩]) (
      (.cond (.t 28) (
       (.seq (
        .region [] [
          ⟨some 6, .mv (.c (.bool false)), none⟩]) (
        .ret))) (
       .skip))))) (
     (.seq (
      (.seq (
       .region [] [
         ⟨some 29, .mv (.t 0), none⟩,
         ⟨some 30, .load true 2 (.t 4), none⟩,
         ⟨some 31, .call 0 (.c (.fn 13 [])) [(.t 29), (.t 30)], none⟩,
         ⟨some 9, .mv (.t 31), none⟩]) (
       (.seq (
        .region [] [
          ⟨some 32, .mv (.t 9), none⟩,
          ⟨some 33, .bin .neq (.t 32) (.c (.int .i64 0)), none⟩]) (
        (.cond (.t 33) (
         (.seq (
          .region [] [
            ⟨some 34, .mv (.t 7), none⟩,
            ⟨some 35, .bin .eql (.t 34) (.c (.int .i64 0)), none⟩,
            ⟨some 36, .mv (.t 35), none⟩,
            ⟨some 37, .mv (.t 8), some (36, true)⟩,
            ⟨some 38, .mv (.t 9), some (36, true)⟩,
            ⟨some 39, .bin .eql (.t 37) (.t 38), some (36, true)⟩,
            ⟨some 40, .pick (.t 36) (.t 39) (.c (.bool false)), none⟩,
            ⟨some 6, .mv (.t 40), none⟩]) (
          .ret))) (
         .skip))))))) (
      (.seq (
       (.seq (
        .region [] [
          ⟨some 41, .mv (.t 2), none⟩,
          ⟨some 42, .mv (.t 0), none⟩,
          ⟨some 43, .len (.t 42), none⟩,
          ⟨some 44, .call 0 (.c (.fn 18 [])) [(.t 41), (.t 43)], none⟩,
          ⟨some 45, .not (.t 44), none⟩]) (
        (.cond (.t 45) (
         (.seq (
          .region [] [
            ⟨some 46, .mv (.t 7), none⟩,
            ⟨some 47, .bin .eql (.t 46) (.c (.int .i64 0)), none⟩,
            ⟨some 48, .mv (.t 47), none⟩,
            ⟨some 49, .mv (.t 8), some (48, true)⟩,
            ⟨some 50, .bin .eql (.t 49) (.c (.int .i64 25)), some (48, true)⟩,
            ⟨some 51, .pick (.t 48) (.t 50) (.c (.bool false)), none⟩,
            ⟨some 6, .mv (.t 51), none⟩]) (
          .ret))) (
         .skip))))) (
       (.seq (
        .region [] [
          ⟨some 52, .mv (.t 8), none⟩,
          ⟨some 53, .bin .eql (.t 52) (.c (.int .i64 0)), none⟩,
          ⟨some 54, .mv (.t 53), none⟩,
          ⟨some 55, .mv (.t 7), some (54, true)⟩,
          ⟨some 56, .mv (.t 0), some (54, true)⟩,
          ⟨some 57, .load true 2 (.t 4), some (54, true)⟩,
          ⟨some 58, .mv (.t 2), some (54, true)⟩,
          ⟨some 59, .call 0 (.c (.fn 19 [])) [(.t 56), (.t 57), (.t 58)], some (54, true)⟩,
          ⟨some 60, .bin .eql (.t 55) (.t 59), some (54, true)⟩,
          ⟨some 61, .pick (.t 54) (.t 60) (.c (.bool false)), none⟩,
          ⟨some 6, .mv (.t 61), none⟩]) (
        .ret))))))))))))))⟩

def a6 : AFunc := ⟨[.tmp 4],
 (.seq (
  .region [] [
    ⟨some 3, .box 1 (.t 1), none⟩,
    ⟨some 4, .mv (.c (.bool false)), none⟩]) (
  (.seq (
   .region [] [
     ⟨some 16, .mv (.t 0), none⟩,
     ⟨some 17, .mv (.t 0), none⟩,
     ⟨some 18, .len (.t 17), none⟩,
     ⟨some 19, .mm false [(.t 18), (.c (.int .i64 30))], none⟩,
     ⟨some 20, .sub 4 (.t 16) none (some (.t 19)) none, none⟩,
     ⟨some 0, .mv (.t 20), none⟩]) (
   (.seq (
    .region [] [
      ⟨some 22, .mv (.t 0), none⟩,
      ⟨some 23, .load true 2 (.t 3), none⟩,
      ⟨some 24, .call 0 (.c (.fn 14 [])) [(.t 22), (.t 23)], none⟩,
      ⟨some 21, .mv (.t 24), none⟩,
      ⟨some 25, .ext (.t 21) 0, none⟩,
      ⟨some 26, .ext (.t 21) 1, none⟩,
      ⟨some 5, .mv (.t 25), none⟩,
      ⟨some 6, .mv (.t 26), none⟩]) (
    (.seq (
     (.seq (
      .region [] [
        ⟨some 27, .call 0 (.c (.fn 11 [])) [], none⟩,
        ⟨some 28, .not (.t 27), none⟩,
        ⟨some 29, .mv (.t 28), none⟩,
        ⟨some 30, .mv (.t 6), some (29, false)⟩,
        ⟨some 31, .bin .neq (.t 30) (.c (.int .i64 0)), some (29, false)⟩,
        ⟨some 32, .pick (.t 29) (.c (.bool true)) (.t 31), none⟩,
        ⟨some 33, .mv (.t 32), none⟩,
        ⟨some 34, .mv (.t 0), some (33, false)⟩,
        ⟨some 35, .len (.t 34), some (33, false)⟩,
        ⟨some 36, .bin .eql (.t 35) (.c (.int .i64 0)), some (33, false)⟩,
        ⟨some 37, .pick (.t 33) (.c (.bool true)) (.t 36), none⟩]) (
      (.cond (.t 37) (
       (.seq (
        .region [] [
          ⟨some 38, .call 0 (.c (.fn 11 [])) [], none⟩,
          ⟨some 39, .mv (.t 38), none⟩,
          ⟨some 40, .mv (.t 6), some (39, true)⟩,
          ⟨some 41, .bin .neq (.t 40) (.c (.int .i64 0)), some (39, true)⟩,
          ⟨some 42, .mv (.t 41), some (39, true)⟩,
          ⟨some 43, .mv (.t 5), some (42, false)⟩,
          ⟨some 44, .len (.t 43), some (42, false)⟩,
          ⟨some 45, .bin .eql (.t 44) (.c (.int .i64 0)), some (42, false)⟩,
          ⟨some 46, .pick (.t 42) (.c (.bool true)) (.t 45), some (39, true)⟩,
          ⟨some 47, .pick (.t 39) (.t 46) (.c (.bool false)), none⟩,
          ⟨some 4, .mv (.t 47), none⟩]) (
        .ret))) (
       .skip))))) (
     (.seq (
      (.seq (
       .region [] [
         ⟨some 48, .mv (.t 5), none⟩,
         ⟨some 49, .mv (.t 0), none⟩,
         ⟨some 50, .len (.t 49), none⟩,
         ⟨some 51, .call 0 (.c (.fn 18 [])) [(.t 48), (.t 50)], none⟩,
         ⟨some 52, .not (.t 51), none⟩]) (
       (.cond (.t 52) (
        (.seq (
         .region [] [
           ⟨some 4, .mv (.c (.bool false)), none⟩]) (
         .ret))) (
        .skip))))) (
      (.seq (
       .region [] [
         ⟨some 53, .mv (.t 0), none⟩,
         ⟨some 54, .load true 2 (.t 3), none⟩,
         ⟨some 55, .mv (.t 5), none⟩,
         ⟨some 56, .call 0 (.c (.fn 19 [])) [(.t 53), (.t 54), (.t 55)], none⟩,
         ⟨some 7, .mv (.t 56), none⟩]) (
       (.seq (
        (.seq (
         .region [] [
           ⟨some 8, .mv (.c (.int .i64 1)), none⟩]) (
         (.block 0 (
          (.loop (
           (.seq (
            (.seq (
             .region [] [
               ⟨some 57, .mv (.t 8), none⟩,
               ⟨some 58, .mv (.t 0), none⟩,
               ⟨some 59, .len (.t 58), none⟩,
               ⟨some 60, .bin .lss (.t 57) (.t 59), none⟩]) (
             (.cond (.t 60) (
              .skip) (
              .exit 0))))) (
            (.seq (
             (.block 1 (
              (.seq (
               .region [] [
                 ⟨some 9, .mv (.c .nilsl), none⟩,
                 ⟨some 10, .mv (.c .nilsl), none⟩]) (
               (.seq (
                .region [] [
                  ⟨some 11, .mv (.c (.bool false)), none⟩]) (
                (.seq (
                 (.seq (
                  .region [] [
                    ⟨some 12, .mv (.c (.int .i64 0)), none⟩]) (
                  (.block 2 (
                   (.loop (
                    (.seq (
                     (.seq (
                      .region [] [
                        ⟨some 63, .mv (.t 12), none⟩,
                        ⟨some 64, .mv (.t 5), none⟩,
                        ⟨some 65, .len (.t 64), none⟩,
                        ⟨some 66, .bin .lss (.t 63) (.t 65), none⟩]) (
                      (.cond (.t 66) (
                       .skip) (
                       .exit 2))))) (
                     (.seq (
                      (.block 3 (
                       (.seq (
                        (.seq (
                         .region [] [
                           ⟨some 69, .mv (.t 5), none⟩,
                           ⟨some 70, .mv (.t 12), none⟩,
                           ⟨some 71, .elemAddr 1 (.t 69) (.t 70), none⟩,
                           ⟨some 72, .load false 1 (.t 71), none⟩,
                           ⟨some 73, .mv (.t 8), none⟩,
                           ⟨some 74, .bin .eql (.t 72) (.t 73), none⟩]) (
                         (.cond (.t 74) (
                          (.seq (
                           .region [] [
                             ⟨some 11, .mv (.c (.bool true)), none⟩]) (
                           (.seq (
                            .region [] [
                              ⟨some 75, .mv (.t 10), none⟩,
                              ⟨some 76, .mv (.t 8), none⟩,
                              ⟨some 77, .lit 1 [(.int .i64 0)] 1 [(0, 1, (.t 76))], none⟩,
                              ⟨some 78, .app 2 1 8 (.t 75) (.t 77), none⟩,
                              ⟨some 10, .mv (.t 78), none⟩]) (
                            .exit 3))))) (
                          .skip))))) (
                        (.seq (
                         (.seq (
                          .region [] [
                            ⟨some 79, .mv (.t 5), none⟩,
                            ⟨some 80, .mv (.t 12), none⟩,
                            ⟨some 81, .elemAddr 1 (.t 79) (.t 80), none⟩,
                            ⟨some 82, .load false 1 (.t 81), none⟩,
                            ⟨some 83, .mv (.t 8), none⟩,
                            ⟨some 84, .bin .gtr (.t 82) (.t 83), none⟩,
                            ⟨some 85, .mv (.t 84), none⟩,
                            ⟨some 86, .mv (.t 11), some (85, true)⟩,
                            ⟨some 87, .not (.t 86), some (85, true)⟩,
                            ⟨some 88, .pick (.t 85) (.t 87) (.c (.bool false)), none⟩,
                            ⟨some 89, .mv (.t 88), none⟩,
                            ⟨some 90, .mv (.t 12), some (89, true)⟩,
                            ⟨some 91, .bin .eql (.t 90) (.c (.int .i64 0)), some (89, true)⟩,
                            ⟨some 92, .mv (.t 91), some (89, true)⟩,
                            ⟨some 93, .mv (.t 5), some (92, false)⟩,
                            ⟨some 94, .mv (.t 12), some (92, false)⟩,
                            ⟨some 95, .bin .sub (.t 94) (.c (.int .i64 1)), some (92, false)⟩,
                            ⟨some 96, .elemAddr 1 (.t 93) (.t 95), some (92, false)⟩,
                            ⟨some 97, .load false 1 (.t 96), some (92, false)⟩,
                            ⟨some 98, .mv (.t 8), some (92, false)⟩,
                            ⟨some 99, .bin .lss (.t 97) (.t 98), some (92, false)⟩,
                            ⟨some 100, .pick (.t 92) (.c (.bool true)) (.t 99), some (89, true)⟩,
                            ⟨some 101, .pick (.t 89) (.t 100) (.c (.bool false)), none⟩]) (
                          (.cond (.t 101) (
                           .region [] [
                             ⟨some 102, .mv (.t 10), none⟩,
                             ⟨some 103, .mv (.t 8), none⟩,
                             ⟨some 104, .lit 1 [(.int .i64 0)] 1 [(0, 1, (.t 103))], none⟩,
                             ⟨some 105, .app 3 1 8 (.t 102) (.t 104), none⟩,
                             ⟨some 10, .mv (.t 105), none⟩]) (
                           .skip))))) (
                         .region [] [
                           ⟨some 106, .mv (.t 9), none⟩,
                           ⟨some 107, .mv (.t 5), none⟩,
                           ⟨some 108, .mv (.t 12), none⟩,
                           ⟨some 109, .elemAddr 1 (.t 107) (.t 108), none⟩,
                           ⟨some 110, .load false 1 (.t 109), none⟩,
                           ⟨some 111, .lit 1 [(.int .i64 0)] 1 [(0, 1, (.t 110))], none⟩,
                           ⟨some 112, .app 4 1 8 (.t 106) (.t 111), none⟩,
                           ⟨some 113, .mv (.t 10), none⟩,
                           ⟨some 114, .mv (.t 5), none⟩,
                           ⟨some 115, .mv (.t 12), none⟩,
                           ⟨some 116, .elemAddr 1 (.t 114) (.t 115), none⟩,
                           ⟨some 117, .loadi false 1 (.t 116), none⟩,
                           ⟨some 118, .lit 1 [(.int .i64 0)] 1 [(0, 1, (.t 117))], none⟩,
                           ⟨some 119, .app 5 1 8 (.t 113) (.t 118), none⟩,
                           ⟨some 9, .mv (.t 112), none⟩,
                           ⟨some 10, .mv (.t 119), none⟩]))))))) (
                      .region [] [
                        ⟨some 67, .mv (.t 12), none⟩,
                        ⟨some 68, .bin .add (.t 67) (.c (.int .i64 1)), none⟩,
                        ⟨some 12, .mv (.t 68), none⟩]))))))))))) (
                 (.seq (
                  (.seq (
                   .region [] [
                     ⟨some 120, .mv (.t 11), none⟩,
                     ⟨some 121, .not (.t 120), none⟩,
                     ⟨some 122, .mv (.t 121), none⟩,
                     ⟨some 123, .mv (.t 5), some (122, true)⟩,
                     ⟨some 124, .mv (.t 5), some (122, true)⟩,
                     ⟨some 125, .len (.t 124), some (122, true)⟩,
                     ⟨some 126, .bin .sub (.t 125) (.c (.int .i64 1)), some (122, true)⟩,
                     ⟨some 127, .elemAddr 1 (.t 123) (.t 126), some (122, true)⟩,
                     ⟨some 128, .load false 1 (.t 127), some (122, true)⟩,
                     ⟨some 129, .mv (.t 8), some (122, true)⟩,
                     ⟨some 130, .bin .lss (.t 128) (.t 129), some (122, true)⟩,
                     ⟨some 131, .pick (.t 122) (.t 130) (.c (.bool false)), none⟩]) (
                   (.cond (.t 131) (
                    .region [] [
                      ⟨some 132, .mv (.t 10), none⟩,
                      ⟨some 133, .mv (.t 8), none⟩,
                      ⟨some 134, .lit 1 [(.int .i64 0)] 1 [(0, 1, (.t 133))], none⟩,
                      ⟨some 135, .app 6 1 8 (.t 132) (.t 134), none⟩,
                      ⟨some 10, .mv (.t 135), none⟩]) (
                    .skip))))) (
                  (.seq (
                   .region [] [
                     ⟨some 136, .mv (.t 10), none⟩,
                     ⟨some 137, .mv (.t 9), none⟩,
                     ⟨some 138, .litf 1 [.nilsl] 2 [(0, 1, (.t 136)), (1, 1, (.t 137))], none⟩,
                     ⟨some 139, .len (.t 138), none⟩,
                     ⟨some 140, .mv (.c (.int .i64 0)), none⟩]) (
                   (.block 4 (
                    (.loop (
                     (.seq (
                      .region [] [
                        ⟨some 141, .bin .lss (.t 140) (.t 139), none⟩]) (
                      (.seq (
                       (.cond (.t 141) (
                        .skip) (
                        .exit 4))) (
                       (.seq (
                        (.block 5 (
                         (.seq (
                          .region [] [
                            ⟨some 142, .elemAddr 1 (.t 138) (.t 140), none⟩,
                            ⟨some 143, .load false 1 (.t 142), none⟩,
                            ⟨some 14, .mv (.t 143), none⟩]) (
                          (.seq (
                           .region [] [
                             ⟨some 144, .mv (.t 0), none⟩,
                             ⟨some 145, .load true 2 (.t 3), none⟩,
                             ⟨some 146, .mv (.t 14), none⟩,
                             ⟨some 147, .call 0 (.c (.fn 19 [])) [(.t 144), (.t 145), (.t 146)], none⟩,
                             ⟨some 15, .mv (.t 147), none⟩]) (
                           (.seq (
                            .region [] [
                              ⟨some 148, .mv (.t 15), none⟩,
                              ⟨some 149, .mv (.t 7), none⟩,
                              ⟨some 150, .bin .lss (.t 148) (.t 149), none⟩,
                              ⟨some 151, .mv (.t 150), none⟩,
                              ⟨some 152, .mv (.t 15), some (151, false)⟩,
                              ⟨some 153, .mv (.t 7), some (151, false)⟩,
                              ⟨some 154, .bin .eql (.t 152) (.t 153), some (151, false)⟩,
                              ⟨some 155, .mv (.t 154), some (151, false)⟩,
                              ⟨some 156, .mv (.t 14), some (155, true)⟩,
                              ⟨some 157, .mv (.t 5), some (155, true)⟩,
                              ⟨some 158, .call 0 (.c (.fn 20 [])) [(.t 156), (.t 157)], some (155, true)⟩,
                              ⟨some 159, .pick (.t 155) (.t 158) (.c (.bool false)), some (151, false)⟩,
                              ⟨some 160, .pick (.t 151) (.c (.bool true)) (.t 159), none⟩]) (
                            (.cond (.t 160) (
                             (.seq (
                              .region [] [
                                ⟨some 4, .mv (.c (.bool false)), none⟩]) (
                              .ret))) (
                             .skip))))))))))) (
                        .region [] [
                          ⟨some 161, .bin .add (.t 140) (.c (.int .i64 1)), none⟩,
                          ⟨some 140, .mv (.t 161), none⟩]))))))))))))))))))))))) (
             .region [] [
               ⟨some 61, .mv (.t 8), none⟩,
               ⟨some 62, .bin .add (.t 61) (.c (.int .i64 1)), none⟩,
               ⟨some 8, .mv (.t 62), none⟩]))))))))))) (
        (.seq (
         .region [] [
           ⟨some 162, .mv (.t 7), none⟩,
           ⟨some 163, .bin .lss (.t 162) (.c (.int .i64 1125899906842624)), none⟩,
           ⟨some 4, .mv (.t 163), none⟩]) (
         .ret))))))))))))))))⟩

def a7 : AFunc := ⟨[.tmp 4],
 (.seq (
  .region [] [
    ⟨some 3, .box 1 (.t 1), none⟩,
    ⟨some 4, .mv (.c (.bool false)), none⟩]) (
  (.seq (
   .region [] [
     ⟨some 10, .mv (.t 0), none⟩,
     ⟨some 11, .mv (.t 0), none⟩,
     ⟨some 12, .len (.t 11), none⟩,
     ⟨some 13, .mm false [(.t 12), (.c (.int .i64 60))], none⟩,
     ⟨some 14, .sub 4 (.t 10) none (some (.t 13)) none, none⟩,
     ⟨some 0, .mv (.t 14), none⟩]) (
   (.seq (
    .region [] [
      ⟨some 16, .mv (.t 0), none⟩,
      ⟨some 17, .load true 2 (.t 3), none⟩,
      ⟨some 18, .call 0 (.c (.fn 14 [])) [(.t 16), (.t 17)], none⟩,
      ⟨some 15, .mv (.t 18), none⟩,
      ⟨some 19, .ext (.t 15) 0, none⟩,
      ⟨some 20, .ext (.t 15) 1, none⟩,
      ⟨some 5, .mv (.t 19), none⟩,
      ⟨some 6, .mv (.t 20), none⟩]) (
    (.seq (
     (.seq (
      .region [] [
        ⟨some 21, .call 0 (.c (.fn 11 [])) [], none⟩,
        ⟨some 22, .not (.t 21), none⟩,
        ⟨some 23, .mv (.t 22), none⟩,
        ⟨some 24, .mv (.t 6), some (23, false)⟩,
        ⟨some 25, .bin .neq (.t 24) (.c (.int .i64 0)), some (23, false)⟩,
        ⟨some 26, .pick (.t 23) (.c (.bool true)) (.t 25), none⟩]) (
      (.cond (.t 26) (
       (.seq (
        .region [] [
          ⟨some 27, .call 0 (.c (.fn 11 [])) [], none⟩,
          ⟨some 4, .mv (.t 27), none⟩]) (
        .ret))) (
       .skip))))) (
     (.seq (
      .region [] [
        ⟨some 28, .mkmap 2, none⟩,
        ⟨some 7, .mv (.t 28), none⟩]) (
      (.seq (
       (.seq (
        .region [] [
          ⟨some 8, .mv (.c (.int .i64 0)), none⟩]) (
        (.block 0 (
         (.loop (
          (.seq (
           (.seq (
            .region [] [
              ⟨some 29, .mv (.t 8), none⟩,
              ⟨some 30, .mv (.t 5), none⟩,
              ⟨some 31, .len (.t 30), none⟩,
              ⟨some 32, .bin .lss (.t 29) (.t 31), none⟩]) (
            (.cond (.t 32) (
             .skip) (
             .exit 0))))) (
           (.seq (
            (.block 1 (
             .region [] [
               ⟨some 35, .mv (.t 7), none⟩,
               ⟨some 36, .mv (.t 5), none⟩,
               ⟨some 37, .mv (.t 8), none⟩,
               ⟨some 38, .elemAddr 1 (.t 36) (.t 37), none⟩,
               ⟨some 39, .load false 1 (.t 38), none⟩,
               ⟨none, .mput .int (.t 35) (.t 39) (.c (.bool true)), none⟩]))) (
            .region [] [
              ⟨some 33, .mv (.t 8), none⟩,
              ⟨some 34, .bin .add (.t 33) (.c (.int .i64 1)), none⟩,
              ⟨some 8, .mv (.t 34), none⟩]))))))))))) (
       (.seq (
        (.seq (
         .region [] [
           ⟨some 9, .mv (.c (.int .i64 1)), none⟩]) (
         (.block 2 (
          (.loop (
           (.seq (
            (.seq (
             .region [] [
               ⟨some 40, .mv (.t 9), none⟩,
               ⟨some 41, .mv (.t 0), none⟩,
               ⟨some 42, .len (.t 41), none⟩,
               ⟨some 43, .bin .lss (.t 40) (.t 42), none⟩]) (
             (.cond (.t 43) (
              .skip) (
              .exit 2))))) (
            (.seq (
             (.block 3 (
              (.seq (
               .region [] [
                 ⟨some 46, .mv (.t 0), none⟩,
                 ⟨some 47, .mv (.t 9), none⟩,
                 ⟨some 48, .elemAddr 4 (.t 46) (.t 47), none⟩,
                 ⟨some 49, .fieldAddr 3 (.t 48), none⟩,
                 ⟨some 50, .load false 1 (.t 49), none⟩,
                 ⟨some 51, .bin .eql (.t 50) (.c (.int .i64 2)), none⟩,
                 ⟨some 52, .mv (.t 51), none⟩,
                 ⟨some 53, .mv (.t 7), some (52, true)⟩,
                 ⟨some 54, .mv (.t 9), some (52, true)⟩,
                 ⟨some 55, .mget .int false (.bool false) (.t 53) (.t 54), some (52, true)⟩,
                 ⟨some 56, .not (.t 55), some (52, true)⟩,
                 ⟨some 57, .pick (.t 52) (.t 56) (.c (.bool false)), none⟩,
                 ⟨some 58, .mv (.t 57), none⟩,
                 ⟨some 59, .mv (.t 0), some (58, false)⟩,
                 ⟨some 60, .mv (.t 9), some (58, false)⟩,
                 ⟨some 61, .elemAddr 4 (.t 59) (.t 60), some (58, false)⟩,
                 ⟨some 62, .fieldAddr 3 (.t 61), some (58, false)⟩,
                 ⟨some 63, .load false 1 (.t 62), some (58, false)⟩,
                 ⟨some 64, .bin .eql (.t 63) (.c (.int .i64 3)), some (58, false)⟩,
                 ⟨some 65, .mv (.t 64), some (58, false)⟩,
                 ⟨some 66, .mv (.t 7), some (65, true)⟩,
                 ⟨some 67, .mv (.t 9), some (65, true)⟩,
                 ⟨some 68, .mget .int false (.bool false) (.t 66) (.t 67), some (65, true)⟩,
                 ⟨some 69, .pick (.t 65) (.t 68) (.c (.bool false)), some (58, false)⟩,
                 ⟨some 70, .pick (.t 58) (.c (.bool true)) (.t 69), none⟩]) (
               (.cond (.t 70) (
                (.seq (
                 .region [] [
                   ⟨some 4, .mv (.c (.bool false)), none⟩]) (
                 .ret))) (
                .skip))))))) (
             .region [] [
               ⟨some 44, .mv (.t 9), none⟩,
               ⟨some 45, .bin .add (.t 44) (.c (.int .i64 1)), none⟩,
               ⟨some 9, .mv (.t 45), none⟩]))))))))))) (
        (.seq (
         .region [] [
           ⟨some 4, .mv (.c (.bool true)), none⟩]) (
         .ret))))))))))))))))⟩

def a8 : AFunc := ⟨[.tmp 6],
 (.seq (
  .region [] [
    ⟨some 4, .box 1 (.t 1), none⟩,
    ⟨some 6, .mv (.c (.bool false)), none⟩]) (
  (.seq (
   .region [] [
     ⟨some 18, .mv (.t 0), none⟩,
     ⟨some 19, .mv (.t 0), none⟩,
     ⟨some 20, .len (.t 19), none⟩,
     ⟨some 21, .mm false [(.t 20), (.c (.int .i64 9))], none⟩,
     ⟨some 22, .sub 4 (.t 18) none (some (.t 21)) none, none⟩,
     ⟨some 23, .mv (.t 2), none⟩,
     ⟨some 24, .mv (.t 2), none⟩,
     ⟨some 25, .len (.t 24), none⟩,
     ⟨some 26, .mm false [(.t 25), (.c (.int .i64 9))], none⟩,
     ⟨some 27, .sub 1 (.t 23) none (some (.t 26)) none, none⟩,
     ⟨some 0, .mv (.t 22), none⟩,
     ⟨some 2, .mv (.t 27), none⟩]) (
   (.seq (
    .region [] [
      ⟨some 29, .mv (.t 0), none⟩,
      ⟨some 30, .load true 2 (.t 4), none⟩,
      ⟨some 31, .mv (.t 2), none⟩,
      ⟨some 32, .call 0 (.c (.fn 21 [])) [(.t 29), (.t 30), (.t 31)], none⟩,
      ⟨some 28, .mv (.t 32), none⟩,
      ⟨some 33, .ext (.t 28) 0, none⟩,
      ⟨some 34, .ext (.t 28) 1, none⟩,
      ⟨some 35, .ext (.t 28) 2, none⟩,
      ⟨some 7, .mv (.t 33), none⟩,
      ⟨some 8, .mv (.t 34), none⟩,
      ⟨some 9, .mv (.t 35), none⟩]) (
    (.seq (
     (.seq (
      .region [] [
        ⟨some 36, .call 0 (.c (.fn 11 [])) [], none⟩,
        ⟨some 37, .not (.t 36), none⟩]) (
      (.cond (.t 37) (
       (.seq (
        .region [] [
          ⟨some 6, .mv (.c (.bool false)), none⟩]) (
        .ret))) (
       .skip))))) (
     (.seq (
      (.seq (
       .region [] [
         ⟨some 38, .mv (.t 0), none⟩,
         ⟨some 39, .load true 2 (.t 4), none⟩,
         ⟨some 40, .call 0 (.c (.fn 13 [])) [(.t 38), (.t 39)], none⟩,
         ⟨some 10, .mv (.t 40), none⟩]) (
       (.seq (
        .region [] [
          ⟨some 41, .mv (.t 10), none⟩,
          ⟨some 42, .bin .neq (.t 41) (.c (.int .i64 0)), none⟩]) (
        (.cond (.t 42) (
         (.seq (
          .region [] [
            ⟨some 43, .mv (.t 7), none⟩,
            ⟨some 44, .len (.t 43), none⟩,
            ⟨some 45, .bin .eql (.t 44) (.c (.int .i64 0)), none⟩,
            ⟨some 46, .mv (.t 45), none⟩,
            ⟨some 47, .mv (.t 8), some (46, true)⟩,
            ⟨some 48, .len (.t 47), some (46, true)⟩,
            ⟨some 49, .bin .eql (.t 48) (.c (.int .i64 0)), some (46, true)⟩,
            ⟨some 50, .pick (.t 46) (.t 49) (.c (.bool false)), none⟩,
            ⟨some 51, .mv (.t 50), none⟩,
            ⟨some 52, .mv (.t 9), some (51, true)⟩,
            ⟨some 53, .mv (.t 10), some (51, true)⟩,
            ⟨some 54, .bin .eql (.t 52) (.t 53), some (51, true)⟩,
            ⟨some 55, .pick (.t 51) (.t 54) (.c (.bool false)), none⟩,
            ⟨some 6, .mv (.t 55), none⟩]) (
          .ret))) (
         .skip))))))) (
      (.seq (
       (.seq (
        .region [] [
          ⟨some 56, .mv (.t 2), none⟩,
          ⟨some 57, .mv (.t 0), none⟩,
          ⟨some 58, .len (.t 57), none⟩,
          ⟨some 59, .call 0 (.c (.fn 18 [])) [(.t 56), (.t 58)], none⟩,
          ⟨some 60, .not (.t 59), none⟩]) (
        (.cond (.t 60) (
         (.seq (
          .region [] [
            ⟨some 61, .mv (.t 7), none⟩,
            ⟨some 62, .len (.t 61), none⟩,
            ⟨some 63, .bin .eql (.t 62) (.c (.int .i64 0)), none⟩,
            ⟨some 64, .mv (.t 63), none⟩,
            ⟨some 65, .mv (.t 8), some (64, true)⟩,
            ⟨some 66, .len (.t 65), some (64, true)⟩,
            ⟨some 67, .bin .eql (.t 66) (.c (.int .i64 0)), some (64, true)⟩,
            ⟨some 68, .pick (.t 64) (.t 67) (.c (.bool false)), none⟩,
            ⟨some 69, .mv (.t 68), none⟩,
            ⟨some 70, .mv (.t 9), some (69, true)⟩,
            ⟨some 71, .bin .eql (.t 70) (.c (.int .i64 25)), some (69, true)⟩,
            ⟨some 72, .pick (.t 69) (.t 71) (.c (.bool false)), none⟩,
            ⟨some 6, .mv (.t 72), none⟩]) (
          .ret))) (
         .skip))))) (
       (.seq (
        (.seq (
         .region [] [
           ⟨some 73, .mv (.t 9), none⟩,
           ⟨some 74, .bin .neq (.t 73) (.c (.int .i64 0)), none⟩,
           ⟨some 75, .mv (.t 74), none⟩,
           ⟨some 76, .mv (.t 7), some (75, false)⟩,
           ⟨some 77, .len (.t 76), some (75, false)⟩,
           ⟨some 78, .mv (.t 2), some (75, false)⟩,
           ⟨some 79, .len (.t 78), some (75, false)⟩,
           ⟨some 80, .bin .quo (.t 79) (.c (.int .i64 2)), some (75, false)⟩,
           ⟨some 81, .bin .neq (.t 77) (.t 80), some (75, false)⟩,
           ⟨some 82, .pick (.t 75) (.c (.bool true)) (.t 81), none⟩,
           ⟨some 83, .mv (.t 82), none⟩,
           ⟨some 84, .mv (.t 8), some (83, false)⟩,
           ⟨some 85, .len (.t 84), some (83, false)⟩,
           ⟨some 86, .mv (.t 7), some (83, false)⟩,
           ⟨some 87, .len (.t 86), some (83, false)⟩,
           ⟨some 88, .bin .neq (.t 85) (.t 87), some (83, false)⟩,
           ⟨some 89, .pick (.t 83) (.c (.bool true)) (.t 88), none⟩]) (
         (.cond (.t 89) (
          (.seq (
           .region [] [
             ⟨some 6, .mv (.c (.bool false)), none⟩]) (
           .ret))) (
          .skip))))) (
        (.seq (
         (.seq (
          .region [] [
            ⟨some 11, .mv (.c (.int .i64 0)), none⟩]) (
          (.block 0 (
           (.loop (
            (.seq (
             (.seq (
              .region [] [
                ⟨some 90, .mv (.t 11), none⟩,
                ⟨some 91, .mv (.t 7), none⟩,
                ⟨some 92, .len (.t 91), none⟩,
                ⟨some 93, .bin .lss (.t 90) (.t 92), none⟩]) (
              (.cond (.t 93) (
               .skip) (
               .exit 0))))) (
             (.seq (
              (.block 1 (
               (.seq (
                .region [] [
                  ⟨some 96, .mv (.t 7), none⟩,
                  ⟨some 97, .mv (.t 11), none⟩,
                  ⟨some 98, .elemAddr 1 (.t 96) (.t 97), none⟩,
                  ⟨some 99, .load false 1 (.t 98), none⟩,
                  ⟨some 100, .mv (.t 11), none⟩,
                  ⟨some 101, .bin .mul (.c (.int .i64 2)) (.t 100), none⟩,
                  ⟨some 102, .bin .neq (.t 99) (.t 101), none⟩,
                  ⟨some 103, .mv (.t 102), none⟩,
                  ⟨some 104, .mv (.t 8), some (103, false)⟩,
                  ⟨some 105, .mv (.t 11), some (103, false)⟩,
                  ⟨some 106, .elemAddr 1 (.t 104) (.t 105), some (103, false)⟩,
                  ⟨some 107, .load false 1 (.t 106), some (103, false)⟩,
                  ⟨some 108, .mv (.t 0), some (103, false)⟩,
                  ⟨some 109, .mv (.t 2), some (103, false)⟩,
                  ⟨some 110, .mv (.t 11), some (103, false)⟩,
                  ⟨some 111, .bin .mul (.c (.int .i64 2)) (.t 110), some (103, false)⟩,
                  ⟨some 112, .bin .add (.t 111) (.c (.int .i64 1)), some (103, false)⟩,
                  ⟨some 113, .elemAddr 1 (.t 109) (.t 112), some (103, false)⟩,
                  ⟨some 114, .load false 1 (.t 113), some (103, false)⟩,
                  ⟨some 115, .bin .sub (.t 114) (.c (.int .i64 1)), some (103, false)⟩,
                  ⟨some 116, .elemAddr 4 (.t 108) (.t 115), some (103, false)⟩,
                  ⟨some 117, .fieldAddr 2 (.t 116), some (103, false)⟩,
                  ⟨some 118, .load false 1 (.t 117), some (103, false)⟩,
                  ⟨some 119, .fieldAddr 1 (.t 4), some (103, false)⟩,
                  ⟨some 120, .load false 1 (.t 119), some (103, false)⟩,
                  ⟨some 121, .bin .geq (.t 118) (.t 120), some (103, false)⟩,
                  ⟨some 122, .eqb true (.t 107) (.t 121), some (103, false)⟩,
                  ⟨some 123, .pick (.t 103) (.c (.bool true)) (.t 122), none⟩]) (
                (.cond (.t 123) (
                 (.seq (
                  .region [] [
                    ⟨some 6, .mv (.c (.bool false)), none⟩]) (
                  .ret))) (
                 .skip))))))) (
              .region [] [
                ⟨some 94, .mv (.t 11), none⟩,
                ⟨some 95, .bin .add (.t 94) (.c (.int .i64 1)), none⟩,
                ⟨some 11, .mv (.t 95), none⟩]))))))))))) (
         (.seq (
          .region [] [
            ⟨some 125, .mv (.t 0), none⟩,
            ⟨some 126, .load true 2 (.t 4), none⟩,
            ⟨some 127, .call 0 (.c (.fn 14 [])) [(.t 125), (.t 126)], none⟩,
            ⟨some 124, .mv (.t 127), none⟩,
            ⟨some 128, .ext (.t 124) 0, none⟩,
            ⟨some 129, .ext (.t 124) 1, none⟩,
            ⟨some 12, .mv (.t 128), none⟩,
            ⟨some 13, .mv (.t 129), none⟩]) (
          (.seq (
           (.seq (
            .region [] [
              ⟨some 130, .mv (.t 13), none⟩,
              ⟨some 131, .bin .neq (.t 130) (.c (.int .i64 0)), none⟩,
              ⟨some 132, .mv (.t 131), none⟩,
              ⟨some 133, .mv (.t 12), some (132, false)⟩,
              ⟨some 134, .mv (.t 0), some (132, false)⟩,
              ⟨some 135, .len (.t 134), some (132, false)⟩,
              ⟨some 136, .call 0 (.c (.fn 18 [])) [(.t 133), (.t 135)], some (132, false)⟩,
              ⟨some 137, .not (.t 136), some (132, false)⟩,
              ⟨some 138, .pick (.t 132) (.c (.bool true)) (.t 137), none⟩,
              ⟨some 139, .mv (.t 138), none⟩,
              ⟨some 140, .mv (.t 0), some (139, false)⟩,
              ⟨some 141, .load true 2 (.t 4), some (139, false)⟩,
              ⟨some 142, .mv (.t 12), some (139, false)⟩,
              ⟨some 143, .call 0 (.c (.fn 19 [])) [(.t 140), (.t 141), (.t 142)], some (139, false)⟩,
              ⟨some 144, .bin .geq (.t 143) (.c (.int .i64 1048576)), some (139, false)⟩,
              ⟨some 145, .pick (.t 139) (.c (.bool true)) (.t 144), none⟩,
              ⟨some 146, .mv (.t 145), none⟩,
              ⟨some 147, .fieldAddr 1 (.t 4), some (146, false)⟩,
              ⟨some 148, .load false 1 (.t 147), some (146, false)⟩,
              ⟨some 149, .bin .eql (.t 148) (.c (.int .i64 0)), some (146, false)⟩,
              ⟨some 150, .pick (.t 146) (.c (.bool true)) (.t 149), none⟩]) (
            (.cond (.t 150) (
             (.seq (
              .region [] [
                ⟨some 151, .mv (.t 13), none⟩,
                ⟨some 152, .bin .neq (.t 151) (.c (.int .i64 0)), none⟩,
                ⟨some 153, .mv (.t 152), none⟩,
                ⟨some 154, .mv (.t 12), some (153, false)⟩,
                ⟨some 155, .mv (.t 0), some (153, false)⟩,
                ⟨some 156, .len (.t 155), some (153, false)⟩,
                ⟨some 157, .call 0 (.c (.fn 18 [])) [(.t 154), (.t 156)], some (153, false)⟩,
                ⟨some 158, .pick (.t 153) (.c (.bool true)) (.t 157), none⟩,
                ⟨some 6, .mv (.t 158), none⟩]) (
              .ret))) (
             .skip))))) (
           (.seq (
            .region [] [
              ⟨some 160, .mv (.t 0), none⟩,
              ⟨some 161, .load true 2 (.t 4), none⟩,
              ⟨some 162, .mv (.t 12), none⟩,
              ⟨some 163, .call 0 (.c (.fn 21 [])) [(.t 160), (.t 161), (.t 162)], none⟩,
              ⟨some 159, .mv (.t 163), none⟩,
              ⟨some 164, .ext (.t 159) 0, none⟩,
              ⟨some 165, .ext (.t 159) 1, none⟩,
              ⟨some 166, .ext (.t 159) 2, none⟩,
              ⟨some 14, .mv (.t 164), none⟩,
              ⟨some 15, .mv (.t 165), none⟩,
              ⟨some 16, .mv (.t 166), none⟩]) (
            (.seq (
             (.seq (
              .region [] [
                ⟨some 17, .mv (.c (.int .i64 0)), none⟩]) (
              (.block 2 (
               (.loop (
                (.seq (
                 (.seq (
                  .region [] [
                    ⟨some 167, .mv (.t 17), none⟩,
                    ⟨some 168, .mv (.t 15), none⟩,
                    ⟨some 169, .len (.t 168), none⟩,
                    ⟨some 170, .bin .lss (.t 167) (.t 169), none⟩]) (
                  (.cond (.t 170) (
                   .skip) (
                   .exit 2))))) (
                 (.seq (
                  (.block 3 (
                   (.seq (
                    .region [] [
                      ⟨some 173, .mv (.t 15), none⟩,
                      ⟨some 174, .mv (.t 17), none⟩,
                      ⟨some 175, .elemAddr 1 (.t 173) (.t 174), none⟩,
                      ⟨some 176, .load false 1 (.t 175), none⟩,
                      ⟨some 177, .not (.t 176), none⟩]) (
                    (.cond (.t 177) (
                     (.seq (
                      .region [] [
                        ⟨some 6, .mv (.c (.bool false)), none⟩]) (
                      .ret))) (
                     .skip))))))) (
                  .region [] [
                    ⟨some 171, .mv (.t 17), none⟩,
                    ⟨some 172, .bin .add (.t 171) (.c (.int .i64 1)), none⟩,
                    ⟨some 17, .mv (.t 172), none⟩]))))))))))) (
             (.seq (
              .region [] [
                ⟨some 178, .mv (.t 16), none⟩,
                ⟨some 179, .bin .eql (.t 178) (.c (.int .i64 0)), none⟩,
                ⟨some 6, .mv (.t 179), none⟩]) (
              .ret))))))))))))))))))))))))))⟩

def a9 : AFunc := ⟨[.tmp 6],
 (.seq (
  .region [] [
    ⟨some 4, .box 1 (.t 1), none⟩,
    ⟨some 5, .box 2 (.t 2), none⟩,
    ⟨some 6, .mv (.c (.bool false)), none⟩]) (
  (.seq (
   .region [] [
     ⟨some 16, .mv (.t 0), none⟩,
     ⟨some 17, .mv (.t 0), none⟩,
     ⟨some 18, .len (.t 17), none⟩,
     ⟨some 19, .mm false [(.t 18), (.c (.int .i64 30))], none⟩,
     ⟨some 20, .sub 4 (.t 16) none (some (.t 19)) none, none⟩,
     ⟨some 0, .mv (.t 20), none⟩]) (
   (.seq (
    .region [] [
      ⟨some 22, .mv (.t 0), none⟩,
      ⟨some 23, .fieldAddr 0 (.t 5), none⟩,
      ⟨some 24, .load false 1 (.t 23), none⟩,
      ⟨some 25, .fieldAddr 1 (.t 5), none⟩,
      ⟨some 26, .load false 1 (.t 25), none⟩,
      ⟨some 27, .call 0 (.c (.fn 22 [])) [(.t 22), (.t 24), (.t 26)], none⟩,
      ⟨some 21, .mv (.t 27), none⟩,
      ⟨some 28, .ext (.t 21) 0, none⟩,
      ⟨some 29, .ext (.t 21) 1, none⟩,
      ⟨some 7, .mv (.t 28), none⟩,
      ⟨some 8, .mv (.t 29), none⟩]) (
    (.seq (
     .region [] [
       ⟨some 31, .mv (.t 0), none⟩,
       ⟨some 32, .load true 2 (.t 4), none⟩,
       ⟨some 33, .fieldAddr 0 (.t 5), none⟩,
       ⟨some 34, .load false 1 (.t 33), none⟩,
       ⟨some 35, .fieldAddr 1 (.t 5), none⟩,
       ⟨some 36, .load false 1 (.t 35), none⟩,
       ⟨some 37, .fieldAddr 2 (.t 5), none⟩,
       ⟨some 38, .load false 1 (.t 37), none⟩,
       ⟨some 39, .call 0 (.c (.fn 23 [])) [(.t 31), (.t 32), (.t 34), (.t 36), (.t 38), (.c (.bool false))], none⟩,
       ⟨some 30, .mv (.t 39), none⟩,
       ⟨some 40, .ext (.t 30) 0, none⟩,
       ⟨some 41, .ext (.t 30) 1, none⟩,
       ⟨some 9, .mv (.t 40), none⟩,
       ⟨some 10, .mv (.t 41), none⟩]) (
     (.seq (
      .region [] [
        ⟨some 43, .mv (.t 0), none⟩,
        ⟨some 44, .load true 2 (.t 4), none⟩,
        ⟨some 45, .fieldAddr 0 (.t 5), none⟩,
        ⟨some 46, .load false 1 (.t 45), none⟩,
        ⟨some 47, .fieldAddr 1 (.t 5), none⟩,
        ⟨some 48, .load false 1 (.t 47), none⟩,
        ⟨some 49, .fieldAddr 2 (.t 5), none⟩,
        ⟨some 50, .load false 1 (.t 49), none⟩,
        ⟨some 51, .call 0 (.c (.fn 23 [])) [(.t 43), (.t 44), (.t 46), (.t 48), (.t 50), (.c (.bool true))], none⟩,
        ⟨some 42, .mv (.t 51), none⟩,
        ⟨some 52, .ext (.t 42) 0, none⟩,
        ⟨some 53, .ext (.t 42) 1, none⟩,
        ⟨some 11, .mv (.t 52), none⟩,
        ⟨some 12, .mv (.t 53), none⟩]) (
      (.seq (
       (.seq (
        .region [] [
          ⟨some 54, .call 0 (.c (.fn 11 [])) [], none⟩,
          ⟨some 55, .not (.t 54), none⟩]) (
        (.cond (.t 55) (
         (.seq (
          .region [] [
            ⟨some 6, .mv (.c (.bool false)), none⟩]) (
          .ret))) (
         .skip))))) (
       (.seq (
        .region [] [
          ⟨some 56, .fieldAddr 0 (.t 5), none⟩,
          ⟨some 57, .load false 1 (.t 56), none⟩,
          ⟨some 58, .bin .lss (.t 57) (.c (.int .i64 0)), none⟩,
          ⟨some 59, .mv (.t 58), none⟩,
          ⟨some 60, .fieldAddr 1 (.t 5), some (59, false)⟩,
          ⟨some 61, .load false 1 (.t 60), some (59, false)⟩,
          ⟨some 62, .fieldAddr 0 (.t 5), some (59, false)⟩,
          ⟨some 63, .load false 1 (.t 62), some (59, false)⟩,
          ⟨some 64, .bin .lss (.t 61) (.t 63), some (59, false)⟩,
          ⟨some 65, .pick (.t 59) (.c (.bool true)) (.t 64), none⟩,
          ⟨some 66, .mv (.t 65), none⟩,
          ⟨some 67, .fieldAddr 1 (.t 5), some (66, false)⟩,
          ⟨some 68, .load false 1 (.t 67), some (66, false)⟩,
          ⟨some 69, .mv (.t 0), some (66, false)⟩,
          ⟨some 70, .len (.t 69), some (66, false)⟩,
          ⟨some 71, .bin .geq (.t 68) (.t 70), some (66, false)⟩,
          ⟨some 72, .pick (.t 66) (.c (.bool true)) (.t 71), none⟩,
          ⟨some 13, .mv (.t 72), none⟩]) (
        (.seq (
         .region [] [
           ⟨some 73, .mv (.t 0), none⟩,
           ⟨some 74, .load true 2 (.t 4), none⟩,
           ⟨some 75, .call 0 (.c (.fn 13 [])) [(.t 73), (.t 74)], none⟩,
           ⟨some 76, .mv (.t 0), none⟩,
           ⟨some 77, .build [(.int .i64 0), (.int .i64 0)] [(0, 1, (.c (.int .i64 1)))], none⟩,
           ⟨some 78, .call 0 (.c (.fn 13 [])) [(.t 76), (.t 77)], none⟩,
           ⟨some 14, .mv (.t 75), none⟩,
           ⟨some 15, .mv (.t 78), none⟩]) (
         (.seq (
          (.seq (
           .region [] [
             ⟨some 79, .mv (.t 15), none⟩,
             ⟨some 80, .bin .eql (.t 79) (.c (.int .i64 0)), none⟩,
             ⟨some 81, .mv (.t 80), none⟩,
             ⟨some 82, .mv (.t 13), some (81, true)⟩,
             ⟨some 83, .pick (.t 81) (.t 82) (.c (.bool false)), none⟩]) (
           (.cond (.t 83) (
            .region [] [
              ⟨some 15, .mv (.c (.int .i64 2)), none⟩]) (
            .skip))))) (
          (.seq (
           (.seq (
            .region [] [
              ⟨some 84, .mv (.t 14), none⟩,
              ⟨some 85, .bin .eql (.t 84) (.c (.int .i64 0)), none⟩,
              ⟨some 86, .mv (.t 85), none⟩,
              ⟨some 87, .mv (.t 13), some (86, true)⟩,
              ⟨some 88, .mv (.t 87), some (86, true)⟩,
              ⟨some 89, .fieldAddr 2 (.t 5), some (88, false)⟩,
              ⟨some 90, .load false 1 (.t 89), some (88, false)⟩,
              ⟨some 91, .bin .lss (.t 90) (.c (.int .i64 0)), some (88, false)⟩,
              ⟨some 92, .pick (.t 88) (.c (.bool true)) (.t 91), some (86, true)⟩,
              ⟨some 93, .pick (.t 86) (.t 92) (.c (.bool false)), none⟩]) (
            (.cond (.t 93) (
             .region [] [
               ⟨some 14, .mv (.c (.int .i64 2)), none⟩]) (
             .skip))))) (
           (.seq (
            (.seq (
             .region [] [
               ⟨some 94, .mv (.t 8), none⟩,
               ⟨some 95, .mv (.t 15), none⟩,
               ⟨some 96, .bin .neq (.t 94) (.t 95), none⟩,
               ⟨some 97, .mv (.t 96), none⟩,
               ⟨some 98, .mv (.t 10), some (97, false)⟩,
               ⟨some 99, .mv (.t 14), some (97, false)⟩,
               ⟨some 100, .bin .neq (.t 98) (.t 99), some (97, false)⟩,
               ⟨some 101, .pick (.t 97) (.c (.bool true)) (.t 100), none⟩,
               ⟨some 102, .mv (.t 101), none⟩,
               ⟨some 103, .mv (.t 12), some (102, false)⟩,
               ⟨some 104, .mv (.t 14), some (102, false)⟩,
               ⟨some 105, .bin .neq (.t 103) (.t 104), some (102, false)⟩,
               ⟨some 106, .pick (.t 102) (.c (.bool true)) (.t 105), none⟩,
               ⟨some 107, .mv (.t 106), none⟩,
               ⟨some 108, .mv (.t 15), some (107, false)⟩,
               ⟨some 109, .bin .neq (.t 108) (.c (.int .i64 0)), some (107, false)⟩,
               ⟨some 110, .mv (.t 109), some (107, false)⟩,
               ⟨some 111, .mv (.t 7), some (110, true)⟩,
               ⟨some 112, .bin .neq (.t 111) (.c (.int .i64 0)), some (110, true)⟩,
               ⟨some 113, .pick (.t 110) (.t 112) (.c (.bool false)), some (107, false)⟩,
               ⟨some 114, .pick (.t 107) (.c (.bool true)) (.t 113), none⟩,
               ⟨some 115, .mv (.t 114), none⟩,
               ⟨some 116, .mv (.t 15), some (115, false)⟩,
               ⟨some 117, .bin .eql (.t 116) (.c (.int .i64 0)), some (115, false)⟩,
               ⟨some 118, .mv (.t 117), some (115, false)⟩,
               ⟨some 119, .mv (.t 7), some (118, true)⟩,
               ⟨some 120, .mv (.t 0), some (118, true)⟩,
               ⟨some 121, .fieldAddr 0 (.t 5), some (118, true)⟩,
               ⟨some 122, .load false 1 (.t 121), some (118, true)⟩,
               ⟨some 123, .fieldAddr 1 (.t 5), some (118, true)⟩,
               ⟨some 124, .load false 1 (.t 123), some (118, true)⟩,
               ⟨some 125, .call 0 (.c (.fn 24 [])) [(.t 120), (.t 122), (.t 124)], some (118, true)⟩,
               ⟨some 126, .bin .neq (.t 119) (.t 125), some (118, true)⟩,
               ⟨some 127, .pick (.t 118) (.t 126) (.c (.bool false)), some (115, false)⟩,
               ⟨some 128, .pick (.t 115) (.c (.bool true)) (.t 127), none⟩]) (
             (.cond (.t 128) (
              (.seq (
               .region [] [
                 ⟨some 6, .mv (.c (.bool false)), none⟩]) (
               .ret))) (
              .skip))))) (
            (.seq (
             (.seq (
              .region [] [
                ⟨some 129, .mv (.t 14), none⟩,
                ⟨some 130, .bin .neq (.t 129) (.c (.int .i64 0)), none⟩]) (
              (.cond (.t 130) (
               (.seq (
                .region [] [
                  ⟨some 131, .mv (.t 9), none⟩,
                  ⟨some 132, .bin .eql (.t 131) (.c (.int .i64 0)), none⟩,
                  ⟨some 133, .mv (.t 132), none⟩,
                  ⟨some 134, .mv (.t 11), some (133, true)⟩,
                  ⟨some 135, .bin .eql (.t 134) (.c (.int .i64 0)), some (133, true)⟩,
                  ⟨some 136, .pick (.t 133) (.t 135) (.c (.bool false)), none⟩,
                  ⟨some 6, .mv (.t 136), none⟩]) (
                .ret))) (
               .skip))))) (
             (.seq (
              .region [] [
                ⟨some 137, .mv (.t 9), none⟩,
                ⟨some 138, .mv (.t 0), none⟩,
                ⟨some 139, .load true 2 (.t 4), none⟩,
                ⟨some 140, .fieldAddr 0 (.t 5), none⟩,
                ⟨some 141, .load false 1 (.t 140), none⟩,
                ⟨some 142, .fieldAddr 1 (.t 5), none⟩,
                ⟨some 143, .load false 1 (.t 142), none⟩,
                ⟨some 144, .fieldAddr 2 (.t 5), none⟩,
                ⟨some 145, .load false 1 (.t 144), none⟩,
                ⟨some 146, .call 0 (.c (.fn 25 [])) [(.t 138), (.t 139), (.t 141), (.t 143), (.t 145), (.c (.bool false))], none⟩,
                ⟨some 147, .bin .eql (.t 137) (.t 146), none⟩,
                ⟨some 148, .mv (.t 147), none⟩,
                ⟨some 149, .mv (.t 11), some (148, true)⟩,
                ⟨some 150, .mv (.t 0), some (148, true)⟩,
                ⟨some 151, .load true 2 (.t 4), some (148, true)⟩,
                ⟨some 152, .fieldAddr 0 (.t 5), some (148, true)⟩,
                ⟨some 153, .load false 1 (.t 152), some (148, true)⟩,
                ⟨some 154, .fieldAddr 1 (.t 5), some (148, true)⟩,
                ⟨some 155, .load false 1 (.t 154), some (148, true)⟩,
                ⟨some 156, .fieldAddr 2 (.t 5), some (148, true)⟩,
                ⟨some 157, .load false 1 (.t 156), some (148, true)⟩,
                ⟨some 158, .call 0 (.c (.fn 25 [])) [(.t 150), (.t 151), (.t 153), (.t 155), (.t 157), (.c (.bool true))], some (148, true)⟩,
                ⟨some 159, .bin .eql (.t 149) (.t 158), some (148, true)⟩,
                ⟨some 160, .pick (.t 148) (.t 159) (.c (.bool false)), none⟩,
                ⟨some 6, .mv (.t 160), none⟩]) (
              .ret))))))))))))))))))))))))))⟩

def a10 : AFunc := ⟨[.tmp 6],
 (.seq (
  .region [] [
    ⟨some 4, .box 1 (.t 1), none⟩,
    ⟨some 5, .box 2 (.t 2), none⟩,
    ⟨some 6, .mv (.c (.bool false)), none⟩]) (
  (.seq (
   .region [] [
     ⟨some 12, .mv (.t 0), none⟩,
     ⟨some 13, .mv (.t 0), none⟩,
     ⟨some 14, .len (.t 13), none⟩,
     ⟨some 15, .mm false [(.t 14), (.c (.int .i64 30))], none⟩,
     ⟨some 16, .sub 4 (.t 12) none (some (.t 15)) none, none⟩,
     ⟨some 0, .mv (.t 16), none⟩]) (
   (.seq (
    .region [] [
      ⟨some 18, .mv (.t 0), none⟩,
      ⟨some 19, .load true 2 (.t 4), none⟩,
      ⟨some 20, .fieldAddr 0 (.t 5), none⟩,
      ⟨some 21, .load false 1 (.t 20), none⟩,
      ⟨some 22, .fieldAddr 1 (.t 5), none⟩,
      ⟨some 23, .load false 1 (.t 22), none⟩,
      ⟨some 24, .call 0 (.c (.fn 26 [])) [(.t 18), (.t 19), (.t 21), (.t 23), (.c (.bool false))], none⟩,
      ⟨some 17, .mv (.t 24), none⟩,
      ⟨some 25, .ext (.t 17) 0, none⟩,
      ⟨some 26, .ext (.t 17) 1, none⟩,
      ⟨some 7, .mv (.t 25), none⟩,
      ⟨some 8, .mv (.t 26), none⟩]) (
    (.seq (
     .region [] [
       ⟨some 28, .mv (.t 0), none⟩,
       ⟨some 29, .load true 2 (.t 4), none⟩,
       ⟨some 30, .fieldAddr 0 (.t 5), none⟩,
       ⟨some 31, .load false 1 (.t 30), none⟩,
       ⟨some 32, .fieldAddr 1 (.t 5), none⟩,
       ⟨some 33, .load false 1 (.t 32), none⟩,
       ⟨some 34, .call 0 (.c (.fn 26 [])) [(.t 28), (.t 29), (.t 31), (.t 33), (.c (.bool true))], none⟩,
       ⟨some 27, .mv (.t 34), none⟩,
       ⟨some 35, .ext (.t 27) 0, none⟩,
       ⟨some 36, .ext (.t 27) 1, none⟩,
       ⟨some 9, .mv (.t 35), none⟩,
       ⟨some 10, .mv (.t 36), none⟩]) (
     (.seq (
      (.seq (
       .region [] [
         ⟨some 37, .call 0 (.c (.fn 11 [])) [], none⟩,
         ⟨some 38, .not (.t 37), none⟩,
         ⟨some 39, .mv (.t 38), none⟩,
         ⟨some 40, .mv (.t 8), some (39, false)⟩,
         ⟨some 41, .mv (.t 10), some (39, false)⟩,
         ⟨some 42, .bin .neq (.t 40) (.t 41), some (39, false)⟩,
         ⟨some 43, .pick (.t 39) (.c (.bool true)) (.t 42), none⟩]) (
       (.cond (.t 43) (
        (.seq (
         .region [] [
           ⟨some 6, .mv (.c (.bool false)), none⟩]) (
         .ret))) (
        .skip))))) (
      (.seq (
       .region [] [
         ⟨some 44, .mv (.t 0), none⟩,
         ⟨some 45, .load true 2 (.t 4), none⟩,
         ⟨some 46, .call 0 (.c (.fn 13 [])) [(.t 44), (.t 45)], none⟩,
         ⟨some 11, .mv (.t 46), none⟩]) (
       (.seq (
        (.seq (
         .region [] [
           ⟨some 47, .mv (.t 11), none⟩,
           ⟨some 48, .bin .eql (.t 47) (.c (.int .i64 0)), none⟩,
           ⟨some 49, .mv (.t 48), none⟩,
           ⟨some 50, .fieldAddr 0 (.t 5), some (49, true)⟩,
           ⟨some 51, .load false 1 (.t 50), some (49, true)⟩,
           ⟨some 52, .bin .lss (.t 51) (.c (.int .i64 0)), some (49, true)⟩,
           ⟨some 53, .mv (.t 52), some (49, true)⟩,
           ⟨some 54, .fieldAddr 1 (.t 5), some (53, false)⟩,
           ⟨some 55, .load false 1 (.t 54), some (53, false)⟩,
           ⟨some 56, .fieldAddr 0 (.t 5), some (53, false)⟩,
           ⟨some 57, .load false 1 (.t 56), some (53, false)⟩,
           ⟨some 58, .bin .lss (.t 55) (.t 57), some (53, false)⟩,
           ⟨some 59, .pick (.t 53) (.c (.bool true)) (.t 58), some (49, true)⟩,
           ⟨some 60, .mv (.t 59), some (49, true)⟩,
           ⟨some 61, .fieldAddr 1 (.t 5), some (60, false)⟩,
           ⟨some 62, .load false 1 (.t 61), some (60, false)⟩,
           ⟨some 63, .mv (.t 0), some (60, false)⟩,
           ⟨some 64, .len (.t 63), some (60, false)⟩,
           ⟨some 65, .bin .geq (.t 62) (.t 64), some (60, false)⟩,
           ⟨some 66, .pick (.t 60) (.c (.bool true)) (.t 65), some (49, true)⟩,
           ⟨some 67, .pick (.t 49) (.t 66) (.c (.bool false)), none⟩]) (
         (.cond (.t 67) (
          .region [] [
            ⟨some 11, .mv (.c (.int .i64 2)), none⟩]) (
          .skip))))) (
        (.seq (
         (.seq (
          .region [] [
            ⟨some 68, .mv (.t 11), none⟩,
            ⟨some 69, .bin .eql (.t 68) (.c (.int .i64 0)), none⟩,
            ⟨some 70, .mv (.t 69), none⟩,
            ⟨some 71, .mv (.t 0), some (70, true)⟩,
            ⟨some 72, .fieldAddr 0 (.t 5), some (70, true)⟩,
            ⟨some 73, .load false 1 (.t 72), some (70, true)⟩,
            ⟨some 74, .fieldAddr 1 (.t 5), some (70, true)⟩,
            ⟨some 75, .load false 1 (.t 74), some (70, true)⟩,
            ⟨some 76, .call 0 (.c (.fn 24 [])) [(.t 71), (.t 73), (.t 75)], some (70, true)⟩,
            ⟨some 77, .fieldAddr 0 (.t 4), some (70, true)⟩,
            ⟨some 78, .load false 1 (.t 77), some (70, true)⟩,
            ⟨some 79, .bin .gtr (.t 76) (.t 78), some (70, true)⟩,
            ⟨some 80, .pick (.t 70) (.t 79) (.c (.bool false)), none⟩]) (
          (.cond (.t 80) (
           .region [] [
             ⟨some 11, .mv (.c (.int .i64 28)), none⟩]) (
           .skip))))) (
         (.seq (
          (.seq (
           .region [] [
             ⟨some 81, .mv (.t 11), none⟩,
             ⟨some 82, .bin .neq (.t 81) (.c (.int .i64 0)), none⟩]) (
           (.cond (.t 82) (
            (.seq (
             .region [] [
               ⟨some 83, .mv (.t 8), none⟩,
               ⟨some 84, .mv (.t 11), none⟩,
               ⟨some 85, .bin .eql (.t 83) (.t 84), none⟩,
               ⟨some 86, .mv (.t 85), none⟩,
               ⟨some 87, .mv (.t 7), some (86, true)⟩,
               ⟨some 88, .len (.t 87), some (86, true)⟩,
               ⟨some 89, .bin .eql (.t 88) (.c (.int .i64 0)), some (86, true)⟩,
               ⟨some 90, .pick (.t 86) (.t 89) (.c (.bool false)), none⟩,
               ⟨some 91, .mv (.t 90), none⟩,
               ⟨some 92, .mv (.t 9), some (91, true)⟩,
               ⟨some 93, .len (.t 92), some (91, true)⟩,
               ⟨some 94, .bin .eql (.t 93) (.c (.int .i64 0)), some (91, true)⟩,
               ⟨some 95, .pick (.t 91) (.t 94) (.c (.bool false)), none⟩,
               ⟨some 6, .mv (.t 95), none⟩]) (
             .ret))) (
            .skip))))) (
          (.seq (
           (.seq (
            .region [] [
              ⟨some 96, .mv (.t 8), none⟩,
              ⟨some 97, .bin .neq (.t 96) (.c (.int .i64 0)), none⟩,
              ⟨some 98, .mv (.t 97), none⟩,
              ⟨some 99, .mv (.t 7), some (98, false)⟩,
              ⟨some 100, .mv (.t 0), some (98, false)⟩,
              ⟨some 101, .load true 2 (.t 4), some (98, false)⟩,
              ⟨some 102, .fieldAddr 0 (.t 5), some (98, false)⟩,
              ⟨some 103, .load false 1 (.t 102), some (98, false)⟩,
              ⟨some 104, .fieldAddr 1 (.t 5), some (98, false)⟩,
              ⟨some 105, .load false 1 (.t 104), some (98, false)⟩,
              ⟨some 106, .call 0 (.c (.fn 27 [])) [(.t 100), (.t 101), (.t 103), (.t 105), (.c (.bool false))], some (98, false)⟩,
              ⟨some 107, .call 0 (.c (.fn 16 [])) [(.t 99), (.t 106)], some (98, false)⟩,
              ⟨some 108, .not (.t 107), some (98, false)⟩,
              ⟨some 109, .pick (.t 98) (.c (.bool true)) (.t 108), none⟩,
              ⟨some 110, .mv (.t 109), none⟩,
              ⟨some 111, .mv (.t 9), some (110, false)⟩,
              ⟨some 112, .mv (.t 0), some (110, false)⟩,
              ⟨some 113, .load true 2 (.t 4), some (110, false)⟩,
              ⟨some 114, .fieldAddr 0 (.t 5), some (110, false)⟩,
              ⟨some 115, .load false 1 (.t 114), some (110, false)⟩,
              ⟨some 116, .fieldAddr 1 (.t 5), some (110, false)⟩,
              ⟨some 117, .load false 1 (.t 116), some (110, false)⟩,
              ⟨some 118, .call 0 (.c (.fn 27 [])) [(.t 112), (.t 113), (.t 115), (.t 117), (.c (.bool true))], some (110, false)⟩,
              ⟨some 119, .call 0 (.c (.fn 16 [])) [(.t 111), (.t 118)], some (110, false)⟩,
              ⟨some 120, .not (.t 119), some (110, false)⟩,
              ⟨some 121, .pick (.t 110) (.c (.bool true)) (.t 120), none⟩]) (
            (.cond (.t 121) (
             (.seq (
              .region [] [
                ⟨some 6, .mv (.c (.bool false)), none⟩]) (
              .ret))) (
             .skip))))) (
           (.seq (
            .region [] [
              ⟨some 122, .fieldAddr 0 (.t 5), none⟩,
              ⟨some 123, .load false 1 (.t 122), none⟩,
              ⟨some 124, .fieldAddr 1 (.t 5), none⟩,
              ⟨some 125, .load false 1 (.t 124), none⟩,
              ⟨some 126, .bin .eql (.t 123) (.t 125), none⟩,
              ⟨some 127, .mv (.t 126), none⟩,
              ⟨some 128, .mv (.t 9), some (127, false)⟩,
              ⟨some 129, .mv (.t 9), some (127, false)⟩,
              ⟨some 130, .len (.t 129), some (127, false)⟩,
              ⟨some 131, .bin .sub (.t 130) (.c (.int .i64 1)), some (127, false)⟩,
              ⟨some 132, .elemAddr 1 (.t 128) (.t 131), some (127, false)⟩,
              ⟨some 133, .load false 1 (.t 132), some (127, false)⟩,
              ⟨some 134, .mv (.t 0), some (127, false)⟩,
              ⟨some 135, .fieldAddr 1 (.t 5), some (127, false)⟩,
              ⟨some 136, .load false 1 (.t 135), some (127, false)⟩,
              ⟨some 137, .elemAddr 4 (.t 134) (.t 136), some (127, false)⟩,
              ⟨some 138, .fieldAddr 0 (.t 137), some (127, false)⟩,
              ⟨some 139, .load false 1 (.t 138), some (127, false)⟩,
              ⟨some 140, .bin .add (.t 133) (.t 139), some (127, false)⟩,
              ⟨some 141, .fieldAddr 0 (.t 4), some (127, false)⟩,
              ⟨some 142, .load false 1 (.t 141), some (127, false)⟩,
              ⟨some 143, .bin .eql (.t 140) (.t 142), some (127, false)⟩,
              ⟨some 144, .pick (.t 127) (.c (.bool true)) (.t 143), none⟩,
              ⟨some 6, .mv (.t 144), none⟩]) (
            .ret))))))))))))))))))))))⟩

def a11 : AFunc := ⟨[.tmp 0],
 (.seq (
  .region [] [
    ⟨some 0, .mv (.c (.bool false)), none⟩]) (
  (.seq (
   .region [] [
     ⟨some 8, .build [(.int .i64 0), (.int .i64 0), (.int .i64 0), (.int .i64 0)] [(0, 1, (.c (.int .i64 40))), (1, 1, (.c (.int .i64 10))), (2, 1, (.c (.int .i64 10)))], none⟩,
     ⟨some 9, .build [(.int .i64 0), (.int .i64 0), (.int .i64 0), (.int .i64 0)] [(0, 1, (.c (.int .i64 40))), (1, 1, (.c (.int .i64 10)))], none⟩,
     ⟨some 10, .build [(.int .i64 0), (.int .i64 0), (.int .i64 0), (.int .i64 0)] [(0, 1, (.c (.int .i64 40))), (1, 1, (.c (.int .i64 10)))], none⟩,
     ⟨some 11, .lit 4 [(.int .i64 0), (.int .i64 0), (.int .i64 0), (.int .i64 0)] 3 [(0, 4, (.t 8)), (4, 4, (.t 9)), (8, 4, (.t 10))], none⟩,
     ⟨some 1, .mv (.t 11), none⟩]) (
   (.seq (
    .region [] [
      ⟨some 13, .mv (.t 1), none⟩,
      ⟨some 14, .build [(.int .i64 0), (.int .i64 0)] [(0, 1, (.c (.int .i64 100)))], none⟩,
      ⟨some 15, .call 0 (.c (.fn 14 [])) [(.t 13), (.t 14)], none⟩,
      ⟨some 12, .mv (.t 15), none⟩,
      ⟨some 16, .ext (.t 12) 0, none⟩,
      ⟨some 17, .ext (.t 12) 1, none⟩,
      ⟨some 2, .mv (.t 16), none⟩,
      ⟨some 3, .mv (.t 17), none⟩]) (
    (.seq (
     .region [] [
       ⟨some 19, .mv (.t 1), none⟩,
       ⟨some 20, .build [(.int .i64 0), (.int .i64 0)] [(0, 1, (.c (.int .i64 100))), (1, 1, (.c (.int .i64 5)))], none⟩,
       ⟨some 21, .call 0 (.c (.fn 14 [])) [(.t 19), (.t 20)], none⟩,
       ⟨some 18, .mv (.t 21), none⟩,
       ⟨some 22, .ext (.t 18) 0, none⟩,
       ⟨some 23, .ext (.t 18) 1, none⟩,
       ⟨some 4, .mv (.t 22), none⟩,
       ⟨some 5, .mv (.t 23), none⟩]) (
     (.seq (
      .region [] [
        ⟨some 25, .mv (.t 1), none⟩,
        ⟨some 26, .build [(.int .i64 0), (.int .i64 0)] [(0, 1, (.c (.int .i64 100)))], none⟩,
        ⟨some 27, .lit 1 [(.int .i64 0)] 2 [(0, 1, (.c (.int .i64 0))), (1, 1, (.c (.int .i64 1)))], none⟩,
        ⟨some 28, .call 0 (.c (.fn 17 [])) [(.t 25), (.t 26), (.t 27)], none⟩,
        ⟨some 24, .mv (.t 28), none⟩,
        ⟨some 29, .ext (.t 24) 0, none⟩,
        ⟨some 30, .ext (.t 24) 1, none⟩,
        ⟨some 6, .mv (.t 29), none⟩,
        ⟨some 7, .mv (.t 30), none⟩]) (
      (.seq (
       .region [] [
         ⟨some 31, .mv (.t 3), none⟩,
         ⟨some 32, .bin .eql (.t 31) (.c (.int .i64 0)), none⟩,
         ⟨some 33, .mv (.t 32), none⟩,
         ⟨some 34, .mv (.t 2), some (33, true)⟩,
         ⟨some 35, .len (.t 34), some (33, true)⟩,
         ⟨some 36, .bin .eql (.t 35) (.c (.int .i64 2)), some (33, true)⟩,
         ⟨some 37, .pick (.t 33) (.t 36) (.c (.bool false)), none⟩,
         ⟨some 38, .mv (.t 37), none⟩,
         ⟨some 39, .mv (.t 2), some (38, true)⟩,
         ⟨some 40, .elemAddr 1 (.t 39) (.c (.int .i64 0)), some (38, true)⟩,
         ⟨some 41, .load false 1 (.t 40), some (38, true)⟩,
         ⟨some 42, .bin .eql (.t 41) (.c (.int .i64 0)), some (38, true)⟩,
         ⟨some 43, .pick (.t 38) (.t 42) (.c (.bool false)), none⟩,
         ⟨some 44, .mv (.t 43), none⟩,
         ⟨some 45, .mv (.t 2), some (44, true)⟩,
         ⟨some 46, .elemAddr 1 (.t 45) (.c (.int .i64 1)), some (44, true)⟩,
         ⟨some 47, .load false 1 (.t 46), some (44, true)⟩,
         ⟨some 48, .bin .eql (.t 47) (.c (.int .i64 2)), some (44, true)⟩,
         ⟨some 49, .pick (.t 44) (.t 48) (.c (.bool false)), none⟩,
         ⟨some 50, .mv (.t 49), none⟩,
         ⟨some 51, .mv (.t 5), some (50, true)⟩,
         ⟨some 52, .bin .eql (.t 51) (.c (.int .i64 0)), some (50, true)⟩,
         ⟨some 53, .pick (.t 50) (.t 52) (.c (.bool false)), none⟩,
         ⟨some 54, .mv (.t 53), none⟩,
         ⟨some 55, .mv (.t 4), some (54, true)⟩,
         ⟨some 56, .len (.t 55), some (54, true)⟩,
         ⟨some 57, .bin .eql (.t 56) (.c (.int .i64 2)), some (54, true)⟩,
         ⟨some 58, .pick (.t 54) (.t 57) (.c (.bool false)), none⟩,
         ⟨some 59, .mv (.t 58), none⟩,
         ⟨some 60, .mv (.t 4), some (59, true)⟩,
         ⟨some 61, .elemAddr 1 (.t 60) (.c (.int .i64 1)), some (59, true)⟩,
         ⟨some 62, .load false 1 (.t 61), some (59, true)⟩,
         ⟨some 63, .bin .eql (.t 62) (.c (.int .i64 1)), some (59, true)⟩,
         ⟨some 64, .pick (.t 59) (.t 63) (.c (.bool false)), none⟩,
         ⟨some 65, .mv (.t 64), none⟩,
         ⟨some 66, .mv (.t 6), some (65, true)⟩,
         ⟨some 67, .bin .eql (.t 66) (.c (.int .i64 3600)), some (65, true)⟩,
         ⟨some 68, .pick (.t 65) (.t 67) (.c (.bool false)), none⟩,
         ⟨some 69, .mv (.t 68), none⟩,
         ⟨some 70, .mv (.t 7), some (69, true)⟩,
         ⟨some 71, .bin .eql (.t 70) (.c (.int .i64 0)), some (69, true)⟩,
         ⟨some 72, .pick (.t 69) (.t 71) (.c (.bool false)), none⟩,
         ⟨some 0, .mv (.t 72), none⟩]) (
       .ret))))))))))))⟩

def a12 : AFunc := ⟨[.tmp 4],
 (.seq (
  .region [] [
    ⟨some 3, .box 1 (.t 1), none⟩,
    ⟨some 4, .mv (.c (.int .i64 0)), none⟩]) (
  (.seq (
   (.block 0 (
    (.seq (
     .region [] [
       ⟨some 8, .mv (.t 0), none⟩,
       ⟨some 9, .len (.t 8), none⟩,
       ⟨some 10, .bin .gtr (.t 9) (.c (.int .i64 1024)), none⟩,
       ⟨some 7, .mv (.t 10), none⟩]) (
     (.cond (.t 7) (
      (.seq (
       .region [] [
         ⟨some 4, .mv (.c (.int .i64 9)), none⟩]) (
       .ret))) (
      (.seq (
       .region [] [
         ⟨some 12, .fieldAddr 0 (.t 3), none⟩,
         ⟨some 13, .load false 1 (.t 12), none⟩,
         ⟨some 14, .bin .lss (.t 13) (.c (.int .i64 1)), none⟩,
         ⟨some 15, .mv (.t 14), none⟩,
         ⟨some 16, .fieldAddr 0 (.t 3), some (15, false)⟩,
         ⟨some 17, .load false 1 (.t 16), some (15, false)⟩,
         ⟨some 18, .bin .gtr (.t 17) (.c (.int .i64 16777216)), some (15, false)⟩,
         ⟨some 19, .pick (.t 15) (.c (.bool true)) (.t 18), none⟩,
         ⟨some 20, .mv (.t 19), none⟩,
         ⟨some 21, .fieldAddr 1 (.t 3), some (20, false)⟩,
         ⟨some 22, .load false 1 (.t 21), some (20, false)⟩,
         ⟨some 23, .bin .lss (.t 22) (.c (.int .i64 0)), some (20, false)⟩,
         ⟨some 24, .pick (.t 20) (.c (.bool true)) (.t 23), none⟩,
         ⟨some 25, .mv (.t 24), none⟩,
         ⟨some 26, .fieldAddr 1 (.t 3), some (25, false)⟩,
         ⟨some 27, .load false 1 (.t 26), some (25, false)⟩,
         ⟨some 28, .bin .gtr (.t 27) (.c (.int .i64 4398046511104)), some (25, false)⟩,
         ⟨some 29, .pick (.t 25) (.c (.bool true)) (.t 28), none⟩,
         ⟨some 11, .mv (.t 29), none⟩]) (
       (.cond (.t 11) (
        (.seq (
         .region [] [
           ⟨some 4, .mv (.c (.int .i64 2)), none⟩]) (
         .ret))) (
        .skip))))))))))) (
   (.seq (
    (.seq (
     .region [] [
       ⟨some 30, .mv (.t 0), none⟩,
       ⟨some 31, .len (.t 30), none⟩,
       ⟨some 32, .mv (.c (.int .i64 0)), none⟩]) (
     (.block 1 (
      (.loop (
       (.seq (
        .region [] [
          ⟨some 33, .bin .lss (.t 32) (.t 31), none⟩]) (
        (.seq (
         (.cond (.t 33) (
          .skip) (
          .exit 1))) (
         (.seq (
          (.block 2 (
           (.seq (
            .region [] [
              ⟨some 34, .elemAddr 4 (.t 30) (.t 32), none⟩,
              ⟨some 35, .load true 4 (.t 34), none⟩,
              ⟨some 6, .alloc 2 [(.int .i64 0), (.int .i64 0), (.int .i64 0), (.int .i64 0)], none⟩,
              ⟨none, .store 4 (.t 6) (.t 35), none⟩]) (
            (.block 3 (
             (.seq (
              .region [] [
                ⟨some 37, .fieldAddr 0 (.t 6), none⟩,
                ⟨some 38, .load false 1 (.t 37), none⟩,
                ⟨some 39, .bin .lss (.t 38) (.c (.int .i64 1)), none⟩,
                ⟨some 40, .mv (.t 39), none⟩,
                ⟨some 41, .fieldAddr 0 (.t 6), some (40, false)⟩,
                ⟨some 42, .load false 1 (.t 41), some (40, false)⟩,
                ⟨some 43, .bin .gtr (.t 42) (.c (.int .i64 16777216)), some (40, false)⟩,
                ⟨some 44, .pick (.t 40) (.c (.bool true)) (.t 43), none⟩,
                ⟨some 45, .mv (.t 44), none⟩,
                ⟨some 46, .fieldAddr 1 (.t 6), some (45, false)⟩,
                ⟨some 47, .load false 1 (.t 46), some (45, false)⟩,
                ⟨some 48, .bin .lss (.t 47) (.c (.int .i64 0)), some (45, false)⟩,
                ⟨some 49, .pick (.t 45) (.c (.bool true)) (.t 48), none⟩,
                ⟨some 50, .mv (.t 49), none⟩,
                ⟨some 51, .fieldAddr 1 (.t 6), some (50, false)⟩,
                ⟨some 52, .load false 1 (.t 51), some (50, false)⟩,
                ⟨some 53, .bin .gtr (.t 52) (.c (.int .i64 16777216)), some (50, false)⟩,
                ⟨some 54, .pick (.t 50) (.c (.bool true)) (.t 53), none⟩,
                ⟨some 55, .mv (.t 54), none⟩,
                ⟨some 56, .fieldAddr 2 (.t 6), some (55, false)⟩,
                ⟨some 57, .load false 1 (.t 56), some (55, false)⟩,
                ⟨some 58, .bin .lss (.t 57) (.c (.int .i64 0)), some (55, false)⟩,
                ⟨some 59, .pick (.t 55) (.c (.bool true)) (.t 58), none⟩,
                ⟨some 60, .mv (.t 59), none⟩,
                ⟨some 61, .fieldAddr 2 (.t 6), some (60, false)⟩,
                ⟨some 62, .load false 1 (.t 61), some (60, false)⟩,
                ⟨some 63, .bin .gtr (.t 62) (.c (.int .i64 4398046511104)), some (60, false)⟩,
                ⟨some 64, .pick (.t 60) (.c (.bool true)) (.t 63), none⟩,
                ⟨some 36, .mv (.t 64), none⟩]) (
              (.cond (.t 36) (
               (.seq (
                .region [] [
                  ⟨some 4, .mv (.c (.int .i64 2)), none⟩]) (
                .ret))) (
               (.seq (
                .region [] [
                  ⟨some 66, .fieldAddr 3 (.t 6), none⟩,
                  ⟨some 67, .load false 1 (.t 66), none⟩,
                  ⟨some 68, .bin .lss (.t 67) (.c (.int .i64 0)), none⟩,
                  ⟨some 69, .mv (.t 68), none⟩,
                  ⟨some 70, .fieldAddr 3 (.t 6), some (69, false)⟩,
                  ⟨some 71, .load false 1 (.t 70), some (69, false)⟩,
                  ⟨some 72, .bin .gtr (.t 71) (.c (.int .i64 3)), some (69, false)⟩,
                  ⟨some 73, .pick (.t 69) (.c (.bool true)) (.t 72), none⟩,
                  ⟨some 65, .mv (.t 73), none⟩]) (
                (.cond (.t 65) (
                 (.seq (
                  .region [] [
                    ⟨some 4, .mv (.c (.int .i64 11)), none⟩]) (
                  .ret))) (
                 .skip))))))))))))))) (
          .region [] [
            ⟨some 74, .bin .add (.t 32) (.c (.int .i64 1)), none⟩,
            ⟨some 32, .mv (.t 74), none⟩]))))))))))))) (
    (.seq (
     .region [] [
       ⟨some 4, .mv (.c (.int .i64 0)), none⟩]) (
     .ret))))))))⟩

def a13 : AFunc := ⟨[.tmp 4],
 (.seq (
  .region [] [
    ⟨some 3, .box 1 (.t 1), none⟩,
    ⟨some 4, .mv (.c (.int .i64 0)), none⟩]) (
  (.seq (
   (.block 0 (
    (.seq (
     .region [] [
       ⟨some 8, .mv (.t 0), none⟩,
       ⟨some 9, .len (.t 8), none⟩,
       ⟨some 10, .bin .gtr (.t 9) (.c (.int .i64 1024)), none⟩,
       ⟨some 7, .mv (.t 10), none⟩]) (
     (.cond (.t 7) (
      (.seq (
       .region [] [
         ⟨some 4, .mv (.c (.int .i64 9)), none⟩]) (
       .ret))) (
      (.seq (
       .region [] [
         ⟨some 12, .fieldAddr 0 (.t 3), none⟩,
         ⟨some 13, .load false 1 (.t 12), none⟩,
         ⟨some 14, .bin .lss (.t 13) (.c (.int .i64 1)), none⟩,
         ⟨some 15, .mv (.t 14), none⟩,
         ⟨some 16, .fieldAddr 0 (.t 3), some (15, false)⟩,
         ⟨some 17, .load false 1 (.t 16), some (15, false)⟩,
         ⟨some 18, .bin .gtr (.t 17) (.c (.int .i64 16777216)), some (15, false)⟩,
         ⟨some 19, .pick (.t 15) (.c (.bool true)) (.t 18), none⟩,
         ⟨some 20, .mv (.t 19), none⟩,
         ⟨some 21, .fieldAddr 1 (.t 3), some (20, false)⟩,
         ⟨some 22, .load false 1 (.t 21), some (20, false)⟩,
         ⟨some 23, .bin .lss (.t 22) (.c (.int .i64 0)), some (20, false)⟩,
         ⟨some 24, .pick (.t 20) (.c (.bool true)) (.t 23), none⟩,
         ⟨some 25, .mv (.t 24), none⟩,
         ⟨some 26, .fieldAddr 1 (.t 3), some (25, false)⟩,
         ⟨some 27, .load false 1 (.t 26), some (25, false)⟩,
         ⟨some 28, .bin .gtr (.t 27) (.c (.int .i64 4398046511104)), some (25, false)⟩,
         ⟨some 29, .pick (.t 25) (.c (.bool true)) (.t 28), none⟩,
         ⟨some 11, .mv (.t 29), none⟩]) (
       (.cond (.t 11) (
        (.seq (
         .region [] [
           ⟨some 4, .mv (.c (.int .i64 2)), none⟩]) (
         .ret))) (
        .skip))))))))))) (
   (.seq (
    (.seq (
     .region [] [
       ⟨some 5, .mv (.c (.int .i64 0)), none⟩]) (
     (.block 1 (
      (.loop (
       (.seq (
        (.seq (
         .region [] [
           ⟨some 30, .mv (.t 5), none⟩,
           ⟨some 31, .mv (.t 0), none⟩,
           ⟨some 32, .len (.t 31), none⟩,
           ⟨some 33, .bin .lss (.t 30) (.t 32), none⟩]) (
         (.cond (.t 33) (
          .skip) (
          .exit 1))))) (
        (.seq (
         (.block 2 (
          (.seq (
           .region [] [
             ⟨some 36, .mv (.t 0), none⟩,
             ⟨some 37, .mv (.t 5), none⟩,
             ⟨some 38, .elemAddr 4 (.t 36) (.t 37), none⟩,
             ⟨some 39, .load true 4 (.t 38), none⟩,
             ⟨some 6, .alloc 2 [(.int .i64 0), (.int .i64 0), (.int .i64 0), (.int .i64 0)], none⟩,
             ⟨none, .store 4 (.t 6) (.t 39), none⟩]) (
           (.seq (
            (.seq (
             .region [] [
               ⟨some 40, .fieldAddr 0 (.t 6), none⟩,
               ⟨some 41, .load false 1 (.t 40), none⟩,
               ⟨some 42, .bin .lss (.t 41) (.c (.int .i64 1)), none⟩,
               ⟨some 43, .mv (.t 42), none⟩,
               ⟨some 44, .fieldAddr 0 (.t 6), some (43, false)⟩,
               ⟨some 45, .load false 1 (.t 44), some (43, false)⟩,
               ⟨some 46, .bin .gtr (.t 45) (.c (.int .i64 16777216)), some (43, false)⟩,
               ⟨some 47, .pick (.t 43) (.c (.bool true)) (.t 46), none⟩,
               ⟨some 48, .mv (.t 47), none⟩,
               ⟨some 49, .fieldAddr 1 (.t 6), some (48, false)⟩,
               ⟨some 50, .load false 1 (.t 49), some (48, false)⟩,
               ⟨some 51, .bin .lss (.t 50) (.c (.int .i64 0)), some (48, false)⟩,
               ⟨some 52, .pick (.t 48) (.c (.bool true)) (.t 51), none⟩,
               ⟨some 53, .mv (.t 52), none⟩,
               ⟨some 54, .fieldAddr 1 (.t 6), some (53, false)⟩,
               ⟨some 55, .load false 1 (.t 54), some (53, false)⟩,
               ⟨some 56, .bin .gtr (.t 55) (.c (.int .i64 16777216)), some (53, false)⟩,
               ⟨some 57, .pick (.t 53) (.c (.bool true)) (.t 56), none⟩,
               ⟨some 58, .mv (.t 57), none⟩,
               ⟨some 59, .fieldAddr 2 (.t 6), some (58, false)⟩,
               ⟨some 60, .load false 1 (.t 59), some (58, false)⟩,
               ⟨some 61, .bin .lss (.t 60) (.c (.int .i64 0)), some (58, false)⟩,
               ⟨some 62, .pick (.t 58) (.c (.bool true)) (.t 61), none⟩,
               ⟨some 63, .mv (.t 62), none⟩,
               ⟨some 64, .fieldAddr 2 (.t 6), some (63, false)⟩,
               ⟨some 65, .load false 1 (.t 64), some (63, false)⟩,
               ⟨some 66, .bin .gtr (.t 65) (.c (.int .i64 4398046511104)), some (63, false)⟩,
               ⟨some 67, .pick (.t 63) (.c (.bool true)) (.t 66), none⟩]) (
             (.cond (.t 67) (
              (.seq (
               .region [] [
                 ⟨some 4, .mv (.c (.int .i64 2)), none⟩]) (
               .ret))) (
              .skip))))) (
            (.seq (
             .region [] [
               ⟨some 68, .fieldAddr 3 (.t 6), none⟩,
               ⟨some 69, .load false 1 (.t 68), none⟩,
               ⟨some 70, .bin .lss (.t 69) (.c (.int .i64 0)), none⟩,
               ⟨some 71, .mv (.t 70), none⟩,
               ⟨some 72, .fieldAddr 3 (.t 6), some (71, false)⟩,
               ⟨some 73, .load false 1 (.t 72), some (71, false)⟩,
               ⟨some 74, .bin .gtr (.t 73) (.c (.int .i64 3)), some (71, false)⟩,
               ⟨some 75, .pick (.t 71) (.c (.bool true)) (.t 74), none⟩]) (
             (.cond (.t 75) (
              (.seq (
               .region [] [
                 ⟨some 4, .mv (.c (.int .i64 11)), none⟩]) (
               .ret))) (
              .skip))))))))))) (
         .region [] [
           ⟨some 34, .mv (.t 5), none⟩,
           ⟨some 35, .bin .add (.t 34) (.c (.int .i64 1)), none⟩,
           ⟨some 5, .mv (.t 35), none⟩]))))))))))) (
    (.seq (
     .region [] [
       ⟨some 4, .mv (.c (.int .i64 0)), none⟩]) (
     .ret))))))))⟩

def a14 : AFunc := ⟨[.tmp 4, .tmp 5],
 (.seq (
  .region [] [
    ⟨some 3, .box 1 (.t 1), none⟩,
    ⟨some 4, .mv (.c .nilsl), none⟩,
    ⟨some 5, .mv (.c (.int .i64 0)), none⟩]) (
  (.seq (
   (.seq (
    .region [] [
      ⟨some 14, .mv (.t 0), none⟩,
      ⟨some 15, .load true 2 (.t 3), none⟩,
      ⟨some 16, .call 0 (.c (.fn 12 [])) [(.t 14), (.t 15)], none⟩,
      ⟨some 6, .mv (.t 16), none⟩]) (
    (.seq (
     .region [] [
       ⟨some 17, .mv (.t 6), none⟩,
       ⟨some 18, .bin .neq (.t 17) (.c (.int .i64 0)), none⟩]) (
     (.cond (.t 18) (
      (.seq (
       .region [] [
         ⟨some 19, .mv (.t 6), none⟩,
         ⟨some 4, .mv (.c .nilsl), none⟩,
         ⟨some 5, .mv (.t 19), none⟩]) (
       .ret))) (
      .skip))))))) (
   (.seq (
    .region [] [
      ⟨some 20, .mv (.t 0), none⟩,
      ⟨some 21, .len (.t 20), none⟩,
      ⟨some 7, .mv (.t 21), none⟩]) (
    (.seq (
     .region [] [
       ⟨some 22, .mv (.t 7), none⟩,
       ⟨some 23, .bin .add (.t 22) (.c (.int .i64 1)), none⟩,
       ⟨some 24, .mks 2 6 [(.int .i64 0), (.int .i64 0), (.int .i64 0), (.int .i64 0), (.int .i64 0), (.int .i64 0)] 48 (.t 23) (.t 23), none⟩,
       ⟨some 8, .mv (.t 24), none⟩]) (
     (.seq (
      (.seq (
       .region [] [
         ⟨some 25, .mv (.t 7), none⟩,
         ⟨some 26, .bin .sub (.t 25) (.c (.int .i64 1)), none⟩,
         ⟨some 9, .mv (.t 26), none⟩]) (
       (.block 0 (
        (.loop (
         (.seq (
          (.seq (
           .region [] [
             ⟨some 27, .mv (.t 9), none⟩,
             ⟨some 28, .bin .geq (.t 27) (.c (.int .i64 0)), none⟩]) (
           (.cond (.t 28) (
            .skip) (
            .exit 0))))) (
          (.seq (
           (.block 1 (
            (.seq (
             .region [] [
               ⟨some 31, .mv (.c (.int .i64 0)), none⟩]) (
             (.block 2 (
              (.loop (
               (.seq (
                .region [] [
                  ⟨some 32, .bin .lss (.t 31) (.c (.int .i64 2)), none⟩]) (
                (.seq (
                 (.cond (.t 32) (
                  .skip) (
                  .exit 2))) (
                 (.seq (
                  (.block 3 (
                   (.seq (
                    .region [] [
                      ⟨some 33, .mv (.t 31), none⟩,
                      ⟨some 10, .mv (.t 33), none⟩]) (
                    .region [] [
                      ⟨some 34, .mv (.t 8), none⟩,
                      ⟨some 35, .mv (.t 9), none⟩,
                      ⟨some 36, .mv (.t 10), none⟩,
                      ⟨some 37, .load true 2 (.t 3), none⟩,
                      ⟨some 38, .mv (.t 0), none⟩,
                      ⟨some 39, .mv (.t 9), none⟩,
                      ⟨some 40, .mv (.t 10), none⟩,
                      ⟨some 41, .mv (.t 8), none⟩,
                      ⟨some 42, .call 0 (.c (.fn 28 [])) [(.t 37), (.t 38), (.t 39), (.t 40), (.t 41)], none⟩,
                      ⟨some 43, .elemAddr 6 (.t 34) (.t 35), none⟩,
                      ⟨some 44, .arrAddr 2 3 (.t 43) (.t 36), none⟩,
                      ⟨none, .store 3 (.t 44) (.t 42), none⟩]))))) (
                  .region [] [
                    ⟨some 45, .bin .add (.t 31) (.c (.int .i64 1)), none⟩,
                    ⟨some 31, .mv (.t 45), none⟩]))))))))))))))) (
           .region [] [
             ⟨some 29, .mv (.t 9), none⟩,
             ⟨some 30, .bin .sub (.t 29) (.c (.int .i64 1)), none⟩,
             ⟨some 9, .mv (.t 30), none⟩]))))))))))) (
      (.seq (
       .region [] [
         ⟨some 11, .mv (.c .nilsl), none⟩]) (
       (.seq (
        (.seq (
         .region [] [
           ⟨some 12, .mv (.c (.int .i64 0)), none⟩,
           ⟨some 13, .mv (.c (.int .i64 0)), none⟩]) (
         (.block 4 (
          (.loop (
           (.seq (
            (.seq (
             .region [] [
               ⟨some 46, .mv (.t 12), none⟩,
               ⟨some 47, .mv (.t 7), none⟩,
               ⟨some 48, .bin .lss (.t 46) (.t 47), none⟩]) (
             (.cond (.t 48) (
              .skip) (
              .exit 4))))) (
            (.seq (
             (.block 5 (
              (.seq (
               (.seq (
                .region [] [
                  ⟨some 51, .mv (.t 8), none⟩,
                  ⟨some 52, .mv (.t 12), none⟩,
                  ⟨some 53, .mv (.t 13), none⟩,
                  ⟨some 54, .elemAddr 6 (.t 51) (.t 52), none⟩,
                  ⟨some 55, .arrAddr 2 3 (.t 54) (.t 53), none⟩,
                  ⟨some 56, .fieldAddr 0 (.t 55), none⟩,
                  ⟨some 57, .load false 1 (.t 56), none⟩,
                  ⟨some 58, .bin .geq (.t 57) (.c (.int .i64 1125899906842624)), none⟩]) (
                (.cond (.t 58) (
                 (.seq (
                  .region [] [
                    ⟨some 4, .mv (.c .nilsl), none⟩,
                    ⟨some 5, .mv (.c (.int .i64 28)), none⟩]) (
                  .ret))) (
                 .skip))))) (
               (.seq (
                .region [] [
                  ⟨some 59, .mv (.t 11), none⟩,
                  ⟨some 60, .mv (.t 12), none⟩,
                  ⟨some 61, .lit 1 [(.int .i64 0)] 1 [(0, 1, (.t 60))], none⟩,
                  ⟨some 62, .app 3 1 8 (.t 59) (.t 61), none⟩,
                  ⟨some 11, .mv (.t 62), none⟩]) (
                .region [] [
                  ⟨some 63, .mv (.t 8), none⟩,
                  ⟨some 64, .mv (.t 12), none⟩,
                  ⟨some 65, .mv (.t 13), none⟩,
                  ⟨some 66, .elemAddr 6 (.t 63) (.t 64), none⟩,
                  ⟨some 67, .arrAddr 2 3 (.t 66) (.t 65), none⟩,
                  ⟨some 68, .fieldAddr 2 (.t 67), none⟩,
                  ⟨some 69, .load false 1 (.t 68), none⟩,
                  ⟨some 12, .mv (.t 69), none⟩]))))))) (
             .region [] [
               ⟨some 49, .mv (.t 13), none⟩,
               ⟨some 50, .bin .sub (.c (.int .i64 1)) (.t 49), none⟩,
               ⟨some 13, .mv (.t 50), none⟩]))))))))))) (
        (.seq (
         .region [] [
           ⟨some 70, .mv (.t 11), none⟩,
           ⟨some 4, .mv (.t 70), none⟩,
           ⟨some 5, .mv (.c (.int .i64 0)), none⟩]) (
         .ret))))))))))))))))⟩

def a15 : AFunc := ⟨[.tmp 4, .tmp 5],
 (.seq (
  .region [] [
    ⟨some 3, .box 1 (.t 1), none⟩,
    ⟨some 4, .mv (.c .nilsl), none⟩,
    ⟨some 5, .mv (.c (.int .i64 0)), none⟩]) (
  (.seq (
   .region [] [
     ⟨some 11, .mv (.t 0), none⟩,
     ⟨some 12, .len (.t 11), none⟩,
     ⟨some 13, .call 0 (.c (.fn 29 [])) [(.t 12)], none⟩,
     ⟨some 6, .mv (.t 13), none⟩]) (
   (.seq (
    .region [] [
      ⟨some 7, .mv (.c (.int .i64 0)), none⟩,
      ⟨some 8, .mv (.c (.int .i64 1125899906842624)), none⟩]) (
    (.seq (
     (.seq (
      .region [] [
        ⟨some 9, .mv (.c (.int .i64 0)), none⟩]) (
      (.block 0 (
       (.loop (
        (.seq (
         (.seq (
          .region [] [
            ⟨some 14, .mv (.t 9), none⟩,
            ⟨some 15, .mv (.t 6), none⟩,
            ⟨some 16, .len (.t 15), none⟩,
            ⟨some 17, .bin .lss (.t 14) (.t 16), none⟩]) (
          (.cond (.t 17) (
           .skip) (
           .exit 0))))) (
         (.seq (
          (.block 1 (
           (.seq (
            .region [] [
              ⟨some 20, .mv (.t 0), none⟩,
              ⟨some 21, .load true 2 (.t 3), none⟩,
              ⟨some 22, .mv (.t 6), none⟩,
              ⟨some 23, .mv (.t 9), none⟩,
              ⟨some 24, .elemAddr 1 (.t 22) (.t 23), none⟩,
              ⟨some 25, .load false 1 (.t 24), none⟩,
              ⟨some 26, .call 0 (.c (.fn 19 [])) [(.t 20), (.t 21), (.t 25)], none⟩,
              ⟨some 10, .mv (.t 26), none⟩]) (
            (.seq (
             .region [] [
               ⟨some 27, .mv (.t 10), none⟩,
               ⟨some 28, .mv (.t 8), none⟩,
               ⟨some 29, .bin .lss (.t 27) (.t 28), none⟩,
               ⟨some 30, .mv (.t 29), none⟩,
               ⟨some 31, .mv (.t 10), some (30, false)⟩,
               ⟨some 32, .mv (.t 8), some (30, false)⟩,
               ⟨some 33, .bin .eql (.t 31) (.t 32), some (30, false)⟩,
               ⟨some 34, .mv (.t 33), some (30, false)⟩,
               ⟨some 35, .mv (.t 10), some (34, true)⟩,
               ⟨some 36, .bin .lss (.t 35) (.c (.int .i64 1125899906842624)), some (34, true)⟩,
               ⟨some 37, .pick (.t 34) (.t 36) (.c (.bool false)), some (30, false)⟩,
               ⟨some 38, .mv (.t 37), some (30, false)⟩,
               ⟨some 39, .mv (.t 6), some (38, true)⟩,
               ⟨some 40, .mv (.t 9), some (38, true)⟩,
               ⟨some 41, .elemAddr 1 (.t 39) (.t 40), some (38, true)⟩,
               ⟨some 42, .load false 1 (.t 41), some (38, true)⟩,
               ⟨some 43, .mv (.t 6), some (38, true)⟩,
               ⟨some 44, .mv (.t 7), some (38, true)⟩,
               ⟨some 45, .elemAddr 1 (.t 43) (.t 44), some (38, true)⟩,
               ⟨some 46, .load false 1 (.t 45), some (38, true)⟩,
               ⟨some 47, .call 0 (.c (.fn 20 [])) [(.t 42), (.t 46)], some (38, true)⟩,
               ⟨some 48, .pick (.t 38) (.t 47) (.c (.bool false)), some (30, false)⟩,
               ⟨some 49, .pick (.t 30) (.c (.bool true)) (.t 48), none⟩]) (
             (.cond (.t 49) (
              .region [] [
                ⟨some 50, .mv (.t 9), none⟩,
                ⟨some 51, .mv (.t 10), none⟩,
                ⟨some 7, .mv (.t 50), none⟩,
                ⟨some 8, .mv (.t 51), none⟩]) (
              .skip))))))))) (
          .region [] [
            ⟨some 18, .mv (.t 9), none⟩,
            ⟨some 19, .bin .add (.t 18) (.c (.int .i64 1)), none⟩,
            ⟨some 9, .mv (.t 19), none⟩]))))))))))) (
     (.seq (
      (.seq (
       .region [] [
         ⟨some 52, .mv (.t 8), none⟩,
         ⟨some 53, .bin .geq (.t 52) (.c (.int .i64 1125899906842624)), none⟩]) (
       (.cond (.t 53) (
        (.seq (
         .region [] [
           ⟨some 4, .mv (.c .nilsl), none⟩,
           ⟨some 5, .mv (.c (.int .i64 28)), none⟩]) (
         .ret))) (
        .skip))))) (
      (.seq (
       .region [] [
         ⟨some 54, .mv (.t 6), none⟩,
         ⟨some 55, .mv (.t 7), none⟩,
         ⟨some 56, .elemAddr 1 (.t 54) (.t 55), none⟩,
         ⟨some 57, .load false 1 (.t 56), none⟩,
         ⟨some 4, .mv (.t 57), none⟩,
         ⟨some 5, .mv (.c (.int .i64 0)), none⟩]) (
       .ret))))))))))))⟩

def a16 : AFunc := ⟨[.tmp 4],
 (.seq (
  .region [] [
    ⟨some 4, .mv (.c (.bool false)), none⟩]) (
  (.seq (
   (.seq (
    .region [] [
      ⟨some 6, .mv (.t 0), none⟩,
      ⟨some 7, .len (.t 6), none⟩,
      ⟨some 8, .mv (.t 1), none⟩,
      ⟨some 9, .len (.t 8), none⟩,
      ⟨some 10, .bin .neq (.t 7) (.t 9), none⟩]) (
    (.cond (.t 10) (
     (.seq (
      .region [] [
        ⟨some 4, .mv (.c (.bool false)), none⟩]) (
      .ret))) (
     .skip))))) (
   (.seq (
    (.seq (
     .region [] [
       ⟨some 5, .mv (.c (.int .i64 0)), none⟩]) (
     (.block 0 (
      (.loop (
       (.seq (
        (.seq (
         .region [] [
           ⟨some 11, .mv (.t 5), none⟩,
           ⟨some 12, .mv (.t 0), none⟩,
           ⟨some 13, .len (.t 12), none⟩,
           ⟨some 14, .bin .lss (.t 11) (.t 13), none⟩]) (
         (.cond (.t 14) (
          .skip) (
          .exit 0))))) (
        (.seq (
         (.block 1 (
          (.seq (
           .region [] [
             ⟨some 17, .mv (.t 0), none⟩,
             ⟨some 18, .mv (.t 5), none⟩,
             ⟨some 19, .elemAddr 1 (.t 17) (.t 18), none⟩,
             ⟨some 20, .load false 1 (.t 19), none⟩,
             ⟨some 21, .mv (.t 1), none⟩,
             ⟨some 22, .mv (.t 5), none⟩,
             ⟨some 23, .elemAddr 1 (.t 21) (.t 22), none⟩,
             ⟨some 24, .load false 1 (.t 23), none⟩,
             ⟨some 25, .bin .neq (.t 20) (.t 24), none⟩]) (
           (.cond (.t 25) (
            (.seq (
             .region [] [
               ⟨some 4, .mv (.c (.bool false)), none⟩]) (
             .ret))) (
            .skip))))))) (
         .region [] [
           ⟨some 15, .mv (.t 5), none⟩,
           ⟨some 16, .bin .add (.t 15) (.c (.int .i64 1)), none⟩,
           ⟨some 5, .mv (.t 16), none⟩]))))))))))) (
    (.seq (
     .region [] [
       ⟨some 4, .mv (.c (.bool true)), none⟩]) (
     .ret))))))))⟩

def a17 : AFunc := ⟨[.tmp 6, .tmp 7],
 (.seq (
  .region [] [
    ⟨some 4, .box 1 (.t 1), none⟩,
    ⟨some 6, .mv (.c (.int .i64 0)), none⟩,
    ⟨some 7, .mv (.c (.int .i64 0)), none⟩]) (
  (.seq (
   .region [] [
     ⟨some 13, .mv (.t 0), none⟩,
     ⟨some 14, .load true 2 (.t 4), none⟩,
     ⟨some 15, .call 0 (.c (.fn 12 [])) [(.t 13), (.t 14)], none⟩,
     ⟨some 8, .mv (.t 15), none⟩]) (
   (.seq (
    (.block 0 (
     (.seq (
      .region [] [
        ⟨some 17, .mv (.t 8), none⟩,
        ⟨some 18, .bin .neq (.t 17) (.c (.int .i64 0)), none⟩,
        ⟨some 16, .mv (.t 18), none⟩]) (
      (.cond (.t 16) (
       (.seq (
        .region [] [
          ⟨some 19, .mv (.t 8), none⟩,
          ⟨some 6, .mv (.c (.int .i64 0)), none⟩,
          ⟨some 7, .mv (.t 19), none⟩]) (
        .ret))) (
       (.seq (
        .region [] [
          ⟨some 21, .mv (.t 0), none⟩,
          ⟨some 22, .len (.t 21), none⟩,
          ⟨some 23, .mv (.t 2), none⟩,
          ⟨some 24, .call 0 (.c (.fn 30 [])) [(.t 22), (.t 23)], none⟩,
          ⟨some 25, .not (.t 24), none⟩,
          ⟨some 20, .mv (.t 25), none⟩]) (
        (.cond (.t 20) (
         (.seq (
          .region [] [
            ⟨some 6, .mv (.c (.int .i64 0)), none⟩,
            ⟨some 7, .mv (.c (.int .i64 25)), none⟩]) (
          .ret))) (
         .skip))))))))))) (
    (.seq (
     .region [] [
       ⟨some 9, .mv (.c (.int .i64 0)), none⟩]) (
     (.seq (
      (.seq (
       .region [] [
         ⟨some 26, .mv (.t 2), none⟩,
         ⟨some 27, .len (.t 26), none⟩,
         ⟨some 28, .mv (.c (.int .i64 0)), none⟩]) (
       (.block 1 (
        (.loop (
         (.seq (
          .region [] [
            ⟨some 29, .bin .lss (.t 28) (.t 27), none⟩]) (
          (.seq (
           (.cond (.t 29) (
            .skip) (
            .exit 1))) (
           (.seq (
            (.block 2 (
             (.seq (
              .region [] [
                ⟨some 30, .mv (.t 28), none⟩,
                ⟨some 31, .elemAddr 1 (.t 26) (.t 28), none⟩,
                ⟨some 32, .load false 1 (.t 31), none⟩,
                ⟨some 10, .mv (.t 30), none⟩,
                ⟨some 11, .mv (.t 32), none⟩]) (
              (.seq (
               .region [] [
                 ⟨some 33, .mv (.t 0), none⟩,
                 ⟨some 34, .mv (.t 11), none⟩,
                 ⟨some 35, .mv (.t 0), none⟩,
                 ⟨some 36, .len (.t 35), none⟩,
                 ⟨some 37, .mv (.t 2), none⟩,
                 ⟨some 38, .mv (.t 10), none⟩,
                 ⟨some 39, .call 0 (.c (.fn 31 [])) [(.t 36), (.t 37), (.t 38)], none⟩,
                 ⟨some 40, .sub 4 (.t 33) (some (.t 34)) (some (.t 39)) none, none⟩,
                 ⟨some 12, .mv (.t 40), none⟩]) (
               .region [] [
                 ⟨some 41, .mv (.t 9), none⟩,
                 ⟨some 42, .load true 2 (.t 4), none⟩,
                 ⟨some 43, .mv (.t 12), none⟩,
                 ⟨some 44, .mv (.t 12), none⟩,
                 ⟨some 45, .call 0 (.c (.fn 33 [])) [(.t 44)], none⟩,
                 ⟨some 46, .mv (.t 11), none⟩,
                 ⟨some 47, .mv (.t 10), none⟩,
                 ⟨some 48, .bin .rem (.t 47) (.c (.int .i64 2)), none⟩,
                 ⟨some 49, .bin .eql (.t 48) (.c (.int .i64 0)), none⟩,
                 ⟨some 50, .mv (.t 10), none⟩,
                 ⟨some 51, .mv (.t 2), none⟩,
                 ⟨some 52, .len (.t 51), none⟩,
                 ⟨some 53, .bin .sub (.t 52) (.c (.int .i64 1)), none⟩,
                 ⟨some 54, .bin .eql (.t 50) (.t 53), none⟩,
                 ⟨some 55, .build [(.int .i64 0), (.bool false), (.bool false)] [(0, 1, (.t 46)), (1, 1, (.t 49)), (2, 1, (.t 54))], none⟩,
                 ⟨some 56, .call 0 (.c (.fn 32 [])) [(.t 42), (.t 43), (.t 45), (.t 55)], none⟩,
                 ⟨some 57, .bin .add (.t 41) (.t 56), none⟩,
                 ⟨some 58, .mm false [(.c (.int .i64 1125899906842624)), (.t 57)], none⟩,
                 ⟨some 9, .mv (.t 58), none⟩]))))))) (
            .region [] [
              ⟨some 59, .bin .add (.t 28) (.c (.int .i64 1)), none⟩,
              ⟨some 28, .mv (.t 59), none⟩]))))))))))))) (
      (.seq (
       .region [] [
         ⟨some 60, .mv (.t 9), none⟩,
         ⟨some 6, .mv (.t 60), none⟩,
         ⟨some 7, .mv (.c (.int .i64 0)), none⟩]) (
       .ret))))))))))))⟩

def a18 : AFunc := ⟨[.tmp 4],
 (.seq (
  .region [] [
    ⟨some 4, .mv (.c (.bool false)), none⟩]) (
  (.seq (
   (.seq (
    .region [] [
      ⟨some 6, .mv (.t 1), none⟩,
      ⟨some 7, .bin .eql (.t 6) (.c (.int .i64 0)), none⟩,
      ⟨some 8, .mv (.t 7), none⟩,
      ⟨some 9, .mv (.t 0), some (8, false)⟩,
      ⟨some 10, .len (.t 9), some (8, false)⟩,
      ⟨some 11, .bin .eql (.t 10) (.c (.int .i64 0)), some (8, false)⟩,
      ⟨some 12, .pick (.t 8) (.c (.bool true)) (.t 11), none⟩]) (
    (.cond (.t 12) (
     (.seq (
      .region [] [
        ⟨some 13, .mv (.t 1), none⟩,
        ⟨some 14, .bin .eql (.t 13) (.c (.int .i64 0)), none⟩,
        ⟨some 15, .mv (.t 14), none⟩,
        ⟨some 16, .mv (.t 0), some (15, true)⟩,
        ⟨some 17, .len (.t 16), some (15, true)⟩,
        ⟨some 18, .bin .eql (.t 17) (.c (.int .i64 0)), some (15, true)⟩,
        ⟨some 19, .pick (.t 15) (.t 18) (.c (.bool false)), none⟩,
        ⟨some 4, .mv (.t 19), none⟩]) (
      .ret))) (
     .skip))))) (
   (.seq (
    (.seq (
     .region [] [
       ⟨some 5, .mv (.c (.int .i64 0)), none⟩]) (
     (.block 0 (
      (.loop (
       (.seq (
        (.seq (
         .region [] [
           ⟨some 20, .mv (.t 5), none⟩,
           ⟨some 21, .mv (.t 0), none⟩,
           ⟨some 22, .len (.t 21), none⟩,
           ⟨some 23, .bin .lss (.t 20) (.t 22), none⟩]) (
         (.cond (.t 23) (
          .skip) (
          .exit 0))))) (
        (.seq (
         (.block 1 (
          (.seq (
           .region [] [
             ⟨some 26, .mv (.t 5), none⟩,
             ⟨some 27, .bin .eql (.t 26) (.c (.int .i64 0)), none⟩,
             ⟨some 28, .mv (.t 27), none⟩,
             ⟨some 29, .mv (.t 0), some (28, true)⟩,
             ⟨some 30, .mv (.t 5), some (28, true)⟩,
             ⟨some 31, .elemAddr 1 (.t 29) (.t 30), some (28, true)⟩,
             ⟨some 32, .load false 1 (.t 31), some (28, true)⟩,
             ⟨some 33, .bin .neq (.t 32) (.c (.int .i64 0)), some (28, true)⟩,
             ⟨some 34, .pick (.t 28) (.t 33) (.c (.bool false)), none⟩,
             ⟨some 35, .mv (.t 34), none⟩,
             ⟨some 36, .mv (.t 5), some (35, false)⟩,
             ⟨some 37, .bin .gtr (.t 36) (.c (.int .i64 0)), some (35, false)⟩,
             ⟨some 38, .mv (.t 37), some (35, false)⟩,
             ⟨some 39, .mv (.t 0), some (38, true)⟩,
             ⟨some 40, .mv (.t 5), some (38, true)⟩,
             ⟨some 41, .elemAddr 1 (.t 39) (.t 40), some (38, true)⟩,
             ⟨some 42, .load false 1 (.t 41), some (38, true)⟩,
             ⟨some 43, .mv (.t 0), some (38, true)⟩,
             ⟨some 44, .mv (.t 5), some (38, true)⟩,
             ⟨some 45, .bin .sub (.t 44) (.c (.int .i64 1)), some (38, true)⟩,
             ⟨some 46, .elemAddr 1 (.t 43) (.t 45), some (38, true)⟩,
             ⟨some 47, .load false 1 (.t 46), some (38, true)⟩,
             ⟨some 48, .bin .leq (.t 42) (.t 47), some (38, true)⟩,
             ⟨some 49, .pick (.t 38) (.t 48) (.c (.bool false)), some (35, false)⟩,
             ⟨some 50, .pick (.t 35) (.c (.bool true)) (.t 49), none⟩,
             ⟨some 51, .mv (.t 50), none⟩,
             ⟨some 52, .mv (.t 0), some (51, false)⟩,
             ⟨some 53, .mv (.t 5), some (51, false)⟩,
             ⟨some 54, .elemAddr 1 (.t 52) (.t 53), some (51, false)⟩,
             ⟨some 55, .load false 1 (.t 54), some (51, false)⟩,
             ⟨some 56, .mv (.t 1), some (51, false)⟩,
             ⟨some 57, .bin .geq (.t 55) (.t 56), some (51, false)⟩,
             ⟨some 58, .pick (.t 51) (.c (.bool true)) (.t 57), none⟩]) (
           (.cond (.t 58) (
            (.seq (
             .region [] [
               ⟨some 4, .mv (.c (.bool false)), none⟩]) (
             .ret))) (
            .skip))))))) (
         .region [] [
           ⟨some 24, .mv (.t 5), none⟩,
           ⟨some 25, .bin .add (.t 24) (.c (.int .i64 1)), none⟩,
           ⟨some 5, .mv (.t 25), none⟩]))))))))))) (
    (.seq (
     .region [] [
       ⟨some 4, .mv (.c (.bool true)), none⟩]) (
     .ret))))))))⟩

def a19 : AFunc := ⟨[.tmp 6],
 (.seq (
  .region [] [
    ⟨some 4, .box 1 (.t 1), none⟩,
    ⟨some 6, .mv (.c (.int .i64 0)), none⟩]) (
  (.seq (
   .region [] [
     ⟨some 7, .mv (.c (.int .i64 0)), none⟩]) (
   (.seq (
    (.seq (
     .region [] [
       ⟨some 8, .mv (.c (.int .i64 0)), none⟩]) (
     (.block 0 (
      (.loop (
       (.seq (
        (.seq (
         .region [] [
           ⟨some 12, .mv (.t 8), none⟩,
           ⟨some 13, .mv (.t 2), none⟩,
           ⟨some 14, .len (.t 13), none⟩,
           ⟨some 15, .bin .lss (.t 12) (.t 14), none⟩]) (
         (.cond (.t 15) (
          .skip) (
          .exit 0))))) (
        (.seq (
         (.block 1 (
          (.seq (
           .region [] [
             ⟨some 18, .mv (.t 0), none⟩,
             ⟨some 19, .len (.t 18), none⟩,
             ⟨some 20, .bin .sub (.t 19) (.c (.int .i64 1)), none⟩,
             ⟨some 9, .mv (.t 20), none⟩,
             ⟨some 10, .mv (.c (.bool true)), none⟩]) (
           (.seq (
            (.seq (
             .region [] [
               ⟨some 21, .mv (.t 8), none⟩,
               ⟨some 22, .bin .add (.t 21) (.c (.int .i64 1)), none⟩,
               ⟨some 23, .mv (.t 2), none⟩,
               ⟨some 24, .len (.t 23), none⟩,
               ⟨some 25, .bin .lss (.t 22) (.t 24), none⟩]) (
             (.cond (.t 25) (
              .region [] [
                ⟨some 26, .mv (.t 2), none⟩,
                ⟨some 27, .mv (.t 8), none⟩,
                ⟨some 28, .bin .add (.t 27) (.c (.int .i64 1)), none⟩,
                ⟨some 29, .elemAddr 1 (.t 26) (.t 28), none⟩,
                ⟨some 30, .load false 1 (.t 29), none⟩,
                ⟨some 31, .bin .sub (.t 30) (.c (.int .i64 1)), none⟩,
                ⟨some 9, .mv (.t 31), none⟩,
                ⟨some 10, .mv (.c (.bool false)), none⟩]) (
              .skip))))) (
            (.seq (
             .region [] [
               ⟨some 32, .mv (.t 0), none⟩,
               ⟨some 33, .load true 2 (.t 4), none⟩,
               ⟨some 34, .mv (.t 2), none⟩,
               ⟨some 35, .mv (.t 8), none⟩,
               ⟨some 36, .elemAddr 1 (.t 34) (.t 35), none⟩,
               ⟨some 37, .load false 1 (.t 36), none⟩,
               ⟨some 38, .mv (.t 9), none⟩,
               ⟨some 39, .mv (.t 8), none⟩,
               ⟨some 40, .mv (.t 10), none⟩,
               ⟨some 41, .call 0 (.c (.fn 25 [])) [(.t 32), (.t 33), (.t 37), (.t 38), (.t 39), (.t 40)], none⟩,
               ⟨some 11, .mv (.t 41), none⟩]) (
             (.seq (
              (.seq (
               .region [] [
                 ⟨some 42, .mv (.t 11), none⟩,
                 ⟨some 43, .bin .geq (.t 42) (.c (.int .i64 1125899906842624)), none⟩]) (
               (.cond (.t 43) (
                (.seq (
                 .region [] [
                   ⟨some 6, .mv (.c (.int .i64 1125899906842624)), none⟩]) (
                 .ret))) (
                .skip))))) (
              .region [] [
                ⟨some 44, .mv (.t 7), none⟩,
                ⟨some 45, .mv (.t 11), none⟩,
                ⟨some 46, .bin .add (.t 44) (.t 45), none⟩,
                ⟨some 7, .mv (.t 46), none⟩]))))))))))) (
         .region [] [
           ⟨some 16, .mv (.t 8), none⟩,
           ⟨some 17, .bin .add (.t 16) (.c (.int .i64 1)), none⟩,
           ⟨some 8, .mv (.t 17), none⟩]))))))))))) (
    (.seq (
     .region [] [
       ⟨some 47, .mv (.t 7), none⟩,
       ⟨some 6, .mv (.t 47), none⟩]) (
     .ret))))))))⟩

def a20 : AFunc := ⟨[.tmp 4],
 (.seq (
  .region [] [
    ⟨some 4, .mv (.c (.bool false)), none⟩]) (
  (.seq (
   (.seq (
    .region [] [
      ⟨some 6, .mv (.t 0), none⟩,
      ⟨some 7, .len (.t 6), none⟩,
      ⟨some 8, .mv (.t 1), none⟩,
      ⟨some 9, .len (.t 8), none⟩,
      ⟨some 10, .bin .neq (.t 7) (.t 9), none⟩]) (
    (.cond (.t 10) (
     (.seq (
      .region [] [
        ⟨some 11, .mv (.t 0), none⟩,
        ⟨some 12, .len (.t 11), none⟩,
        ⟨some 13, .mv (.t 1), none⟩,
        ⟨some 14, .len (.t 13), none⟩,
        ⟨some 15, .bin .lss (.t 12) (.t 14), none⟩,
        ⟨some 4, .mv (.t 15), none⟩]) (
      .ret))) (
     .skip))))) (
   (.seq (
    (.seq (
     .region [] [
       ⟨some 5, .mv (.c (.int .i64 0)), none⟩]) (
     (.block 0 (
      (.loop (
       (.seq (
        (.seq (
         .region [] [
           ⟨some 16, .mv (.t 5), none⟩,
           ⟨some 17, .mv (.t 0), none⟩,
           ⟨some 18, .len (.t 17), none⟩,
           ⟨some 19, .bin .lss (.t 16) (.t 18), none⟩]) (
         (.cond (.t 19) (
          .skip) (
          .exit 0))))) (
        (.seq (
         (.block 1 (
          (.seq (
           .region [] [
             ⟨some 22, .mv (.t 0), none⟩,
             ⟨some 23, .mv (.t 5), none⟩,
             ⟨some 24, .elemAddr 1 (.t 22) (.t 23), none⟩,
             ⟨some 25, .load false 1 (.t 24), none⟩,
             ⟨some 26, .mv (.t 1), none⟩,
             ⟨some 27, .mv (.t 5), none⟩,
             ⟨some 28, .elemAddr 1 (.t 26) (.t 27), none⟩,
             ⟨some 29, .load false 1 (.t 28), none⟩,
             ⟨some 30, .bin .neq (.t 25) (.t 29), none⟩]) (
           (.cond (.t 30) (
            (.seq (
             .region [] [
               ⟨some 31, .mv (.t 0), none⟩,
               ⟨some 32, .mv (.t 5), none⟩,
               ⟨some 33, .elemAddr 1 (.t 31) (.t 32), none⟩,
               ⟨some 34, .load false 1 (.t 33), none⟩,
               ⟨some 35, .mv (.t 1), none⟩,
               ⟨some 36, .mv (.t 5), none⟩,
               ⟨some 37, .elemAddr 1 (.t 35) (.t 36), none⟩,
               ⟨some 38, .load false 1 (.t 37), none⟩,
               ⟨some 39, .bin .lss (.t 34) (.t 38), none⟩,
               ⟨some 4, .mv (.t 39), none⟩]) (
             .ret))) (
            .skip))))))) (
         .region [] [
           ⟨some 20, .mv (.t 5), none⟩,
           ⟨some 21, .bin .add (.t 20) (.c (.int .i64 1)), none⟩,
           ⟨some 5, .mv (.t 21), none⟩]))))))))))) (
    (.seq (
     .region [] [
       ⟨some 4, .mv (.c (.bool false)), none⟩]) (
     .ret))))))))⟩

def a21 : AFunc := ⟨[.tmp 6, .tmp 7, .tmp 8],
 (.seq (
  .region [] [
    ⟨some 4, .box 1 (.t 1), none⟩,
    ⟨some 6, .mv (.c .nilsl), none⟩,
    ⟨some 7, .mv (.c .nilsl), none⟩,
    ⟨some 8, .mv (.c (.int .i64 0)), none⟩]) (
  (.seq (
   .region [] [
     ⟨some 10, .mv (.t 0), none⟩,
     ⟨some 11, .load true 2 (.t 4), none⟩,
     ⟨some 12, .call 0 (.c (.fn 12 [])) [(.t 10), (.t 11)], none⟩,
     ⟨some 8, .mv (.t 12), none⟩]) (
   (.seq (
    (.block 0 (
     (.seq (
      .region [] [
        ⟨some 14, .mv (.t 8), none⟩,
        ⟨some 15, .bin .neq (.t 14) (.c (.int .i64 0)), none⟩,
        ⟨some 13, .mv (.t 15), none⟩]) (
      (.cond (.t 13) (
       (.seq (
        .region [] [
          ⟨some 16, .mv (.t 8), none⟩,
          ⟨some 6, .mv (.c .nilsl), none⟩,
          ⟨some 7, .mv (.c .nilsl), none⟩,
          ⟨some 8, .mv (.t 16), none⟩]) (
        .ret))) (
       (.seq (
        .region [] [
          ⟨some 18, .mv (.t 0), none⟩,
          ⟨some 19, .len (.t 18), none⟩,
          ⟨some 20, .mv (.t 2), none⟩,
          ⟨some 21, .call 0 (.c (.fn 30 [])) [(.t 19), (.t 20)], none⟩,
          ⟨some 22, .not (.t 21), none⟩,
          ⟨some 17, .mv (.t 22), none⟩]) (
        (.cond (.t 17) (
         (.seq (
          .region [] [
            ⟨some 6, .mv (.c .nilsl), none⟩,
            ⟨some 7, .mv (.c .nilsl), none⟩,
            ⟨some 8, .mv (.c (.int .i64 25)), none⟩]) (
          .ret))) (
         .skip))))))))))) (
    (.seq (
     (.seq (
      .region [] [
        ⟨some 9, .mv (.c (.int .i64 0)), none⟩]) (
      (.block 1 (
       (.loop (
        (.seq (
         (.seq (
          .region [] [
            ⟨some 23, .mv (.t 9), none⟩,
            ⟨some 24, .bin .add (.t 23) (.c (.int .i64 1)), none⟩,
            ⟨some 25, .mv (.t 2), none⟩,
            ⟨some 26, .len (.t 25), none⟩,
            ⟨some 27, .bin .lss (.t 24) (.t 26), none⟩]) (
          (.cond (.t 27) (
           .skip) (
           .exit 1))))) (
         (.seq (
          (.block 2 (
           (.seq (
            .region [] [
              ⟨some 30, .mv (.t 6), none⟩,
              ⟨some 31, .mv (.t 9), none⟩,
              ⟨some 32, .lit 1 [(.int .i64 0)] 1 [(0, 1, (.t 31))], none⟩,
              ⟨some 33, .app 2 1 8 (.t 30) (.t 32), none⟩,
              ⟨some 6, .mv (.t 33), none⟩]) (
            .region [] [
              ⟨some 34, .mv (.t 7), none⟩,
              ⟨some 35, .mv (.t 0), none⟩,
              ⟨some 36, .mv (.t 2), none⟩,
              ⟨some 37, .mv (.t 9), none⟩,
              ⟨some 38, .bin .add (.t 37) (.c (.int .i64 1)), none⟩,
              ⟨some 39, .elemAddr 1 (.t 36) (.t 38), none⟩,
              ⟨some 40, .load false 1 (.t 39), none⟩,
              ⟨some 41, .bin .sub (.t 40) (.c (.int .i64 1)), none⟩,
              ⟨some 42, .elemAddr 4 (.t 35) (.t 41), none⟩,
              ⟨some 43, .fieldAddr 2 (.t 42), none⟩,
              ⟨some 44, .load false 1 (.t 43), none⟩,
              ⟨some 45, .fieldAddr 1 (.t 4), none⟩,
              ⟨some 46, .load false 1 (.t 45), none⟩,
              ⟨some 47, .bin .geq (.t 44) (.t 46), none⟩,
              ⟨some 48, .lit 1 [(.bool false)] 1 [(0, 1, (.t 47))], none⟩,
              ⟨some 49, .app 3 1 1 (.t 34) (.t 48), none⟩,
              ⟨some 7, .mv (.t 49), none⟩]))))) (
          .region [] [
            ⟨some 28, .mv (.t 9), none⟩,
            ⟨some 29, .bin .add (.t 28) (.c (.int .i64 2)), none⟩,
            ⟨some 9, .mv (.t 29), none⟩]))))))))))) (
     (.seq (
      .region [] [
        ⟨some 50, .mv (.t 6), none⟩,
        ⟨some 51, .mv (.t 7), none⟩,
        ⟨some 6, .mv (.t 50), none⟩,
        ⟨some 7, .mv (.t 51), none⟩,
        ⟨some 8, .mv (.c (.int .i64 0)), none⟩]) (
      .ret))))))))))⟩

def a22 : AFunc := ⟨[.tmp 6, .tmp 7],
 (.seq (
  .region [] [
    ⟨some 6, .mv (.c (.int .i64 0)), none⟩,
    ⟨some 7, .mv (.c (.int .i64 0)), none⟩]) (
  (.seq (
   (.seq (
    .region [] [
      ⟨some 9, .mv (.t 0), none⟩,
      ⟨some 10, .build [(.int .i64 0), (.int .i64 0)] [(0, 1, (.c (.int .i64 1)))], none⟩,
      ⟨some 11, .mv (.t 1), none⟩,
      ⟨some 12, .mv (.t 2), none⟩,
      ⟨some 13, .call 0 (.c (.fn 34 [])) [(.t 9), (.t 10), (.t 11), (.t 12)], none⟩,
      ⟨some 8, .mv (.t 13), none⟩]) (
    (.seq (
     .region [] [
       ⟨some 14, .mv (.t 8), none⟩,
       ⟨some 15, .bin .neq (.t 14) (.c (.int .i64 0)), none⟩]) (
     (.cond (.t 15) (
      (.seq (
       .region [] [
         ⟨some 16, .mv (.t 8), none⟩,
         ⟨some 6, .mv (.c (.int .i64 0)), none⟩,
         ⟨some 7, .mv (.t 16), none⟩]) (
       .ret))) (
      .skip))))))) (
   (.seq (
    .region [] [
      ⟨some 17, .mv (.t 0), none⟩,
      ⟨some 18, .mv (.t 1), none⟩,
      ⟨some 19, .mv (.t 2), none⟩,
      ⟨some 20, .bin .add (.t 19) (.c (.int .i64 1)), none⟩,
      ⟨some 21, .sub 4 (.t 17) (some (.t 18)) (some (.t 20)) none, none⟩,
      ⟨some 22, .call 0 (.c (.fn 33 [])) [(.t 21)], none⟩,
      ⟨some 6, .mv (.t 22), none⟩,
      ⟨some 7, .mv (.c (.int .i64 0)), none⟩]) (
    .ret))))))⟩

def a23 : AFunc := ⟨[.tmp 12, .tmp 13],
 (.seq (
  .region [] [
    ⟨some 7, .box 1 (.t 1), none⟩,
    ⟨some 12, .mv (.c (.int .i64 0)), none⟩,
    ⟨some 13, .mv (.c (.int .i64 0)), none⟩]) (
  (.seq (
   .region [] [
     ⟨some 16, .mv (.t 0), none⟩,
     ⟨some 17, .load true 2 (.t 7), none⟩,
     ⟨some 18, .mv (.t 2), none⟩,
     ⟨some 19, .mv (.t 3), none⟩,
     ⟨some 20, .call 0 (.c (.fn 34 [])) [(.t 16), (.t 17), (.t 18), (.t 19)], none⟩,
     ⟨some 14, .mv (.t 20), none⟩]) (
   (.seq (
    (.block 0 (
     (.seq (
      .region [] [
        ⟨some 22, .mv (.t 14), none⟩,
        ⟨some 23, .bin .neq (.t 22) (.c (.int .i64 0)), none⟩,
        ⟨some 21, .mv (.t 23), none⟩]) (
      (.cond (.t 21) (
       (.seq (
        .region [] [
          ⟨some 24, .mv (.t 14), none⟩,
          ⟨some 12, .mv (.c (.int .i64 0)), none⟩,
          ⟨some 13, .mv (.t 24), none⟩]) (
        .ret))) (
       (.seq (
        .region [] [
          ⟨some 26, .mv (.t 4), none⟩,
          ⟨some 27, .bin .lss (.t 26) (.c (.int .i64 0)), none⟩,
          ⟨some 25, .mv (.t 27), none⟩]) (
        (.cond (.t 25) (
         (.seq (
          .region [] [
            ⟨some 12, .mv (.c (.int .i64 0)), none⟩,
            ⟨some 13, .mv (.c (.int .i64 2)), none⟩]) (
          .ret))) (
         .skip))))))))))) (
    (.seq (
     .region [] [
       ⟨some 28, .mv (.t 0), none⟩,
       ⟨some 29, .mv (.t 2), none⟩,
       ⟨some 30, .mv (.t 3), none⟩,
       ⟨some 31, .bin .add (.t 30) (.c (.int .i64 1)), none⟩,
       ⟨some 32, .sub 4 (.t 28) (some (.t 29)) (some (.t 31)) none, none⟩,
       ⟨some 15, .mv (.t 32), none⟩]) (
     (.seq (
      .region [] [
        ⟨some 33, .load true 2 (.t 7), none⟩,
        ⟨some 34, .mv (.t 15), none⟩,
        ⟨some 35, .mv (.t 15), none⟩,
        ⟨some 36, .call 0 (.c (.fn 33 [])) [(.t 35)], none⟩,
        ⟨some 37, .mv (.t 2), none⟩,
        ⟨some 38, .mv (.t 4), none⟩,
        ⟨some 39, .bin .rem (.t 38) (.c (.int .i64 2)), none⟩,
        ⟨some 40, .bin .eql (.t 39) (.c (.int .i64 0)), none⟩,
        ⟨some 41, .mv (.t 5), none⟩,
        ⟨some 42, .build [(.int .i64 0), (.bool false), (.bool false)] [(0, 1, (.t 37)), (1, 1, (.t 40)), (2, 1, (.t 41))], none⟩,
        ⟨some 43, .call 0 (.c (.fn 32 [])) [(.t 33), (.t 34), (.t 36), (.t 42)], none⟩,
        ⟨some 12, .mv (.t 43), none⟩,
        ⟨some 13, .mv (.c (.int .i64 0)), none⟩]) (
      .ret))))))))))⟩

def a24 : AFunc := ⟨[.tmp 6],
 (.seq (
  .region [] [
    ⟨some 6, .mv (.c (.int .i64 0)), none⟩]) (
  (.seq (
   .region [] [
     ⟨some 7, .mv (.c (.int .i64 0)), none⟩]) (
   (.seq (
    (.seq (
     .region [] [
       ⟨some 9, .mv (.t 1), none⟩,
       ⟨some 8, .mv (.t 9), none⟩]) (
     (.block 0 (
      (.loop (
       (.seq (
        (.seq (
         .region [] [
           ⟨some 10, .mv (.t 8), none⟩,
           ⟨some 11, .mv (.t 2), none⟩,
           ⟨some 12, .bin .leq (.t 10) (.t 11), none⟩]) (
         (.cond (.t 12) (
          .skip) (
          .exit 0))))) (
        (.seq (
         (.block 1 (
          (.seq (
           .region [] [
             ⟨some 15, .mv (.t 7), none⟩,
             ⟨some 16, .mv (.t 0), none⟩,
             ⟨some 17, .mv (.t 8), none⟩,
             ⟨some 18, .elemAddr 4 (.t 16) (.t 17), none⟩,
             ⟨some 19, .fieldAddr 0 (.t 18), none⟩,
             ⟨some 20, .load false 1 (.t 19), none⟩,
             ⟨some 21, .bin .add (.t 15) (.t 20), none⟩,
             ⟨some 7, .mv (.t 21), none⟩]) (
           (.seq (
            .region [] [
              ⟨some 22, .mv (.t 8), none⟩,
              ⟨some 23, .mv (.t 1), none⟩,
              ⟨some 24, .bin .gtr (.t 22) (.t 23), none⟩]) (
            (.cond (.t 24) (
             .region [] [
               ⟨some 25, .mv (.t 7), none⟩,
               ⟨some 26, .mv (.t 0), none⟩,
               ⟨some 27, .mv (.t 8), none⟩,
               ⟨some 28, .elemAddr 4 (.t 26) (.t 27), none⟩,
               ⟨some 29, .fieldAddr 1 (.t 28), none⟩,
               ⟨some 30, .load false 1 (.t 29), none⟩,
               ⟨some 31, .bin .add (.t 25) (.t 30), none⟩,
               ⟨some 7, .mv (.t 31), none⟩]) (
             .skip))))))))) (
         .region [] [
           ⟨some 13, .mv (.t 8), none⟩,
           ⟨some 14, .bin .add (.t 13) (.c (.int .i64 1)), none⟩,
           ⟨some 8, .mv (.t 14), none⟩]))))))))))) (
    (.seq (
     .region [] [
       ⟨some 32, .mv (.t 7), none⟩,
       ⟨some 6, .mv (.t 32), none⟩]) (
     .ret))))))))⟩

def a25 : AFunc := ⟨[.tmp 12],
 (.seq (
  .region [] [
    ⟨some 7, .box 1 (.t 1), none⟩,
    ⟨some 12, .mv (.c (.int .i64 0)), none⟩]) (
  (.seq (
   (.seq (
    .region [] [
      ⟨some 17, .mv (.t 2), none⟩,
      ⟨some 18, .bin .add (.t 17) (.c (.int .i64 1)), none⟩,
      ⟨some 13, .mv (.t 18), none⟩]) (
    (.block 0 (
     (.loop (
      (.seq (
       (.seq (
        .region [] [
          ⟨some 19, .mv (.t 13), none⟩,
          ⟨some 20, .mv (.t 3), none⟩,
          ⟨some 21, .bin .leq (.t 19) (.t 20), none⟩]) (
        (.cond (.t 21) (
         .skip) (
         .exit 0))))) (
       (.seq (
        (.block 1 (
         (.seq (
          .region [] [
            ⟨some 24, .mv (.t 0), none⟩,
            ⟨some 25, .mv (.t 13), none⟩,
            ⟨some 26, .elemAddr 4 (.t 24) (.t 25), none⟩,
            ⟨some 27, .fieldAddr 3 (.t 26), none⟩,
            ⟨some 28, .load false 1 (.t 27), none⟩,
            ⟨some 29, .bin .eql (.t 28) (.c (.int .i64 2)), none⟩]) (
          (.cond (.t 29) (
           (.seq (
            .region [] [
              ⟨some 12, .mv (.c (.int .i64 1125899906842624)), none⟩]) (
            .ret))) (
           .skip))))))) (
        .region [] [
          ⟨some 22, .mv (.t 13), none⟩,
          ⟨some 23, .bin .add (.t 22) (.c (.int .i64 1)), none⟩,
          ⟨some 13, .mv (.t 23), none⟩]))))))))))) (
   (.seq (
    .region [] [
      ⟨some 30, .mv (.t 0), none⟩,
      ⟨some 31, .mv (.t 2), none⟩,
      ⟨some 32, .mv (.t 3), none⟩,
      ⟨some 33, .call 0 (.c (.fn 24 [])) [(.t 30), (.t 31), (.t 32)], none⟩,
      ⟨some 14, .mv (.t 33), none⟩]) (
    (.seq (
     (.seq (
      .region [] [
        ⟨some 34, .mv (.t 2), none⟩,
        ⟨some 35, .bin .gtr (.t 34) (.c (.int .i64 0)), none⟩,
        ⟨some 36, .mv (.t 35), none⟩,
        ⟨some 37, .mv (.t 0), some (36, true)⟩,
        ⟨some 38, .mv (.t 2), some (36, true)⟩,
        ⟨some 39, .elemAddr 4 (.t 37) (.t 38), some (36, true)⟩,
        ⟨some 40, .fieldAddr 3 (.t 39), some (36, true)⟩,
        ⟨some 41, .load false 1 (.t 40), some (36, true)⟩,
        ⟨some 42, .bin .eql (.t 41) (.c (.int .i64 3)), some (36, true)⟩,
        ⟨some 43, .pick (.t 36) (.t 42) (.c (.bool false)), none⟩,
        ⟨some 44, .mv (.t 43), none⟩,
        ⟨some 45, .mv (.t 14), some (44, false)⟩,
        ⟨some 46, .fieldAddr 0 (.t 7), some (44, false)⟩,
        ⟨some 47, .load false 1 (.t 46), some (44, false)⟩,
        ⟨some 48, .bin .gtr (.t 45) (.t 47), some (44, false)⟩,
        ⟨some 49, .mv (.t 48), some (44, false)⟩,
        ⟨some 50, .mv (.t 3), some (49, true)⟩,
        ⟨some 51, .mv (.t 2), some (49, true)⟩,
        ⟨some 52, .bin .gtr (.t 50) (.t 51), some (49, true)⟩,
        ⟨some 53, .pick (.t 49) (.t 52) (.c (.bool false)), some (44, false)⟩,
        ⟨some 54, .pick (.t 44) (.c (.bool true)) (.t 53), none⟩]) (
      (.cond (.t 54) (
       (.seq (
        .region [] [
          ⟨some 12, .mv (.c (.int .i64 1125899906842624)), none⟩]) (
        .ret))) (
       .skip))))) (
     (.seq (
      .region [] [
        ⟨some 15, .mv (.c (.int .i64 0)), none⟩]) (
      (.seq (
       (.seq (
        .region [] [
          ⟨some 55, .mv (.t 14), none⟩,
          ⟨some 56, .fieldAddr 0 (.t 7), none⟩,
          ⟨some 57, .load false 1 (.t 56), none⟩,
          ⟨some 58, .bin .gtr (.t 55) (.t 57), none⟩]) (
        (.cond (.t 58) (
         .region [] [
           ⟨some 15, .mv (.c (.int .i64 549755813888)), none⟩]) (
         .skip))))) (
       (.seq (
        (.seq (
         .region [] [
           ⟨some 59, .mv (.t 5), none⟩,
           ⟨some 60, .not (.t 59), none⟩,
           ⟨some 61, .mv (.t 60), none⟩,
           ⟨some 62, .mv (.t 14), some (61, true)⟩,
           ⟨some 63, .fieldAddr 0 (.t 7), some (61, true)⟩,
           ⟨some 64, .load false 1 (.t 63), some (61, true)⟩,
           ⟨some 65, .bin .leq (.t 62) (.t 64), some (61, true)⟩,
           ⟨some 66, .pick (.t 61) (.t 65) (.c (.bool false)), none⟩]) (
         (.cond (.t 66) (
          (.seq (
           .region [] [
             ⟨some 67, .fieldAddr 0 (.t 7), none⟩,
             ⟨some 68, .load false 1 (.t 67), none⟩,
             ⟨some 69, .mv (.t 14), none⟩,
             ⟨some 70, .bin .sub (.t 68) (.t 69), none⟩,
             ⟨some 71, .bin .mul (.c (.int .i64 100)) (.t 70), none⟩,
             ⟨some 72, .fieldAddr 0 (.t 7), none⟩,
             ⟨some 73, .load false 1 (.t 72), none⟩,
             ⟨some 74, .bin .quo (.t 71) (.t 73), none⟩,
             ⟨some 16, .mv (.t 74), none⟩]) (
           .region [] [
             ⟨some 75, .mv (.t 15), none⟩,
             ⟨some 76, .mv (.t 16), none⟩,
             ⟨some 77, .mv (.t 16), none⟩,
             ⟨some 78, .bin .mul (.t 76) (.t 77), none⟩,
             ⟨some 79, .bin .add (.t 75) (.t 78), none⟩,
             ⟨some 15, .mv (.t 79), none⟩]))) (
          .skip))))) (
        (.seq (
         (.seq (
          .region [] [
            ⟨some 80, .fieldAddr 1 (.t 7), none⟩,
            ⟨some 81, .load false 1 (.t 80), none⟩,
            ⟨some 82, .bin .neq (.t 81) (.c (.int .i64 0)), none⟩,
            ⟨some 83, .mv (.t 82), none⟩,
            ⟨some 84, .mv (.t 4), some (83, true)⟩,
            ⟨some 85, .bin .rem (.t 84) (.c (.int .i64 2)), some (83, true)⟩,
            ⟨some 86, .bin .eql (.t 85) (.c (.int .i64 0)), some (83, true)⟩,
            ⟨some 87, .pick (.t 83) (.t 86) (.c (.bool false)), none⟩,
            ⟨some 88, .mv (.t 87), none⟩,
            ⟨some 89, .mv (.t 5), some (88, true)⟩,
            ⟨some 90, .not (.t 89), some (88, true)⟩,
            ⟨some 91, .pick (.t 88) (.t 90) (.c (.bool false)), none⟩,
            ⟨some 92, .mv (.t 91), none⟩,
            ⟨some 93, .mv (.t 0), some (92, true)⟩,
            ⟨some 94, .mv (.t 3), some (92, true)⟩,
            ⟨some 95, .elemAddr 4 (.t 93) (.t 94), some (92, true)⟩,
            ⟨some 96, .fieldAddr 2 (.t 95), some (92, true)⟩,
            ⟨some 97, .load false 1 (.t 96), some (92, true)⟩,
            ⟨some 98, .fieldAddr 1 (.t 7), some (92, true)⟩,
            ⟨some 99, .load false 1 (.t 98), some (92, true)⟩,
            ⟨some 100, .bin .lss (.t 97) (.t 99), some (92, true)⟩,
            ⟨some 101, .pick (.t 92) (.t 100) (.c (.bool false)), none⟩]) (
          (.cond (.t 101) (
           .region [] [
             ⟨some 102, .mv (.t 15), none⟩,
             ⟨some 103, .bin .add (.t 102) (.c (.int .i64 1048576)), none⟩,
             ⟨some 15, .mv (.t 103), none⟩]) (
           .skip))))) (
         (.seq (
          .region [] [
            ⟨some 104, .mv (.t 15), none⟩,
            ⟨some 12, .mv (.t 104), none⟩]) (
          .ret))))))))))))))))))⟩

def a26 : AFunc := ⟨[.tmp 10, .tmp 11],
 (.seq (
  .region [] [
    ⟨some 6, .box 1 (.t 1), none⟩,
    ⟨some 10, .mv (.c .nilsl), none⟩,
    ⟨some 11, .mv (.c (.int .i64 0)), none⟩]) (
  (.seq (
   (.seq (
    .region [] [
      ⟨some 19, .mv (.t 0), none⟩,
      ⟨some 20, .load true 2 (.t 6), none⟩,
      ⟨some 21, .mv (.t 2), none⟩,
      ⟨some 22, .mv (.t 3), none⟩,
      ⟨some 23, .call 0 (.c (.fn 34 [])) [(.t 19), (.t 20), (.t 21), (.t 22)], none⟩,
      ⟨some 12, .mv (.t 23), none⟩]) (
    (.seq (
     .region [] [
       ⟨some 24, .mv (.t 12), none⟩,
       ⟨some 25, .bin .neq (.t 24) (.c (.int .i64 0)), none⟩]) (
     (.cond (.t 25) (
      (.seq (
       .region [] [
         ⟨some 26, .mv (.t 12), none⟩,
         ⟨some 10, .mv (.c .nilsl), none⟩,
         ⟨some 11, .mv (.t 26), none⟩]) (
       .ret))) (
      .skip))))))) (
   (.seq (
    .region [] [
      ⟨some 27, .mv (.t 0), none⟩,
      ⟨some 28, .mv (.t 2), none⟩,
      ⟨some 29, .mv (.t 3), none⟩,
      ⟨some 30, .bin .add (.t 29) (.c (.int .i64 1)), none⟩,
      ⟨some 31, .sub 4 (.t 27) (some (.t 28)) (some (.t 30)) none, none⟩,
      ⟨some 13, .mv (.t 31), none⟩]) (
    (.seq (
     .region [] [
       ⟨some 32, .fieldAddr 0 (.t 6), none⟩,
       ⟨some 33, .load false 1 (.t 32), none⟩,
       ⟨some 34, .mv (.t 13), none⟩,
       ⟨some 35, .call 0 (.c (.fn 33 [])) [(.t 34)], none⟩,
       ⟨some 36, .bin .sub (.t 33) (.t 35), none⟩,
       ⟨some 14, .mv (.t 36), none⟩]) (
     (.seq (
      (.seq (
       .region [] [
         ⟨some 37, .mv (.t 14), none⟩,
         ⟨some 38, .bin .lss (.t 37) (.c (.int .i64 0)), none⟩]) (
       (.cond (.t 38) (
        (.seq (
         .region [] [
           ⟨some 10, .mv (.c .nilsl), none⟩,
           ⟨some 11, .mv (.c (.int .i64 28)), none⟩]) (
         .ret))) (
        .skip))))) (
      (.seq (
       .region [] [
         ⟨some 39, .mv (.t 13), none⟩,
         ⟨some 40, .len (.t 39), none⟩,
         ⟨some 41, .bin .sub (.t 40) (.c (.int .i64 1)), none⟩,
         ⟨some 15, .mv (.t 41), none⟩]) (
       (.seq (
        (.seq (
         .region [] [
           ⟨some 42, .mv (.t 4), none⟩,
           ⟨some 43, .not (.t 42), none⟩,
           ⟨some 44, .mv (.t 43), none⟩,
           ⟨some 45, .mv (.t 15), some (44, false)⟩,
           ⟨some 46, .bin .eql (.t 45) (.c (.int .i64 0)), some (44, false)⟩,
           ⟨some 47, .pick (.t 44) (.c (.bool true)) (.t 46), none⟩]) (
         (.cond (.t 47) (
          .region [] [
            ⟨some 14, .mv (.c (.int .i64 0)), none⟩,
            ⟨some 15, .mv (.c (.int .i64 1)), none⟩]) (
          .skip))))) (
        (.seq (
         .region [] [
           ⟨some 48, .lit 1 [(.int .i64 0)] 1 [(0, 1, (.c (.int .i64 0)))], none⟩,
           ⟨some 16, .mv (.t 48), none⟩]) (
         (.seq (
          (.seq (
           .region [] [
             ⟨some 17, .mv (.c (.int .i64 1)), none⟩]) (
           (.block 0 (
            (.loop (
             (.seq (
              (.seq (
               .region [] [
                 ⟨some 49, .mv (.t 17), none⟩,
                 ⟨some 50, .mv (.t 13), none⟩,
                 ⟨some 51, .len (.t 50), none⟩,
                 ⟨some 52, .bin .lss (.t 49) (.t 51), none⟩]) (
               (.cond (.t 52) (
                .skip) (
                .exit 0))))) (
              (.seq (
               (.block 1 (
                (.seq (
                 .region [] [
                   ⟨some 55, .mv (.t 14), none⟩,
                   ⟨some 56, .mv (.t 15), none⟩,
                   ⟨some 57, .bin .quo (.t 55) (.t 56), none⟩,
                   ⟨some 18, .mv (.t 57), none⟩]) (
                 (.seq (
                  (.seq (
                   .region [] [
                     ⟨some 58, .mv (.t 17), none⟩,
                     ⟨some 59, .mv (.t 14), none⟩,
                     ⟨some 60, .mv (.t 15), none⟩,
                     ⟨some 61, .bin .rem (.t 59) (.t 60), none⟩,
                     ⟨some 62, .bin .leq (.t 58) (.t 61), none⟩]) (
                   (.cond (.t 62) (
                    .region [] [
                      ⟨some 63, .mv (.t 18), none⟩,
                      ⟨some 64, .bin .add (.t 63) (.c (.int .i64 1)), none⟩,
                      ⟨some 18, .mv (.t 64), none⟩]) (
                    .skip))))) (
                  .region [] [
                    ⟨some 65, .mv (.t 16), none⟩,
                    ⟨some 66, .mv (.t 16), none⟩,
                    ⟨some 67, .mv (.t 17), none⟩,
                    ⟨some 68, .bin .sub (.t 67) (.c (.int .i64 1)), none⟩,
                    ⟨some 69, .elemAddr 1 (.t 66) (.t 68), none⟩,
                    ⟨some 70, .load false 1 (.t 69), none⟩,
                    ⟨some 71, .mv (.t 13), none⟩,
                    ⟨some 72, .mv (.t 17), none⟩,
                    ⟨some 73, .bin .sub (.t 72) (.c (.int .i64 1)), none⟩,
                    ⟨some 74, .elemAddr 4 (.t 71) (.t 73), none⟩,
                    ⟨some 75, .fieldAddr 0 (.t 74), none⟩,
                    ⟨some 76, .load false 1 (.t 75), none⟩,
                    ⟨some 77, .bin .add (.t 70) (.t 76), none⟩,
                    ⟨some 78, .mv (.t 13), none⟩,
                    ⟨some 79, .mv (.t 17), none⟩,
                    ⟨some 80, .elemAddr 4 (.t 78) (.t 79), none⟩,
                    ⟨some 81, .fieldAddr 1 (.t 80), none⟩,
                    ⟨some 82, .load false 1 (.t 81), none⟩,
                    ⟨some 83, .bin .add (.t 77) (.t 82), none⟩,
                    ⟨some 84, .mv (.t 18), none⟩,
                    ⟨some 85, .bin .add (.t 83) (.t 84), none⟩,
                    ⟨some 86, .lit 1 [(.int .i64 0)] 1 [(0, 1, (.t 85))], none⟩,
                    ⟨some 87, .app 2 1 8 (.t 65) (.t 86), none⟩,
                    ⟨some 16, .mv (.t 87), none⟩]))))))) (
               .region [] [
                 ⟨some 53, .mv (.t 17), none⟩,
                 ⟨some 54, .bin .add (.t 53) (.c (.int .i64 1)), none⟩,
                 ⟨some 17, .mv (.t 54), none⟩]))))))))))) (
          (.seq (
           .region [] [
             ⟨some 88, .mv (.t 16), none⟩,
             ⟨some 10, .mv (.t 88), none⟩,
             ⟨some 11, .mv (.c (.int .i64 0)), none⟩]) (
           .ret))))))))))))))))))))⟩

def a27 : AFunc := ⟨[.tmp 10],
 (.seq (
  .region [] [
    ⟨some 6, .box 1 (.t 1), none⟩,
    ⟨some 10, .mv (.c .nilsl), none⟩]) (
  (.seq (
   .region [] [
     ⟨some 16, .lit 1 [(.int .i64 0)] 1 [(0, 1, (.c (.int .i64 0)))], none⟩,
     ⟨some 11, .mv (.t 16), none⟩]) (
   (.seq (
    .region [] [
      ⟨some 17, .fieldAddr 0 (.t 6), none⟩,
      ⟨some 18, .load false 1 (.t 17), none⟩,
      ⟨some 19, .mv (.t 0), none⟩,
      ⟨some 20, .mv (.t 2), none⟩,
      ⟨some 21, .mv (.t 3), none⟩,
      ⟨some 22, .call 0 (.c (.fn 24 [])) [(.t 19), (.t 20), (.t 21)], none⟩,
      ⟨some 23, .bin .sub (.t 18) (.t 22), none⟩,
      ⟨some 12, .mv (.t 23), none⟩]) (
    (.seq (
     .region [] [
       ⟨some 24, .mv (.t 3), none⟩,
       ⟨some 25, .mv (.t 2), none⟩,
       ⟨some 26, .bin .sub (.t 24) (.t 25), none⟩,
       ⟨some 13, .mv (.t 26), none⟩]) (
     (.seq (
      (.seq (
       .region [] [
         ⟨some 27, .mv (.t 2), none⟩,
         ⟨some 28, .bin .add (.t 27) (.c (.int .i64 1)), none⟩,
         ⟨some 14, .mv (.t 28), none⟩]) (
       (.block 0 (
        (.loop (
         (.seq (
          (.seq (
           .region [] [
             ⟨some 29, .mv (.t 14), none⟩,
             ⟨some 30, .mv (.t 3), none⟩,
             ⟨some 31, .bin .leq (.t 29) (.t 30), none⟩]) (
           (.cond (.t 31) (
            .skip) (
            .exit 0))))) (
          (.seq (
           (.block 1 (
            (.seq (
             .region [] [
               ⟨some 15, .mv (.c (.int .i64 0)), none⟩]) (
             (.seq (
              (.seq (
               .region [] [
                 ⟨some 34, .mv (.t 4), none⟩]) (
               (.cond (.t 34) (
                (.seq (
                 .region [] [
                   ⟨some 35, .mv (.t 12), none⟩,
                   ⟨some 36, .mv (.t 13), none⟩,
                   ⟨some 37, .bin .quo (.t 35) (.t 36), none⟩,
                   ⟨some 15, .mv (.t 37), none⟩]) (
                 (.seq (
                  .region [] [
                    ⟨some 38, .mv (.t 14), none⟩,
                    ⟨some 39, .mv (.t 2), none⟩,
                    ⟨some 40, .bin .sub (.t 38) (.t 39), none⟩,
                    ⟨some 41, .mv (.t 12), none⟩,
                    ⟨some 42, .mv (.t 13), none⟩,
                    ⟨some 43, .bin .rem (.t 41) (.t 42), none⟩,
                    ⟨some 44, .bin .leq (.t 40) (.t 43), none⟩]) (
                  (.cond (.t 44) (
                   .region [] [
                     ⟨some 45, .mv (.t 15), none⟩,
                     ⟨some 46, .bin .add (.t 45) (.c (.int .i64 1)), none⟩,
                     ⟨some 15, .mv (.t 46), none⟩]) (
                   .skip))))))) (
                .skip))))) (
              .region [] [
                ⟨some 47, .mv (.t 11), none⟩,
                ⟨some 48, .mv (.t 11), none⟩,
                ⟨some 49, .mv (.t 11), none⟩,
                ⟨some 50, .len (.t 49), none⟩,
                ⟨some 51, .bin .sub (.t 50) (.c (.int .i64 1)), none⟩,
                ⟨some 52, .elemAddr 1 (.t 48) (.t 51), none⟩,
                ⟨some 53, .load false 1 (.t 52), none⟩,
                ⟨some 54, .mv (.t 0), none⟩,
                ⟨some 55, .mv (.t 14), none⟩,
                ⟨some 56, .bin .sub (.t 55) (.c (.int .i64 1)), none⟩,
                ⟨some 57, .elemAddr 4 (.t 54) (.t 56), none⟩,
                ⟨some 58, .fieldAddr 0 (.t 57), none⟩,
                ⟨some 59, .load false 1 (.t 58), none⟩,
                ⟨some 60, .bin .add (.t 53) (.t 59), none⟩,
                ⟨some 61, .mv (.t 0), none⟩,
                ⟨some 62, .mv (.t 14), none⟩,
                ⟨some 63, .elemAddr 4 (.t 61) (.t 62), none⟩,
                ⟨some 64, .fieldAddr 1 (.t 63), none⟩,
                ⟨some 65, .load false 1 (.t 64), none⟩,
                ⟨some 66, .bin .add (.t 60) (.t 65), none⟩,
                ⟨some 67, .mv (.t 15), none⟩,
                ⟨some 68, .bin .add (.t 66) (.t 67), none⟩,
                ⟨some 69, .lit 1 [(.int .i64 0)] 1 [(0, 1, (.t 68))], none⟩,
                ⟨some 70, .app 2 1 8 (.t 47) (.t 69), none⟩,
                ⟨some 11, .mv (.t 70), none⟩]))))))) (
           .region [] [
             ⟨some 32, .mv (.t 14), none⟩,
             ⟨some 33, .bin .add (.t 32) (.c (.int .i64 1)), none⟩,
             ⟨some 14, .mv (.t 33), none⟩]))))))))))) (
      (.seq (
       .region [] [
         ⟨some 71, .mv (.t 11), none⟩,
         ⟨some 10, .mv (.t 71), none⟩]) (
       .ret))))))))))))⟩

def a28 : AFunc := ⟨[.cell 10 true 3],
 (.seq (
  .region [] [
    ⟨some 5, .box 1 (.t 0), none⟩,
    ⟨some 10, .alloc 2 [(.int .i64 0), (.int .i64 0), (.int .i64 0)], none⟩]) (
  (.seq (
   .region [] [
     ⟨some 16, .mv (.t 1), none⟩,
     ⟨some 17, .len (.t 16), none⟩,
     ⟨some 18, .bin .add (.t 17) (.c (.int .i64 1)), none⟩,
     ⟨some 19, .build [(.int .i64 0), (.int .i64 0), (.int .i64 0)] [(0, 1, (.c (.int .i64 1125899906842624))), (1, 1, (.t 18))], none⟩,
     ⟨some 11, .alloc 3 [(.int .i64 0), (.int .i64 0), (.int .i64 0)], none⟩,
     ⟨none, .store 3 (.t 11) (.t 19), none⟩]) (
   (.seq (
    .region [] [
      ⟨some 20, .mv (.t 1), none⟩,
      ⟨some 21, .mv (.t 2), none⟩,
      ⟨some 22, .elemAddr 4 (.t 20) (.t 21), none⟩,
      ⟨some 23, .fieldAddr 1 (.t 22), none⟩,
      ⟨some 24, .load false 1 (.t 23), none⟩,
      ⟨some 25, .neg (.t 24), none⟩,
      ⟨some 12, .mv (.t 25), none⟩]) (
    (.seq (
     (.seq (
      .region [] [
        ⟨some 26, .mv (.t 2), none⟩,
        ⟨some 27, .bin .add (.t 26) (.c (.int .i64 1)), none⟩,
        ⟨some 13, .mv (.t 27), none⟩]) (
      (.block 0 (
       (.loop (
        (.seq (
         (.seq (
          .region [] [
            ⟨some 28, .mv (.t 13), none⟩,
            ⟨some 29, .mv (.t 1), none⟩,
            ⟨some 30, .len (.t 29), none⟩,
            ⟨some 31, .bin .leq (.t 28) (.t 30), none⟩]) (
          (.cond (.t 31) (
           .skip) (
           .exit 0))))) (
         (.seq (
          (.block 1 (
           (.seq (
            .region [] [
              ⟨some 34, .mv (.t 12), none⟩,
              ⟨some 35, .mv (.t 1), none⟩,
              ⟨some 36, .mv (.t 13), none⟩,
              ⟨some 37, .bin .sub (.t 36) (.c (.int .i64 1)), none⟩,
              ⟨some 38, .elemAddr 4 (.t 35) (.t 37), none⟩,
              ⟨some 39, .fieldAddr 1 (.t 38), none⟩,
              ⟨some 40, .load false 1 (.t 39), none⟩,
              ⟨some 41, .mv (.t 1), none⟩,
              ⟨some 42, .mv (.t 13), none⟩,
              ⟨some 43, .bin .sub (.t 42) (.c (.int .i64 1)), none⟩,
              ⟨some 44, .elemAddr 4 (.t 41) (.t 43), none⟩,
              ⟨some 45, .fieldAddr 0 (.t 44), none⟩,
              ⟨some 46, .load false 1 (.t 45), none⟩,
              ⟨some 47, .bin .add (.t 40) (.t 46), none⟩,
              ⟨some 48, .bin .add (.t 34) (.t 47), none⟩,
              ⟨some 12, .mv (.t 48), none⟩]) (
            (.seq (
             (.seq (
              .region [] [
                ⟨some 49, .mv (.t 13), none⟩,
                ⟨some 50, .mv (.t 2), none⟩,
                ⟨some 51, .bin .add (.t 50) (.c (.int .i64 1)), none⟩,
                ⟨some 52, .bin .gtr (.t 49) (.t 51), none⟩,
                ⟨some 53, .mv (.t 52), none⟩,
                ⟨some 54, .mv (.t 12), some (53, true)⟩,
                ⟨some 55, .fieldAddr 0 (.t 5), some (53, true)⟩,
                ⟨some 56, .load false 1 (.t 55), some (53, true)⟩,
                ⟨some 57, .bin .gtr (.t 54) (.t 56), some (53, true)⟩,
                ⟨some 58, .mv (.t 57), some (53, true)⟩,
                ⟨some 59, .mv (.t 1), some (58, false)⟩,
                ⟨some 60, .mv (.t 13), some (58, false)⟩,
                ⟨some 61, .bin .sub (.t 60) (.c (.int .i64 1)), some (58, false)⟩,
                ⟨some 62, .elemAddr 4 (.t 59) (.t 61), some (58, false)⟩,
                ⟨some 63, .fieldAddr 3 (.t 62), some (58, false)⟩,
                ⟨some 64, .load false 1 (.t 63), some (58, false)⟩,
                ⟨some 65, .bin .eql (.t 64) (.c (.int .i64 2)), some (58, false)⟩,
                ⟨some 66, .pick (.t 58) (.c (.bool true)) (.t 65), some (53, true)⟩,
                ⟨some 67, .pick (.t 53) (.t 66) (.c (.bool false)), none⟩]) (
              (.cond (.t 67) (
               .exit 0) (
               .skip))))) (
             (.seq (
              .region [] [
                ⟨some 68, .mv (.t 4), none⟩,
                ⟨some 69, .mv (.t 13), none⟩,
                ⟨some 70, .mv (.t 3), none⟩,
                ⟨some 71, .bin .sub (.c (.int .i64 1)) (.t 70), none⟩,
                ⟨some 72, .elemAddr 6 (.t 68) (.t 69), none⟩,
                ⟨some 73, .arrAddr 2 3 (.t 72) (.t 71), none⟩,
                ⟨some 74, .load true 3 (.t 73), none⟩,
                ⟨some 14, .alloc 4 [(.int .i64 0), (.int .i64 0), (.int .i64 0)], none⟩,
                ⟨none, .store 3 (.t 14) (.t 74), none⟩]) (
              (.seq (
               .region [] [
                 ⟨some 75, .load true 2 (.t 5), none⟩,
                 ⟨some 76, .mv (.t 1), none⟩,
                 ⟨some 77, .mv (.t 2), none⟩,
                 ⟨some 78, .mv (.t 13), none⟩,
                 ⟨some 79, .sub 4 (.t 76) (some (.t 77)) (some (.t 78)) none, none⟩,
                 ⟨some 80, .mv (.t 12), none⟩,
                 ⟨some 81, .mv (.t 2), none⟩,
                 ⟨some 82, .mv (.t 3), none⟩,
                 ⟨some 83, .bin .eql (.t 82) (.c (.int .i64 0)), none⟩,
                 ⟨some 84, .mv (.t 13), none⟩,
                 ⟨some 85, .mv (.t 1), none⟩,
                 ⟨some 86, .len (.t 85), none⟩,
                 ⟨some 87, .bin .eql (.t 84) (.t 86), none⟩,
                 ⟨some 88, .build [(.int .i64 0), (.bool false), (.bool false)] [(0, 1, (.t 81)), (1, 1, (.t 83)), (2, 1, (.t 87))], none⟩,
                 ⟨some 89, .call 0 (.c (.fn 32 [])) [(.t 75), (.t 79), (.t 80), (.t 88)], none⟩,
                 ⟨some 90, .fieldAddr 0 (.t 14), none⟩,
                 ⟨some 91, .load false 1 (.t 90), none⟩,
                 ⟨some 92, .bin .add (.t 89) (.t 91), none⟩,
                 ⟨some 15, .mv (.t 92), none⟩]) (
               (.seq (
                .region [] [
                  ⟨some 93, .mv (.t 15), none⟩,
                  ⟨some 94, .fieldAddr 0 (.t 11), none⟩,
                  ⟨some 95, .load false 1 (.t 94), none⟩,
                  ⟨some 96, .bin .lss (.t 93) (.t 95), none⟩,
                  ⟨some 97, .mv (.t 96), none⟩,
                  ⟨some 98, .mv (.t 15), some (97, false)⟩,
                  ⟨some 99, .fieldAddr 0 (.t 11), some (97, false)⟩,
                  ⟨some 100, .load false 1 (.t 99), some (97, false)⟩,
                  ⟨some 101, .bin .eql (.t 98) (.t 100), some (97, false)⟩,
                  ⟨some 102, .mv (.t 101), some (97, false)⟩,
                  ⟨some 103, .mv (.t 15), some (102, true)⟩,
                  ⟨some 104, .bin .lss (.t 103) (.c (.int .i64 1125899906842624)), some (102, true)⟩,
                  ⟨some 105, .pick (.t 102) (.t 104) (.c (.bool false)), some (97, false)⟩,
                  ⟨some 106, .mv (.t 105), some (97, false)⟩,
                  ⟨some 107, .fieldAddr 1 (.t 14), some (106, true)⟩,
                  ⟨some 108, .load false 1 (.t 107), some (106, true)⟩,
                  ⟨some 109, .bin .add (.t 108) (.c (.int .i64 1)), some (106, true)⟩,
                  ⟨some 110, .fieldAddr 1 (.t 11), some (106, true)⟩,
                  ⟨some 111, .load false 1 (.t 110), some (106, true)⟩,
                  ⟨some 112, .bin .lss (.t 109) (.t 111), some (106, true)⟩,
                  ⟨some 113, .pick (.t 106) (.t 112) (.c (.bool false)), some (97, false)⟩,
                  ⟨some 114, .pick (.t 97) (.c (.bool true)) (.t 113), none⟩]) (
                (.cond (.t 114) (
                 .region [] [
                   ⟨some 115, .mv (.t 15), none⟩,
                   ⟨some 116, .fieldAddr 1 (.t 14), none⟩,
                   ⟨some 117, .load false 1 (.t 116), none⟩,
                   ⟨some 118, .bin .add (.t 117) (.c (.int .i64 1)), none⟩,
                   ⟨some 119, .mv (.t 13), none⟩,
                   ⟨some 120, .build [(.int .i64 0), (.int .i64 0), (.int .i64 0)] [(0, 1, (.t 115)), (1, 1, (.t 118)), (2, 1, (.t 119))], none⟩,
                   ⟨none, .store 3 (.t 11) (.t 120), none⟩]) (
                 .skip))))))))))))))) (
          .region [] [
            ⟨some 32, .mv (.t 13), none⟩,
            ⟨some 33, .bin .add (.t 32) (.c (.int .i64 1)), none⟩,
            ⟨some 13, .mv (.t 33), none⟩]))))))))))) (
     (.seq (
      .region [] [
        ⟨some 121, .load true 3 (.t 11), none⟩,
        ⟨none, .store 3 (.t 10) (.t 121), none⟩]) (
      .ret))))))))))⟩

def a29 : AFunc := ⟨[.tmp 2],
 (.seq (
  .region [] [
    ⟨some 2, .mv (.c .nilsl), none⟩]) (
  (.seq (
   (.seq (
    .region [] [
      ⟨some 7, .mv (.t 0), none⟩,
      ⟨some 8, .bin .eql (.t 7) (.c (.int .i64 0)), none⟩]) (
    (.cond (.t 8) (
     (.seq (
      .region [] [
        ⟨some 9, .litf 1 [.nilsl] 1 [(0, 1, (.c .nilsl))], none⟩,
        ⟨some 2, .mv (.t 9), none⟩]) (
      .ret))) (
     .skip))))) (
   (.seq (
    .region [] [
      ⟨some 3, .mv (.c .nilsl), none⟩]) (
    (.seq (
     (.seq (
      .region [] [
        ⟨some 4, .mv (.c (.int .i64 0)), none⟩]) (
      (.block 0 (
       (.loop (
        (.seq (
         (.seq (
          .region [] [
            ⟨some 10, .mv (.t 4), none⟩,
            ⟨some 11, .mv (.t 0), none⟩,
            ⟨some 12, .bin .sub (.t 11) (.c (.int .i64 1)), none⟩,
            ⟨some 13, .bin .shl (.c (.int .i64 1)) (.t 12), none⟩,
            ⟨some 14, .bin .lss (.t 10) (.t 13), none⟩]) (
          (.cond (.t 14) (
           .skip) (
           .exit 0))))) (
         (.seq (
          (.block 1 (
           (.seq (
            .region [] [
              ⟨some 17, .lit 1 [(.int .i64 0)] 1 [(0, 1, (.c (.int .i64 0)))], none⟩,
              ⟨some 5, .mv (.t 17), none⟩]) (
            (.seq (
             (.seq (
              .region [] [
                ⟨some 6, .mv (.c (.int .i64 1)), none⟩]) (
              (.block 2 (
               (.loop (
                (.seq (
                 (.seq (
                  .region [] [
                    ⟨some 18, .mv (.t 6), none⟩,
                    ⟨some 19, .mv (.t 0), none⟩,
                    ⟨some 20, .bin .lss (.t 18) (.t 19), none⟩]) (
                  (.cond (.t 20) (
                   .skip) (
                   .exit 2))))) (
                 (.seq (
                  (.block 3 (
                   (.seq (
                    .region [] [
                      ⟨some 23, .mv (.t 4), none⟩,
                      ⟨some 24, .mv (.t 6), none⟩,
                      ⟨some 25, .bin .sub (.t 24) (.c (.int .i64 1)), none⟩,
                      ⟨some 26, .bin .shr (.t 23) (.t 25), none⟩,
                      ⟨some 27, .bin .and (.t 26) (.c (.int .i64 1)), none⟩,
                      ⟨some 28, .bin .eql (.t 27) (.c (.int .i64 1)), none⟩]) (
                    (.cond (.t 28) (
                     .region [] [
                       ⟨some 29, .mv (.t 5), none⟩,
                       ⟨some 30, .mv (.t 6), none⟩,
                       ⟨some 31, .lit 1 [(.int .i64 0)] 1 [(0, 1, (.t 30))], none⟩,
                       ⟨some 32, .app 1 1 8 (.t 29) (.t 31), none⟩,
                       ⟨some 5, .mv (.t 32), none⟩]) (
                     .skip))))))) (
                  .region [] [
                    ⟨some 21, .mv (.t 6), none⟩,
                    ⟨some 22, .bin .add (.t 21) (.c (.int .i64 1)), none⟩,
                    ⟨some 6, .mv (.t 22), none⟩]))))))))))) (
             .region [] [
               ⟨some 33, .mv (.t 3), none⟩,
               ⟨some 34, .mv (.t 5), none⟩,
               ⟨some 35, .litf 1 [.nilsl] 1 [(0, 1, (.t 34))], none⟩,
               ⟨some 36, .app 2 1 24 (.t 33) (.t 35), none⟩,
               ⟨some 3, .mv (.t 36), none⟩]))))))) (
          .region [] [
            ⟨some 15, .mv (.t 4), none⟩,
            ⟨some 16, .bin .add (.t 15) (.c (.int .i64 1)), none⟩,
            ⟨some 4, .mv (.t 16), none⟩]))))))))))) (
     (.seq (
      .region [] [
        ⟨some 37, .mv (.t 3), none⟩,
        ⟨some 2, .mv (.t 37), none⟩]) (
      .ret))))))))))⟩

def a30 : AFunc := ⟨[.tmp 4],
 (.seq (
  .region [] [
    ⟨some 4, .mv (.c (.bool false)), none⟩]) (
  (.seq (
   (.seq (
    .region [] [
      ⟨some 7, .mv (.t 1), none⟩,
      ⟨some 8, .len (.t 7), none⟩,
      ⟨some 9, .mv (.c (.int .i64 0)), none⟩]) (
    (.block 0 (
     (.loop (
      (.seq (
       .region [] [
         ⟨some 10, .bin .lss (.t 9) (.t 8), none⟩]) (
       (.seq (
        (.cond (.t 10) (
         .skip) (
         .exit 0))) (
        (.seq (
         (.block 1 (
          (.seq (
           .region [] [
             ⟨some 11, .mv (.t 9), none⟩,
             ⟨some 12, .elemAddr 1 (.t 7) (.t 9), none⟩,
             ⟨some 13, .load false 1 (.t 12), none⟩,
             ⟨some 5, .mv (.t 11), none⟩,
             ⟨some 6, .mv (.t 13), none⟩]) (
           (.seq (
            .region [] [
              ⟨some 14, .mv (.t 5), none⟩,
              ⟨some 15, .bin .eql (.t 14) (.c (.int .i64 0)), none⟩,
              ⟨some 16, .mv (.t 15), none⟩,
              ⟨some 17, .mv (.t 6), some (16, true)⟩,
              ⟨some 18, .bin .neq (.t 17) (.c (.int .i64 0)), some (16, true)⟩,
              ⟨some 19, .pick (.t 16) (.t 18) (.c (.bool false)), none⟩,
              ⟨some 20, .mv (.t 19), none⟩,
              ⟨some 21, .mv (.t 5), some (20, false)⟩,
              ⟨some 22, .bin .gtr (.t 21) (.c (.int .i64 0)), some (20, false)⟩,
              ⟨some 23, .mv (.t 22), some (20, false)⟩,
              ⟨some 24, .mv (.t 6), some (23, true)⟩,
              ⟨some 25, .mv (.t 1), some (23, true)⟩,
              ⟨some 26, .mv (.t 5), some (23, true)⟩,
              ⟨some 27, .bin .sub (.t 26) (.c (.int .i64 1)), some (23, true)⟩,
              ⟨some 28, .elemAddr 1 (.t 25) (.t 27), some (23, true)⟩,
              ⟨some 29, .load false 1 (.t 28), some (23, true)⟩,
              ⟨some 30, .bin .leq (.t 24) (.t 29), some (23, true)⟩,
              ⟨some 31, .pick (.t 23) (.t 30) (.c (.bool false)), some (20, false)⟩,
              ⟨some 32, .pick (.t 20) (.c (.bool true)) (.t 31), none⟩,
              ⟨some 33, .mv (.t 32), none⟩,
              ⟨some 34, .mv (.t 6), some (33, false)⟩,
              ⟨some 35, .mv (.t 0), some (33, false)⟩,
              ⟨some 36, .bin .geq (.t 34) (.t 35), some (33, false)⟩,
              ⟨some 37, .pick (.t 33) (.c (.bool true)) (.t 36), none⟩]) (
            (.cond (.t 37) (
             (.seq (
              .region [] [
                ⟨some 4, .mv (.c (.bool false)), none⟩]) (
              .ret))) (
             .skip))))))))) (
         .region [] [
           ⟨some 38, .bin .add (.t 9) (.c (.int .i64 1)), none⟩,
           ⟨some 9, .mv (.t 38), none⟩]))))))))))))) (
   (.seq (
    .region [] [
      ⟨some 39, .mv (.t 0), none⟩,
      ⟨some 40, .bin .eql (.t 39) (.c (.int .i64 0)), none⟩,
      ⟨some 41, .mv (.t 1), none⟩,
      ⟨some 42, .len (.t 41), none⟩,
      ⟨some 43, .bin .eql (.t 42) (.c (.int .i64 0)), none⟩,
      ⟨some 44, .eqb false (.t 40) (.t 43), none⟩,
      ⟨some 4, .mv (.t 44), none⟩]) (
    .ret))))))⟩

def a31 : AFunc := ⟨[.tmp 6],
 (.seq (
  .region [] [
    ⟨some 6, .mv (.c (.int .i64 0)), none⟩]) (
  (.seq (
   (.seq (
    .region [] [
      ⟨some 7, .mv (.t 2), none⟩,
      ⟨some 8, .bin .add (.t 7) (.c (.int .i64 1)), none⟩,
      ⟨some 9, .mv (.t 1), none⟩,
      ⟨some 10, .len (.t 9), none⟩,
      ⟨some 11, .bin .lss (.t 8) (.t 10), none⟩]) (
    (.cond (.t 11) (
     (.seq (
      .region [] [
        ⟨some 12, .mv (.t 1), none⟩,
        ⟨some 13, .mv (.t 2), none⟩,
        ⟨some 14, .bin .add (.t 13) (.c (.int .i64 1)), none⟩,
        ⟨some 15, .elemAddr 1 (.t 12) (.t 14), none⟩,
        ⟨some 16, .load false 1 (.t 15), none⟩,
        ⟨some 6, .mv (.t 16), none⟩]) (
      .ret))) (
     .skip))))) (
   (.seq (
    .region [] [
      ⟨some 17, .mv (.t 0), none⟩,
      ⟨some 6, .mv (.t 17), none⟩]) (
    .ret))))))⟩

def a32 : AFunc := ⟨[.tmp 8],
 (.seq (
  .region [] [
    ⟨some 4, .box 1 (.t 0), none⟩,
    ⟨some 7, .box 2 (.t 3), none⟩,
    ⟨some 8, .mv (.c (.int .i64 0)), none⟩]) (
  (.seq (
   (.seq (
    .region [] [
      ⟨some 11, .fieldAddr 0 (.t 7), none⟩,
      ⟨some 12, .load false 1 (.t 11), none⟩,
      ⟨some 13, .bin .gtr (.t 12) (.c (.int .i64 0)), none⟩,
      ⟨some 14, .mv (.t 13), none⟩,
      ⟨some 15, .mv (.t 1), some (14, true)⟩,
      ⟨some 16, .elemAddr 4 (.t 15) (.c (.int .i64 0)), some (14, true)⟩,
      ⟨some 17, .fieldAddr 3 (.t 16), some (14, true)⟩,
      ⟨some 18, .load false 1 (.t 17), some (14, true)⟩,
      ⟨some 19, .bin .eql (.t 18) (.c (.int .i64 3)), some (14, true)⟩,
      ⟨some 20, .pick (.t 14) (.t 19) (.c (.bool false)), none⟩,
      ⟨some 21, .mv (.t 20), none⟩,
      ⟨some 22, .mv (.t 2), some (21, false)⟩,
      ⟨some 23, .fieldAddr 0 (.t 4), some (21, false)⟩,
      ⟨some 24, .load false 1 (.t 23), some (21, false)⟩,
      ⟨some 25, .bin .gtr (.t 22) (.t 24), some (21, false)⟩,
      ⟨some 26, .mv (.t 25), some (21, false)⟩,
      ⟨some 27, .mv (.t 1), some (26, true)⟩,
      ⟨some 28, .len (.t 27), some (26, true)⟩,
      ⟨some 29, .bin .gtr (.t 28) (.c (.int .i64 1)), some (26, true)⟩,
      ⟨some 30, .pick (.t 26) (.t 29) (.c (.bool false)), some (21, false)⟩,
      ⟨some 31, .pick (.t 21) (.c (.bool true)) (.t 30), none⟩]) (
    (.cond (.t 31) (
     (.seq (
      .region [] [
        ⟨some 8, .mv (.c (.int .i64 1125899906842624)), none⟩]) (
      .ret))) (
     .skip))))) (
   (.seq (
    (.seq (
     .region [] [
       ⟨some 32, .mv (.t 1), none⟩,
       ⟨some 33, .sub 4 (.t 32) (some (.c (.int .i64 1))) none none, none⟩,
       ⟨some 34, .call 0 (.c (.fn 35 [])) [(.t 33), (.c (.fn 36 []))], none⟩]) (
     (.cond (.t 34) (
      (.seq (
       .region [] [
         ⟨some 8, .mv (.c (.int .i64 1125899906842624)), none⟩]) (
       .ret))) (
      .skip))))) (
    (.seq (
     .region [] [
       ⟨some 9, .mv (.c (.int .i64 0)), none⟩]) (
     (.seq (
      (.seq (
       .region [] [
         ⟨some 35, .mv (.t 2), none⟩,
         ⟨some 36, .fieldAddr 0 (.t 4), none⟩,
         ⟨some 37, .load false 1 (.t 36), none⟩,
         ⟨some 38, .bin .gtr (.t 35) (.t 37), none⟩]) (
       (.cond (.t 38) (
        .region [] [
          ⟨some 39, .mv (.t 9), none⟩,
          ⟨some 40, .bin .add (.t 39) (.c (.int .i64 549755813888)), none⟩,
          ⟨some 9, .mv (.t 40), none⟩]) (
        (.seq (
         .region [] [
           ⟨some 41, .fieldAddr 2 (.t 7), none⟩,
           ⟨some 42, .load false 1 (.t 41), none⟩,
           ⟨some 43, .not (.t 42), none⟩]) (
         (.cond (.t 43) (
          (.seq (
           .region [] [
             ⟨some 44, .fieldAddr 0 (.t 4), none⟩,
             ⟨some 45, .load false 1 (.t 44), none⟩,
             ⟨some 46, .mv (.t 2), none⟩,
             ⟨some 47, .bin .sub (.t 45) (.t 46), none⟩,
             ⟨some 48, .bin .mul (.c (.int .i64 100)) (.t 47), none⟩,
             ⟨some 49, .fieldAddr 0 (.t 4), none⟩,
             ⟨some 50, .load false 1 (.t 49), none⟩,
             ⟨some 51, .bin .quo (.t 48) (.t 50), none⟩,
             ⟨some 10, .mv (.t 51), none⟩]) (
           .region [] [
             ⟨some 52, .mv (.t 9), none⟩,
             ⟨some 53, .mv (.t 10), none⟩,
             ⟨some 54, .mv (.t 10), none⟩,
             ⟨some 55, .bin .mul (.t 53) (.t 54), none⟩,
             ⟨some 56, .bin .add (.t 52) (.t 55), none⟩,
             ⟨some 9, .mv (.t 56), none⟩]))) (
          .skip))))))))) (
      (.seq (
       (.seq (
        .region [] [
          ⟨some 57, .fieldAddr 1 (.t 4), none⟩,
          ⟨some 58, .load false 1 (.t 57), none⟩,
          ⟨some 59, .bin .gtr (.t 58) (.c (.int .i64 0)), none⟩,
          ⟨some 60, .mv (.t 59), none⟩,
          ⟨some 61, .fieldAddr 1 (.t 7), some (60, true)⟩,
          ⟨some 62, .load false 1 (.t 61), some (60, true)⟩,
          ⟨some 63, .pick (.t 60) (.t 62) (.c (.bool false)), none⟩,
          ⟨some 64, .mv (.t 63), none⟩,
          ⟨some 65, .fieldAddr 2 (.t 7), some (64, true)⟩,
          ⟨some 66, .load false 1 (.t 65), some (64, true)⟩,
          ⟨some 67, .not (.t 66), some (64, true)⟩,
          ⟨some 68, .pick (.t 64) (.t 67) (.c (.bool false)), none⟩,
          ⟨some 69, .mv (.t 68), none⟩,
          ⟨some 70, .mv (.t 1), some (69, true)⟩,
          ⟨some 71, .mv (.t 1), some (69, true)⟩,
          ⟨some 72, .len (.t 71), some (69, true)⟩,
          ⟨some 73, .bin .sub (.t 72) (.c (.int .i64 1)), some (69, true)⟩,
          ⟨some 74, .elemAddr 4 (.t 70) (.t 73), some (69, true)⟩,
          ⟨some 75, .fieldAddr 2 (.t 74), some (69, true)⟩,
          ⟨some 76, .load false 1 (.t 75), some (69, true)⟩,
          ⟨some 77, .fieldAddr 1 (.t 4), some (69, true)⟩,
          ⟨some 78, .load false 1 (.t 77), some (69, true)⟩,
          ⟨some 79, .bin .lss (.t 76) (.t 78), some (69, true)⟩,
          ⟨some 80, .pick (.t 69) (.t 79) (.c (.bool false)), none⟩]) (
        (.cond (.t 80) (
         .region [] [
           ⟨some 81, .mv (.t 9), none⟩,
           ⟨some 82, .bin .add (.t 81) (.c (.int .i64 1048576)), none⟩,
           ⟨some 9, .mv (.t 82), none⟩]) (
         .skip))))) (
       (.seq (
        .region [] [
          ⟨some 83, .mv (.t 9), none⟩,
          ⟨some 8, .mv (.t 83), none⟩]) (
        .ret))))))))))))))⟩

def a33 : AFunc := ⟨[.tmp 2],
 (.seq (
  .region [] [
    ⟨some 2, .mv (.c (.int .i64 0)), none⟩]) (
  (.seq (
   .region [] [
     ⟨some 6, .mv (.t 0), none⟩,
     ⟨some 7, .elemAddr 4 (.t 6) (.c (.int .i64 0)), none⟩,
     ⟨some 8, .fieldAddr 1 (.t 7), none⟩,
     ⟨some 9, .load false 1 (.t 8), none⟩,
     ⟨some 10, .neg (.t 9), none⟩,
     ⟨some 3, .mv (.t 10), none⟩]) (
   (.seq (
    (.seq (
     .region [] [
       ⟨some 11, .mv (.t 0), none⟩,
       ⟨some 12, .len (.t 11), none⟩,
       ⟨some 13, .mv (.c (.int .i64 0)), none⟩]) (
     (.block 0 (
      (.loop (
       (.seq (
        .region [] [
          ⟨some 14, .bin .lss (.t 13) (.t 12), none⟩]) (
        (.seq (
         (.cond (.t 14) (
          .skip) (
          .exit 0))) (
         (.seq (
          (.block 1 (
           (.seq (
            .region [] [
              ⟨some 15, .elemAddr 4 (.t 11) (.t 13), none⟩,
              ⟨some 16, .load true 4 (.t 15), none⟩,
              ⟨some 5, .alloc 1 [(.int .i64 0), (.int .i64 0), (.int .i64 0), (.int .i64 0)], none⟩,
              ⟨none, .store 4 (.t 5) (.t 16), none⟩]) (
            .region [] [
              ⟨some 17, .mv (.t 3), none⟩,
              ⟨some 18, .fieldAddr 1 (.t 5), none⟩,
              ⟨some 19, .load false 1 (.t 18), none⟩,
              ⟨some 20, .fieldAddr 0 (.t 5), none⟩,
              ⟨some 21, .load false 1 (.t 20), none⟩,
              ⟨some 22, .bin .add (.t 19) (.t 21), none⟩,
              ⟨some 23, .bin .add (.t 17) (.t 22), none⟩,
              ⟨some 3, .mv (.t 23), none⟩]))))) (
          .region [] [
            ⟨some 24, .bin .add (.t 13) (.c (.int .i64 1)), none⟩,
            ⟨some 13, .mv (.t 24), none⟩]))))))))))))) (
    (.seq (
     .region [] [
       ⟨some 25, .mv (.t 3), none⟩,
       ⟨some 2, .mv (.t 25), none⟩]) (
     .ret))))))))⟩

def a34 : AFunc := ⟨[.tmp 8],
 (.seq (
  .region [] [
    ⟨some 5, .box 1 (.t 1), none⟩,
    ⟨some 8, .mv (.c (.int .i64 0)), none⟩]) (
  (.seq (
   (.seq (
    .region [] [
      ⟨some 10, .mv (.t 0), none⟩,
      ⟨some 11, .load true 2 (.t 5), none⟩,
      ⟨some 12, .call 0 (.c (.fn 12 [])) [(.t 10), (.t 11)], none⟩,
      ⟨some 9, .mv (.t 12), none⟩]) (
    (.seq (
     .region [] [
       ⟨some 13, .mv (.t 9), none⟩,
       ⟨some 14, .bin .neq (.t 13) (.c (.int .i64 0)), none⟩]) (
     (.cond (.t 14) (
      (.seq (
       .region [] [
         ⟨some 15, .mv (.t 9), none⟩,
         ⟨some 8, .mv (.t 15), none⟩]) (
       .ret))) (
      .skip))))))) (
   (.seq (
    (.seq (
     .region [] [
       ⟨some 16, .mv (.t 2), none⟩,
       ⟨some 17, .bin .lss (.t 16) (.c (.int .i64 0)), none⟩,
       ⟨some 18, .mv (.t 17), none⟩,
       ⟨some 19, .mv (.t 3), some (18, false)⟩,
       ⟨some 20, .mv (.t 2), some (18, false)⟩,
       ⟨some 21, .bin .lss (.t 19) (.t 20), some (18, false)⟩,
       ⟨some 22, .pick (.t 18) (.c (.bool true)) (.t 21), none⟩,
       ⟨some 23, .mv (.t 22), none⟩,
       ⟨some 24, .mv (.t 3), some (23, false)⟩,
       ⟨some 25, .mv (.t 0), some (23, false)⟩,
       ⟨some 26, .len (.t 25), some (23, false)⟩,
       ⟨some 27, .bin .geq (.t 24) (.t 26), some (23, false)⟩,
       ⟨some 28, .pick (.t 23) (.c (.bool true)) (.t 27), none⟩]) (
     (.cond (.t 28) (
      (.seq (
       .region [] [
         ⟨some 8, .mv (.c (.int .i64 2)), none⟩]) (
       .ret))) (
      .skip))))) (
    (.seq (
     .region [] [
       ⟨some 8, .mv (.c (.int .i64 0)), none⟩]) (
     .ret))))))))⟩

def a35 : AFunc := ⟨[.tmp 4],
 (.seq (
  .region [] [
    ⟨some 4, .mv (.c (.bool false)), none⟩]) (
  (.seq (
   .region [] [
     ⟨some 5, .mv (.t 0), none⟩,
     ⟨some 6, .mv (.t 1), none⟩,
     ⟨some 7, .call 0 (.c (.fn 37 [])) [(.t 5), (.t 6)], none⟩,
     ⟨some 8, .bin .geq (.t 7) (.c (.int .i64 0)), none⟩,
     ⟨some 4, .mv (.t 8), none⟩]) (
   .ret))))⟩

def a36 : AFunc := ⟨[.tmp 2],
 (.seq (
  .region [] [
    ⟨some 1, .box 1 (.t 0), none⟩,
    ⟨some 2, .mv (.c (.bool false)), none⟩]) (
  (.seq (
   .region [] [
     ⟨some 3, .fieldAddr 3 (.t 1), none⟩,
     ⟨some 4, .load false 1 (.t 3), none⟩,
     ⟨some 5, .bin .eql (.t 4) (.c (.int .i64 2)), none⟩,
     ⟨some 2, .mv (.t 5), none⟩]) (
   .ret))))⟩

def a37 : AFunc := ⟨[.tmp 4],
 (.seq (
  .region [] [
    ⟨some 4, .mv (.c (.int .i64 0)), none⟩]) (
  (.seq (
   (.seq (
    .region [] [
      ⟨some 6, .mv (.t 0), none⟩,
      ⟨some 7, .len (.t 6), none⟩,
      ⟨some 8, .mv (.c (.int .i64 0)), none⟩]) (
    (.block 0 (
     (.loop (
      (.seq (
       .region [] [
         ⟨some 9, .bin .lss (.t 8) (.t 7), none⟩]) (
       (.seq (
        (.cond (.t 9) (
         .skip) (
         .exit 0))) (
        (.seq (
         (.block 1 (
          (.seq (
           .region [] [
             ⟨some 10, .mv (.t 8), none⟩,
             ⟨some 5, .mv (.t 10), none⟩]) (
           (.seq (
            .region [] [
              ⟨some 11, .mv (.t 1), none⟩,
              ⟨some 12, .mv (.t 0), none⟩,
              ⟨some 13, .mv (.t 5), none⟩,
              ⟨some 14, .elemAddr 4 (.t 12) (.t 13), none⟩,
              ⟨some 15, .load true 4 (.t 14), none⟩,
              ⟨some 16, .call 0 (.t 11) [(.t 15)], none⟩]) (
            (.cond (.t 16) (
             (.seq (
              .region [] [
                ⟨some 17, .mv (.t 5), none⟩,
                ⟨some 4, .mv (.t 17), none⟩]) (
              .ret))) (
             .skip))))))))) (
         .region [] [
           ⟨some 18, .bin .add (.t 8) (.c (.int .i64 1)), none⟩,
           ⟨some 8, .mv (.t 18), none⟩]))))))))))))) (
   (.seq (
    .region [] [
      ⟨some 4, .mv (.c (.int .i64 (-1))), none⟩]) (
    .ret))))))⟩


def tblF : FuncId → Option AFunc := fun f =>
  match f with
  | 2 => some a2
  | 3 => some a3
  | 4 => some a4
  | 5 => some a5
  | 6 => some a6
  | 7 => some a7
  | 8 => some a8
  | 9 => some a9
  | 10 => some a10
  | 11 => some a11
  | 12 => some a12
  | 13 => some a13
  | 14 => some a14
  | 15 => some a15
  | 16 => some a16
  | 17 => some a17
  | 18 => some a18
  | 19 => some a19
  | 20 => some a20
  | 21 => some a21
  | 22 => some a22
  | 23 => some a23
  | 24 => some a24
  | 25 => some a25
  | 26 => some a26
  | 27 => some a27
  | 28 => some a28
  | 29 => some a29
  | 30 => some a30
  | 31 => some a31
  | 32 => some a32
  | 33 => some a33
  | 34 => some a34
  | 35 => some a35
  | 36 => some a36
  | 37 => some a37
  | _ => none

def tbl : Tbl := ⟨tblF, fun _ _ => none⟩

theorem ok2 : cFunc Try.prog 0 Try.f2 = some a2 := by kernel_rfl
theorem ok3 : cFunc Try.prog 0 Try.f3 = some a3 := by kernel_rfl
theorem ok4 : cFunc Try.prog 0 Try.f4 = some a4 := by kernel_rfl
theorem ok5 : cFunc Try.prog 0 Try.f5 = some a5 := by kernel_rfl
theorem ok6 : cFunc Try.prog 0 Try.f6 = some a6 := by kernel_rfl
theorem ok7 : cFunc Try.prog 0 Try.f7 = some a7 := by kernel_rfl
theorem ok8 : cFunc Try.prog 0 Try.f8 = some a8 := by kernel_rfl
theorem ok9 : cFunc Try.prog 0 Try.f9 = some a9 := by kernel_rfl
theorem ok10 : cFunc Try.prog 0 Try.f10 = some a10 := by kernel_rfl
theorem ok11 : cFunc Try.prog 0 Try.f11 = some a11 := by kernel_rfl
theorem ok12 : cFunc Try.prog 0 Try.f12 = some a12 := by kernel_rfl
theorem ok13 : cFunc Try.prog 0 Try.f13 = some a13 := by kernel_rfl
theorem ok14 : cFunc Try.prog 0 Try.f14 = some a14 := by kernel_rfl
theorem ok15 : cFunc Try.prog 0 Try.f15 = some a15 := by kernel_rfl
theorem ok16 : cFunc Try.prog 0 Try.f16 = some a16 := by kernel_rfl
theorem ok17 : cFunc Try.prog 0 Try.f17 = some a17 := by kernel_rfl
theorem ok18 : cFunc Try.prog 0 Try.f18 = some a18 := by kernel_rfl
theorem ok19 : cFunc Try.prog 0 Try.f19 = some a19 := by kernel_rfl
theorem ok20 : cFunc Try.prog 0 Try.f20 = some a20 := by kernel_rfl
theorem ok21 : cFunc Try.prog 0 Try.f21 = some a21 := by kernel_rfl
theorem ok22 : cFunc Try.prog 0 Try.f22 = some a22 := by kernel_rfl
theorem ok23 : cFunc Try.prog 0 Try.f23 = some a23 := by kernel_rfl
theorem ok24 : cFunc Try.prog 0 Try.f24 = some a24 := by kernel_rfl
theorem ok25 : cFunc Try.prog 0 Try.f25 = some a25 := by kernel_rfl
theorem ok26 : cFunc Try.prog 0 Try.f26 = some a26 := by kernel_rfl
theorem ok27 : cFunc Try.prog 0 Try.f27 = some a27 := by kernel_rfl
theorem ok28 : cFunc Try.prog 0 Try.f28 = some a28 := by kernel_rfl
theorem ok29 : cFunc Try.prog 0 Try.f29 = some a29 := by kernel_rfl
theorem ok30 : cFunc Try.prog 0 Try.f30 = some a30 := by kernel_rfl
theorem ok31 : cFunc Try.prog 0 Try.f31 = some a31 := by kernel_rfl
theorem ok32 : cFunc Try.prog 0 Try.f32 = some a32 := by kernel_rfl
theorem ok33 : cFunc Try.prog 0 Try.f33 = some a33 := by kernel_rfl
theorem ok34 : cFunc Try.prog 0 Try.f34 = some a34 := by kernel_rfl
theorem ok35 : cFunc Try.prog 0 Try.f35 = some a35 := by kernel_rfl
theorem ok36 : cFunc Try.prog 0 Try.f36 = some a36 := by kernel_rfl
theorem ok37 : cFunc Try.prog 0 Try.f37 = some a37 := by kernel_rfl

theorem tblF_ok (pr : FuncId → List V → Option V) : TblOk Try.prog ⟨tblF, pr⟩ := by
  intro f af h
  change tblF f = some af at h
  unfold tblF at h
  split at h
  · cases h; exact ⟨_, _, Try.func2, ok2⟩
  · cases h; exact ⟨_, _, Try.func3, ok3⟩
  · cases h; exact ⟨_, _, Try.func4, ok4⟩
  · cases h; exact ⟨_, _, Try.func5, ok5⟩
  · cases h; exact ⟨_, _, Try.func6, ok6⟩
  · cases h; exact ⟨_, _, Try.func7, ok7⟩
  · cases h; exact ⟨_, _, Try.func8, ok8⟩
  · cases h; exact ⟨_, _, Try.func9, ok9⟩
  · cases h; exact ⟨_, _, Try.func10, ok10⟩
  · cases h; exact ⟨_, _, Try.func11, ok11⟩
  · cases h; exact ⟨_, _, Try.func12, ok12⟩
  · cases h; exact ⟨_, _, Try.func13, ok13⟩
  · cases h; exact ⟨_, _, Try.func14, ok14⟩
  · cases h; exact ⟨_, _, Try.func15, ok15⟩
  · cases h; exact ⟨_, _, Try.func16, ok16⟩
  · cases h; exact ⟨_, _, Try.func17, ok17⟩
  · cases h; exact ⟨_, _, Try.func18, ok18⟩
  · cases h; exact ⟨_, _, Try.func19, ok19⟩
  · cases h; exact ⟨_, _, Try.func20, ok20⟩
  · cases h; exact ⟨_, _, Try.func21, ok21⟩
  · cases h; exact ⟨_, _, Try.func22, ok22⟩
  · cases h; exact ⟨_, _, Try.func23, ok23⟩
  · cases h; exact ⟨_, _, Try.func24, ok24⟩
  · cases h; exact ⟨_, _, Try.func25, ok25⟩
  · cases h; exact ⟨_, _, Try.func26, ok26⟩
  · cases h; exact ⟨_, _, Try.func27, ok27⟩
  · cases h; exact ⟨_, _, Try.func28, ok28⟩
  · cases h; exact ⟨_, _, Try.func29, ok29⟩
  · cases h; exact ⟨_, _, Try.func30, ok30⟩
  · cases h; exact ⟨_, _, Try.func31, ok31⟩
  · cases h; exact ⟨_, _, Try.func32, ok32⟩
  · cases h; exact ⟨_, _, Try.func33, ok33⟩
  · cases h; exact ⟨_, _, Try.func34, ok34⟩
  · cases h; exact ⟨_, _, Try.func35, ok35⟩
  · cases h; exact ⟨_, _, Try.func36, ok36⟩
  · cases h; exact ⟨_, _, Try.func37, ok37⟩
  · cases h

theorem mixed : Try.prog.follows .mixedOrders = true := by kernel_rfl

theorem sound : SoundCall Try.prog (call tbl) := call_sound mixed (tblF_ok _) prOk_none

end Go.Proofs.Ytgghbckhdchcaaa
