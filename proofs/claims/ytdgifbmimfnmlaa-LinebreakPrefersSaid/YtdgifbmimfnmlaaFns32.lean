/-
  The translation's functions in the abstract machine's code, written by program; the kernel holds each against the translation.
-/
import Derived.Test.YtdgifbmimfnmlaaChecked
import Derived.Test.YtdgifbmimfnmlaaAbLim
namespace Go.Proofs.Ytdgifbmimfnmlaa
open Go Go.Ab
set_option maxRecDepth 100000

def a2 : AFunc := ⟨[],
 .region [] [
   ⟨some 0, .call 0 (.c (.fn 1 [])) [], none⟩]⟩

def a3 : AFunc := ⟨[.tmp 6],
 (.seq (
  .region [] [
    ⟨some 6, .mv (.c (.bool false)), none⟩]) (
  (.seq (
   .region [] [
     ⟨some 7, .call 0 (.c (.fn 10 [])) [], none⟩,
     ⟨some 8, .mv (.t 7), none⟩,
     ⟨some 9, .mv (.t 0), some (8, true)⟩,
     ⟨some 10, .mv (.t 1), some (8, true)⟩,
     ⟨some 11, .mv (.t 2), some (8, true)⟩,
     ⟨some 12, .call 0 (.c (.fn 11 [])) [(.t 9), (.t 10), (.t 11)], some (8, true)⟩,
     ⟨some 13, .mv (.t 0), some (8, true)⟩,
     ⟨some 14, .mv (.t 1), some (8, true)⟩,
     ⟨some 15, .mv (.t 2), some (8, true)⟩,
     ⟨some 16, .call 0 (.c (.fn 12 [])) [(.t 13), (.t 14), (.t 15)], some (8, true)⟩,
     ⟨some 17, .bin .eql (.t 12) (.t 16), some (8, true)⟩,
     ⟨some 18, .pick (.t 8) (.t 17) (.c (.bool false)), none⟩,
     ⟨some 6, .mv (.t 18), none⟩]) (
   .ret))))⟩

def a4 : AFunc := ⟨[.tmp 4],
 (.seq (
  .region [] [
    ⟨some 2, .box 1 (.t 0), none⟩,
    ⟨some 4, .mv (.c (.bool false)), none⟩]) (
  (.seq (
   (.seq (
    .region [] [
      ⟨some 8, .call 0 (.c (.fn 10 [])) [], none⟩,
      ⟨some 9, .not (.t 8), none⟩,
      ⟨some 10, .mv (.t 9), none⟩,
      ⟨some 11, .fieldAddr 0 (.t 2), some (10, false)⟩,
      ⟨some 12, .load false 1 (.t 11), some (10, false)⟩,
      ⟨some 13, .len (.t 12), some (10, false)⟩,
      ⟨some 14, .bin .gtr (.t 13) (.c (.int .i64 40)), some (10, false)⟩,
      ⟨some 15, .pick (.t 10) (.c (.bool true)) (.t 14), none⟩,
      ⟨some 16, .mv (.t 15), none⟩,
      ⟨some 17, .mv (.t 1), some (16, false)⟩,
      ⟨some 18, .len (.t 17), some (16, false)⟩,
      ⟨some 19, .bin .gtr (.t 18) (.c (.int .i64 50)), some (16, false)⟩,
      ⟨some 20, .pick (.t 16) (.c (.bool true)) (.t 19), none⟩,
      ⟨some 21, .mv (.t 20), none⟩,
      ⟨some 22, .fieldAddr 0 (.t 2), some (21, false)⟩,
      ⟨some 23, .load false 1 (.t 22), some (21, false)⟩,
      ⟨some 24, .call 0 (.c (.fn 13 [])) [(.t 23)], some (21, false)⟩,
      ⟨some 25, .bin .neq (.t 24) (.c (.int .i64 0)), some (21, false)⟩,
      ⟨some 26, .pick (.t 21) (.c (.bool true)) (.t 25), none⟩]) (
    (.cond (.t 26) (
     (.seq (
      .region [] [
        ⟨some 27, .call 0 (.c (.fn 10 [])) [], none⟩,
        ⟨some 4, .mv (.t 27), none⟩]) (
      .ret))) (
     .skip))))) (
   (.seq (
    .region [] [
      ⟨some 29, .fieldAddr 0 (.t 2), none⟩,
      ⟨some 30, .load false 1 (.t 29), none⟩,
      ⟨some 31, .mv (.t 1), none⟩,
      ⟨some 32, .fieldAddr 1 (.t 2), none⟩,
      ⟨some 33, .load false 1 (.t 32), none⟩,
      ⟨some 34, .fieldAddr 2 (.t 2), none⟩,
      ⟨some 35, .load false 1 (.t 34), none⟩,
      ⟨some 36, .call 0 (.c (.fn 14 [])) [(.t 30), (.t 31), (.t 33), (.t 35)], none⟩,
      ⟨some 28, .mv (.t 36), none⟩,
      ⟨some 37, .ext (.t 28) 0, none⟩,
      ⟨some 38, .ext (.t 28) 1, none⟩,
      ⟨some 5, .mv (.t 37), none⟩,
      ⟨some 6, .mv (.t 38), none⟩]) (
    (.seq (
     (.seq (
      .region [] [
        ⟨some 39, .load true 3 (.t 2), none⟩,
        ⟨some 40, .call 0 (.c (.fn 15 [])) [(.t 39)], none⟩,
        ⟨some 7, .mv (.t 40), none⟩]) (
      (.seq (
       .region [] [
         ⟨some 41, .mv (.t 7), none⟩,
         ⟨some 42, .bin .neq (.t 41) (.c (.int .i64 0)), none⟩]) (
       (.cond (.t 42) (
        (.seq (
         .region [] [
           ⟨some 43, .mv (.t 5), none⟩,
           ⟨some 44, .bin .eql (.t 43) (.c (.int .i64 0)), none⟩,
           ⟨some 45, .mv (.t 44), none⟩,
           ⟨some 46, .mv (.t 6), some (45, true)⟩,
           ⟨some 47, .mv (.t 7), some (45, true)⟩,
           ⟨some 48, .bin .eql (.t 46) (.t 47), some (45, true)⟩,
           ⟨some 49, .pick (.t 45) (.t 48) (.c (.bool false)), none⟩,
           ⟨some 4, .mv (.t 49), none⟩]) (
         .ret))) (
        .skip))))))) (
     (.seq (
      (.seq (
       .region [] [
         ⟨some 50, .mv (.t 1), none⟩,
         ⟨some 51, .fieldAddr 0 (.t 2), none⟩,
         ⟨some 52, .load false 1 (.t 51), none⟩,
         ⟨some 53, .len (.t 52), none⟩,
         ⟨some 54, .call 0 (.c (.fn 16 [])) [(.t 50), (.t 53)], none⟩,
         ⟨some 55, .not (.t 54), none⟩]) (
       (.cond (.t 55) (
        (.seq (
         .region [] [
           ⟨some 56, .mv (.t 5), none⟩,
           ⟨some 57, .bin .eql (.t 56) (.c (.int .i64 0)), none⟩,
           ⟨some 58, .mv (.t 57), none⟩,
           ⟨some 59, .mv (.t 6), some (58, true)⟩,
           ⟨some 60, .bin .eql (.t 59) (.c (.int .i64 3)), some (58, true)⟩,
           ⟨some 61, .pick (.t 58) (.t 60) (.c (.bool false)), none⟩,
           ⟨some 4, .mv (.t 61), none⟩]) (
         .ret))) (
        .skip))))) (
      (.seq (
       .region [] [
         ⟨some 62, .mv (.t 5), none⟩,
         ⟨some 63, .fieldAddr 0 (.t 2), none⟩,
         ⟨some 64, .load false 1 (.t 63), none⟩,
         ⟨some 65, .mv (.t 1), none⟩,
         ⟨some 66, .fieldAddr 1 (.t 2), none⟩,
         ⟨some 67, .load false 1 (.t 66), none⟩,
         ⟨some 68, .fieldAddr 2 (.t 2), none⟩,
         ⟨some 69, .load false 1 (.t 68), none⟩,
         ⟨some 70, .call 0 (.c (.fn 17 [])) [(.t 64), (.t 65), (.t 67), (.t 69)], none⟩,
         ⟨some 71, .bin .eql (.t 62) (.t 70), none⟩,
         ⟨some 72, .mv (.t 71), none⟩,
         ⟨some 73, .mv (.t 6), some (72, true)⟩,
         ⟨some 74, .bin .eql (.t 73) (.c (.int .i64 0)), some (72, true)⟩,
         ⟨some 75, .pick (.t 72) (.t 74) (.c (.bool false)), none⟩,
         ⟨some 4, .mv (.t 75), none⟩]) (
       .ret))))))))))))⟩

def a5 : AFunc := ⟨[.tmp 2],
 (.seq (
  .region [] [
    ⟨some 1, .box 1 (.t 0), none⟩,
    ⟨some 2, .mv (.c (.bool false)), none⟩]) (
  (.seq (
   (.seq (
    .region [] [
      ⟨some 8, .call 0 (.c (.fn 10 [])) [], none⟩,
      ⟨some 9, .not (.t 8), none⟩,
      ⟨some 10, .mv (.t 9), none⟩,
      ⟨some 11, .fieldAddr 0 (.t 1), some (10, false)⟩,
      ⟨some 12, .load false 1 (.t 11), some (10, false)⟩,
      ⟨some 13, .len (.t 12), some (10, false)⟩,
      ⟨some 14, .bin .gtr (.t 13) (.c (.int .i64 9)), some (10, false)⟩,
      ⟨some 15, .pick (.t 10) (.c (.bool true)) (.t 14), none⟩]) (
    (.cond (.t 15) (
     (.seq (
      .region [] [
        ⟨some 16, .call 0 (.c (.fn 10 [])) [], none⟩,
        ⟨some 2, .mv (.t 16), none⟩]) (
      .ret))) (
     .skip))))) (
   (.seq (
    .region [] [
      ⟨some 18, .fieldAddr 0 (.t 1), none⟩,
      ⟨some 19, .load false 1 (.t 18), none⟩,
      ⟨some 20, .fieldAddr 1 (.t 1), none⟩,
      ⟨some 21, .load false 1 (.t 20), none⟩,
      ⟨some 22, .fieldAddr 2 (.t 1), none⟩,
      ⟨some 23, .load false 1 (.t 22), none⟩,
      ⟨some 24, .call 0 (.c (.fn 18 [])) [(.t 19), (.t 21), (.t 23)], none⟩,
      ⟨some 17, .mv (.t 24), none⟩,
      ⟨some 25, .ext (.t 17) 0, none⟩,
      ⟨some 26, .ext (.t 17) 1, none⟩,
      ⟨some 3, .mv (.t 25), none⟩,
      ⟨some 4, .mv (.t 26), none⟩]) (
    (.seq (
     .region [] [
       ⟨some 27, .fieldAddr 0 (.t 1), none⟩,
       ⟨some 28, .load false 1 (.t 27), none⟩,
       ⟨some 29, .call 0 (.c (.fn 13 [])) [(.t 28)], none⟩,
       ⟨some 5, .mv (.t 29), none⟩]) (
     (.seq (
      (.seq (
       .region [] [
         ⟨some 30, .mv (.t 5), none⟩,
         ⟨some 31, .bin .eql (.t 30) (.c (.int .i64 0)), none⟩]) (
       (.cond (.t 31) (
        .region [] [
          ⟨some 32, .load true 3 (.t 1), none⟩,
          ⟨some 33, .call 0 (.c (.fn 15 [])) [(.t 32)], none⟩,
          ⟨some 5, .mv (.t 33), none⟩]) (
        .skip))))) (
      (.seq (
       (.seq (
        .region [] [
          ⟨some 34, .mv (.t 5), none⟩,
          ⟨some 35, .bin .neq (.t 34) (.c (.int .i64 0)), none⟩]) (
        (.cond (.t 35) (
         (.seq (
          .region [] [
            ⟨some 36, .mv (.t 3), none⟩,
            ⟨some 37, .len (.t 36), none⟩,
            ⟨some 38, .bin .eql (.t 37) (.c (.int .i64 0)), none⟩,
            ⟨some 39, .mv (.t 38), none⟩,
            ⟨some 40, .mv (.t 4), some (39, true)⟩,
            ⟨some 41, .mv (.t 5), some (39, true)⟩,
            ⟨some 42, .bin .eql (.t 40) (.t 41), some (39, true)⟩,
            ⟨some 43, .pick (.t 39) (.t 42) (.c (.bool false)), none⟩,
            ⟨some 2, .mv (.t 43), none⟩]) (
          .ret))) (
         .skip))))) (
       (.seq (
        .region [] [
          ⟨some 45, .fieldAddr 0 (.t 1), none⟩,
          ⟨some 46, .load false 1 (.t 45), none⟩,
          ⟨some 47, .fieldAddr 1 (.t 1), none⟩,
          ⟨some 48, .load false 1 (.t 47), none⟩,
          ⟨some 49, .fieldAddr 2 (.t 1), none⟩,
          ⟨some 50, .load false 1 (.t 49), none⟩,
          ⟨some 51, .call 0 (.c (.fn 19 [])) [(.t 46), (.t 48), (.t 50)], none⟩,
          ⟨some 44, .mv (.t 51), none⟩,
          ⟨some 52, .ext (.t 44) 0, none⟩,
          ⟨some 53, .ext (.t 44) 1, none⟩,
          ⟨some 6, .mv (.t 52), none⟩,
          ⟨some 7, .mv (.t 53), none⟩]) (
        (.seq (
         (.seq (
          .region [] [
            ⟨some 54, .mv (.t 7), none⟩,
            ⟨some 55, .bin .eql (.t 54) (.c (.int .i64 1125899906842624)), none⟩]) (
          (.cond (.t 55) (
           (.seq (
            .region [] [
              ⟨some 56, .mv (.t 3), none⟩,
              ⟨some 57, .len (.t 56), none⟩,
              ⟨some 58, .bin .eql (.t 57) (.c (.int .i64 0)), none⟩,
              ⟨some 59, .mv (.t 58), none⟩,
              ⟨some 60, .mv (.t 4), some (59, true)⟩,
              ⟨some 61, .bin .eql (.t 60) (.c (.int .i64 28)), some (59, true)⟩,
              ⟨some 62, .pick (.t 59) (.t 61) (.c (.bool false)), none⟩,
              ⟨some 2, .mv (.t 62), none⟩]) (
            .ret))) (
           .skip))))) (
         (.seq (
          .region [] [
            ⟨some 63, .mv (.t 3), none⟩,
            ⟨some 64, .mv (.t 6), none⟩,
            ⟨some 65, .call 0 (.c (.fn 20 [])) [(.t 63), (.t 64)], none⟩,
            ⟨some 66, .mv (.t 65), none⟩,
            ⟨some 67, .mv (.t 4), some (66, true)⟩,
            ⟨some 68, .bin .eql (.t 67) (.c (.int .i64 0)), some (66, true)⟩,
            ⟨some 69, .pick (.t 66) (.t 68) (.c (.bool false)), none⟩,
            ⟨some 2, .mv (.t 69), none⟩]) (
          .ret))))))))))))))))))⟩

def a6 : AFunc := ⟨[.tmp 2],
 (.seq (
  .region [] [
    ⟨some 1, .box 1 (.t 0), none⟩,
    ⟨some 2, .mv (.c (.bool false)), none⟩]) (
  (.seq (
   (.seq (
    .region [] [
      ⟨some 14, .call 0 (.c (.fn 10 [])) [], none⟩,
      ⟨some 15, .not (.t 14), none⟩,
      ⟨some 16, .mv (.t 15), none⟩,
      ⟨some 17, .fieldAddr 0 (.t 1), some (16, false)⟩,
      ⟨some 18, .load false 1 (.t 17), some (16, false)⟩,
      ⟨some 19, .len (.t 18), some (16, false)⟩,
      ⟨some 20, .bin .gtr (.t 19) (.c (.int .i64 40)), some (16, false)⟩,
      ⟨some 21, .pick (.t 16) (.c (.bool true)) (.t 20), none⟩,
      ⟨some 22, .mv (.t 21), none⟩,
      ⟨some 23, .fieldAddr 0 (.t 1), some (22, false)⟩,
      ⟨some 24, .load false 1 (.t 23), some (22, false)⟩,
      ⟨some 25, .call 0 (.c (.fn 13 [])) [(.t 24)], some (22, false)⟩,
      ⟨some 26, .bin .neq (.t 25) (.c (.int .i64 0)), some (22, false)⟩,
      ⟨some 27, .pick (.t 22) (.c (.bool true)) (.t 26), none⟩,
      ⟨some 28, .mv (.t 27), none⟩,
      ⟨some 29, .load true 3 (.t 1), some (28, false)⟩,
      ⟨some 30, .call 0 (.c (.fn 15 [])) [(.t 29)], some (28, false)⟩,
      ⟨some 31, .bin .neq (.t 30) (.c (.int .i64 0)), some (28, false)⟩,
      ⟨some 32, .pick (.t 28) (.c (.bool true)) (.t 31), none⟩]) (
    (.cond (.t 32) (
     (.seq (
      .region [] [
        ⟨some 33, .call 0 (.c (.fn 10 [])) [], none⟩,
        ⟨some 2, .mv (.t 33), none⟩]) (
      .ret))) (
     .skip))))) (
   (.seq (
    .region [] [
      ⟨some 35, .fieldAddr 0 (.t 1), none⟩,
      ⟨some 36, .load false 1 (.t 35), none⟩,
      ⟨some 37, .fieldAddr 1 (.t 1), none⟩,
      ⟨some 38, .load false 1 (.t 37), none⟩,
      ⟨some 39, .fieldAddr 2 (.t 1), none⟩,
      ⟨some 40, .load false 1 (.t 39), none⟩,
      ⟨some 41, .call 0 (.c (.fn 18 [])) [(.t 36), (.t 38), (.t 40)], none⟩,
      ⟨some 34, .mv (.t 41), none⟩,
      ⟨some 42, .ext (.t 34) 0, none⟩,
      ⟨some 43, .ext (.t 34) 1, none⟩,
      ⟨some 3, .mv (.t 42), none⟩,
      ⟨some 4, .mv (.t 43), none⟩]) (
    (.seq (
     (.seq (
      .region [] [
        ⟨some 44, .mv (.t 4), none⟩,
        ⟨some 45, .bin .eql (.t 44) (.c (.int .i64 28)), none⟩]) (
      (.cond (.t 45) (
       (.seq (
        .region [] [
          ⟨some 46, .mv (.t 3), none⟩,
          ⟨some 47, .len (.t 46), none⟩,
          ⟨some 48, .bin .eql (.t 47) (.c (.int .i64 0)), none⟩,
          ⟨some 2, .mv (.t 48), none⟩]) (
        .ret))) (
       .skip))))) (
     (.seq (
      (.seq (
       .region [] [
         ⟨some 49, .mv (.t 4), none⟩,
         ⟨some 50, .bin .neq (.t 49) (.c (.int .i64 0)), none⟩,
         ⟨some 51, .mv (.t 50), none⟩,
         ⟨some 52, .mv (.t 3), some (51, false)⟩,
         ⟨some 53, .fieldAddr 0 (.t 1), some (51, false)⟩,
         ⟨some 54, .load false 1 (.t 53), some (51, false)⟩,
         ⟨some 55, .len (.t 54), some (51, false)⟩,
         ⟨some 56, .call 0 (.c (.fn 16 [])) [(.t 52), (.t 55)], some (51, false)⟩,
         ⟨some 57, .not (.t 56), some (51, false)⟩,
         ⟨some 58, .pick (.t 51) (.c (.bool true)) (.t 57), none⟩]) (
       (.cond (.t 58) (
        (.seq (
         .region [] [
           ⟨some 2, .mv (.c (.bool false)), none⟩]) (
         .ret))) (
        .skip))))) (
      (.seq (
       .region [] [
         ⟨some 5, .mv (.c (.int .i64 0)), none⟩]) (
       (.seq (
        (.seq (
         .region [] [
           ⟨some 6, .mv (.c (.int .i64 0)), none⟩]) (
         (.block 0 (
          (.loop (
           (.seq (
            (.seq (
             .region [] [
               ⟨some 59, .mv (.t 6), none⟩,
               ⟨some 60, .fieldAddr 0 (.t 1), none⟩,
               ⟨some 61, .load false 1 (.t 60), none⟩,
               ⟨some 62, .len (.t 61), none⟩,
               ⟨some 63, .bin .lss (.t 59) (.t 62), none⟩]) (
             (.cond (.t 63) (
              .skip) (
              .exit 0))))) (
            (.seq (
             (.block 1 (
              (.seq (
               .region [] [
                 ⟨some 66, .mv (.t 5), none⟩,
                 ⟨some 67, .mv (.t 3), none⟩,
                 ⟨some 68, .len (.t 67), none⟩,
                 ⟨some 69, .bin .lss (.t 66) (.t 68), none⟩,
                 ⟨some 70, .mv (.t 69), none⟩,
                 ⟨some 71, .mv (.t 3), some (70, true)⟩,
                 ⟨some 72, .mv (.t 5), some (70, true)⟩,
                 ⟨some 73, .elemAddr 1 (.t 71) (.t 72), some (70, true)⟩,
                 ⟨some 74, .load false 1 (.t 73), some (70, true)⟩,
                 ⟨some 75, .mv (.t 6), some (70, true)⟩,
                 ⟨some 76, .bin .eql (.t 74) (.t 75), some (70, true)⟩,
                 ⟨some 77, .pick (.t 70) (.t 76) (.c (.bool false)), none⟩,
                 ⟨some 7, .mv (.t 77), none⟩]) (
               (.seq (
                .region [] [
                  ⟨some 78, .fieldAddr 0 (.t 1), none⟩,
                  ⟨some 79, .load false 1 (.t 78), none⟩,
                  ⟨some 80, .mv (.t 6), none⟩,
                  ⟨some 81, .elemAddr 5 (.t 79) (.t 80), none⟩,
                  ⟨some 82, .fieldAddr 4 (.t 81), none⟩,
                  ⟨some 83, .load false 1 (.t 82), none⟩,
                  ⟨some 8, .mv (.t 83), none⟩]) (
                (.seq (
                 (.seq (
                  .region [] [
                    ⟨some 84, .mv (.t 6), none⟩,
                    ⟨some 85, .bin .gtr (.t 84) (.c (.int .i64 0)), none⟩,
                    ⟨some 86, .mv (.t 85), none⟩,
                    ⟨some 87, .mv (.t 7), some (86, true)⟩,
                    ⟨some 88, .mv (.t 87), some (86, true)⟩,
                    ⟨some 89, .mv (.t 8), some (88, true)⟩,
                    ⟨some 90, .bin .eql (.t 89) (.c (.int .i64 3)), some (88, true)⟩,
                    ⟨some 91, .pick (.t 88) (.t 90) (.c (.bool false)), some (86, true)⟩,
                    ⟨some 92, .mv (.t 91), some (86, true)⟩,
                    ⟨some 93, .mv (.t 7), some (92, false)⟩,
                    ⟨some 94, .not (.t 93), some (92, false)⟩,
                    ⟨some 95, .mv (.t 94), some (92, false)⟩,
                    ⟨some 96, .mv (.t 8), some (95, true)⟩,
                    ⟨some 97, .bin .eql (.t 96) (.c (.int .i64 1)), some (95, true)⟩,
                    ⟨some 98, .mv (.t 97), some (95, true)⟩,
                    ⟨some 99, .mv (.t 8), some (98, false)⟩,
                    ⟨some 100, .bin .eql (.t 99) (.c (.int .i64 2)), some (98, false)⟩,
                    ⟨some 101, .pick (.t 98) (.c (.bool true)) (.t 100), some (95, true)⟩,
                    ⟨some 102, .pick (.t 95) (.t 101) (.c (.bool false)), some (92, false)⟩,
                    ⟨some 103, .pick (.t 92) (.c (.bool true)) (.t 102), some (86, true)⟩,
                    ⟨some 104, .pick (.t 86) (.t 103) (.c (.bool false)), none⟩]) (
                  (.cond (.t 104) (
                   (.seq (
                    .region [] [
                      ⟨some 2, .mv (.c (.bool false)), none⟩]) (
                    .ret))) (
                   .skip))))) (
                 (.seq (
                  (.seq (
                   .region [] [
                     ⟨some 105, .mv (.t 7), none⟩,
                     ⟨some 106, .not (.t 105), none⟩]) (
                   (.cond (.t 106) (
                    .exit 1) (
                    .skip))))) (
                  (.seq (
                   .region [] [
                     ⟨some 107, .fieldAddr 0 (.t 1), none⟩,
                     ⟨some 108, .load false 1 (.t 107), none⟩,
                     ⟨some 109, .len (.t 108), none⟩,
                     ⟨some 110, .bin .sub (.t 109) (.c (.int .i64 1)), none⟩,
                     ⟨some 111, .fieldAddr 1 (.t 1), none⟩,
                     ⟨some 112, .load false 1 (.t 111), none⟩,
                     ⟨some 9, .mv (.t 110), none⟩,
                     ⟨some 10, .mv (.t 112), none⟩]) (
                   (.seq (
                    (.seq (
                     .region [] [
                       ⟨some 113, .mv (.t 5), none⟩,
                       ⟨some 114, .bin .add (.t 113) (.c (.int .i64 1)), none⟩,
                       ⟨some 115, .mv (.t 3), none⟩,
                       ⟨some 116, .len (.t 115), none⟩,
                       ⟨some 117, .bin .lss (.t 114) (.t 116), none⟩]) (
                     (.cond (.t 117) (
                      .region [] [
                        ⟨some 118, .mv (.t 3), none⟩,
                        ⟨some 119, .mv (.t 5), none⟩,
                        ⟨some 120, .bin .add (.t 119) (.c (.int .i64 1)), none⟩,
                        ⟨some 121, .elemAddr 1 (.t 118) (.t 120), none⟩,
                        ⟨some 122, .load false 1 (.t 121), none⟩,
                        ⟨some 123, .bin .sub (.t 122) (.c (.int .i64 1)), none⟩,
                        ⟨some 9, .mv (.t 123), none⟩]) (
                      .skip))))) (
                    (.seq (
                     (.seq (
                      .region [] [
                        ⟨some 124, .mv (.t 5), none⟩,
                        ⟨some 125, .bin .eql (.t 124) (.c (.int .i64 0)), none⟩]) (
                      (.cond (.t 125) (
                       .region [] [
                         ⟨some 126, .fieldAddr 1 (.t 1), none⟩,
                         ⟨some 127, .load false 1 (.t 126), none⟩,
                         ⟨some 128, .fieldAddr 2 (.t 1), none⟩,
                         ⟨some 129, .load false 1 (.t 128), none⟩,
                         ⟨some 130, .bin .sub (.t 127) (.t 129), none⟩,
                         ⟨some 10, .mv (.t 130), none⟩]) (
                       .skip))))) (
                     (.seq (
                      .region [] [
                        ⟨some 132, .fieldAddr 0 (.t 1), none⟩,
                        ⟨some 133, .load false 1 (.t 132), none⟩,
                        ⟨some 134, .mv (.t 6), none⟩,
                        ⟨some 135, .mv (.t 9), none⟩,
                        ⟨some 136, .call 0 (.c (.fn 21 [])) [(.t 133), (.t 134), (.t 135)], none⟩,
                        ⟨some 131, .mv (.t 136), none⟩,
                        ⟨some 137, .ext (.t 131) 0, none⟩,
                        ⟨some 138, .ext (.t 131) 1, none⟩,
                        ⟨some 139, .ext (.t 131) 2, none⟩,
                        ⟨some 11, .mv (.t 137), none⟩,
                        ⟨some 12, .mv (.t 138), none⟩,
                        ⟨some 13, .mv (.t 139), none⟩]) (
                      (.seq (
                       (.seq (
                        .region [] [
                          ⟨some 140, .mv (.t 13), none⟩,
                          ⟨some 141, .bin .neq (.t 140) (.c (.int .i64 0)), none⟩,
                          ⟨some 142, .mv (.t 141), none⟩,
                          ⟨some 143, .mv (.t 11), some (142, false)⟩,
                          ⟨some 144, .mv (.t 10), some (142, false)⟩,
                          ⟨some 145, .bin .gtr (.t 143) (.t 144), some (142, false)⟩,
                          ⟨some 146, .pick (.t 142) (.c (.bool true)) (.t 145), none⟩]) (
                        (.cond (.t 146) (
                         (.seq (
                          .region [] [
                            ⟨some 2, .mv (.c (.bool false)), none⟩]) (
                          .ret))) (
                         .skip))))) (
                       .region [] [
                         ⟨some 147, .mv (.t 5), none⟩,
                         ⟨some 148, .bin .add (.t 147) (.c (.int .i64 1)), none⟩,
                         ⟨some 5, .mv (.t 148), none⟩]))))))))))))))))))))) (
             .region [] [
               ⟨some 64, .mv (.t 6), none⟩,
               ⟨some 65, .bin .add (.t 64) (.c (.int .i64 1)), none⟩,
               ⟨some 6, .mv (.t 65), none⟩]))))))))))) (
        (.seq (
         .region [] [
           ⟨some 149, .mv (.t 5), none⟩,
           ⟨some 150, .mv (.t 3), none⟩,
           ⟨some 151, .len (.t 150), none⟩,
           ⟨some 152, .bin .eql (.t 149) (.t 151), none⟩,
           ⟨some 2, .mv (.t 152), none⟩]) (
         .ret))))))))))))))))⟩

def a7 : AFunc := ⟨[.tmp 2],
 (.seq (
  .region [] [
    ⟨some 1, .box 1 (.t 0), none⟩,
    ⟨some 2, .mv (.c (.bool false)), none⟩]) (
  (.seq (
   (.seq (
    .region [] [
      ⟨some 9, .call 0 (.c (.fn 10 [])) [], none⟩,
      ⟨some 10, .not (.t 9), none⟩,
      ⟨some 11, .mv (.t 10), none⟩,
      ⟨some 12, .fieldAddr 0 (.t 1), some (11, false)⟩,
      ⟨some 13, .load false 1 (.t 12), some (11, false)⟩,
      ⟨some 14, .len (.t 13), some (11, false)⟩,
      ⟨some 15, .bin .gtr (.t 14) (.c (.int .i64 40)), some (11, false)⟩,
      ⟨some 16, .pick (.t 11) (.c (.bool true)) (.t 15), none⟩,
      ⟨some 17, .mv (.t 16), none⟩,
      ⟨some 18, .fieldAddr 0 (.t 1), some (17, false)⟩,
      ⟨some 19, .load false 1 (.t 18), some (17, false)⟩,
      ⟨some 20, .call 0 (.c (.fn 13 [])) [(.t 19)], some (17, false)⟩,
      ⟨some 21, .bin .neq (.t 20) (.c (.int .i64 0)), some (17, false)⟩,
      ⟨some 22, .pick (.t 17) (.c (.bool true)) (.t 21), none⟩,
      ⟨some 23, .mv (.t 22), none⟩,
      ⟨some 24, .load true 3 (.t 1), some (23, false)⟩,
      ⟨some 25, .call 0 (.c (.fn 15 [])) [(.t 24)], some (23, false)⟩,
      ⟨some 26, .bin .neq (.t 25) (.c (.int .i64 0)), some (23, false)⟩,
      ⟨some 27, .pick (.t 23) (.c (.bool true)) (.t 26), none⟩]) (
    (.cond (.t 27) (
     (.seq (
      .region [] [
        ⟨some 28, .call 0 (.c (.fn 10 [])) [], none⟩,
        ⟨some 2, .mv (.t 28), none⟩]) (
      .ret))) (
     .skip))))) (
   (.seq (
    (.seq (
     .region [] [
       ⟨some 3, .mv (.c (.int .i64 0)), none⟩]) (
     (.block 0 (
      (.loop (
       (.seq (
        (.seq (
         .region [] [
           ⟨some 29, .mv (.t 3), none⟩,
           ⟨some 30, .fieldAddr 0 (.t 1), none⟩,
           ⟨some 31, .load false 1 (.t 30), none⟩,
           ⟨some 32, .len (.t 31), none⟩,
           ⟨some 33, .bin .lss (.t 29) (.t 32), none⟩]) (
         (.cond (.t 33) (
          .skip) (
          .exit 0))))) (
        (.seq (
         (.block 1 (
          (.seq (
           .region [] [
             ⟨some 37, .fieldAddr 0 (.t 1), none⟩,
             ⟨some 38, .load false 1 (.t 37), none⟩,
             ⟨some 39, .mv (.t 3), none⟩,
             ⟨some 40, .mv (.t 3), none⟩,
             ⟨some 41, .call 0 (.c (.fn 21 [])) [(.t 38), (.t 39), (.t 40)], none⟩,
             ⟨some 36, .mv (.t 41), none⟩,
             ⟨some 42, .ext (.t 36) 0, none⟩,
             ⟨some 43, .ext (.t 36) 1, none⟩,
             ⟨some 44, .ext (.t 36) 2, none⟩,
             ⟨some 4, .mv (.t 42), none⟩,
             ⟨some 5, .mv (.t 43), none⟩,
             ⟨some 6, .mv (.t 44), none⟩]) (
           (.seq (
            .region [] [
              ⟨some 45, .mv (.t 6), none⟩,
              ⟨some 46, .bin .neq (.t 45) (.c (.int .i64 0)), none⟩,
              ⟨some 47, .mv (.t 46), none⟩,
              ⟨some 48, .mv (.t 4), some (47, false)⟩,
              ⟨some 49, .fieldAddr 1 (.t 1), some (47, false)⟩,
              ⟨some 50, .load false 1 (.t 49), some (47, false)⟩,
              ⟨some 51, .fieldAddr 2 (.t 1), some (47, false)⟩,
              ⟨some 52, .load false 1 (.t 51), some (47, false)⟩,
              ⟨some 53, .bin .sub (.t 50) (.t 52), some (47, false)⟩,
              ⟨some 54, .bin .gtr (.t 48) (.t 53), some (47, false)⟩,
              ⟨some 55, .pick (.t 47) (.c (.bool true)) (.t 54), none⟩,
              ⟨some 56, .mv (.t 55), none⟩,
              ⟨some 57, .fieldAddr 0 (.t 1), some (56, false)⟩,
              ⟨some 58, .load false 1 (.t 57), some (56, false)⟩,
              ⟨some 59, .mv (.t 3), some (56, false)⟩,
              ⟨some 60, .elemAddr 5 (.t 58) (.t 59), some (56, false)⟩,
              ⟨some 61, .fieldAddr 4 (.t 60), some (56, false)⟩,
              ⟨some 62, .load false 1 (.t 61), some (56, false)⟩,
              ⟨some 63, .bin .eql (.t 62) (.c (.int .i64 3)), some (56, false)⟩,
              ⟨some 64, .pick (.t 56) (.c (.bool true)) (.t 63), none⟩]) (
            (.cond (.t 64) (
             (.seq (
              .region [] [
                ⟨some 65, .mv (.t 6), none⟩,
                ⟨some 66, .bin .eql (.t 65) (.c (.int .i64 0)), none⟩,
                ⟨some 2, .mv (.t 66), none⟩]) (
              .ret))) (
             .skip))))))))) (
         .region [] [
           ⟨some 34, .mv (.t 3), none⟩,
           ⟨some 35, .bin .add (.t 34) (.c (.int .i64 1)), none⟩,
           ⟨some 3, .mv (.t 35), none⟩]))))))))))) (
    (.seq (
     .region [] [
       ⟨some 68, .fieldAddr 0 (.t 1), none⟩,
       ⟨some 69, .load false 1 (.t 68), none⟩,
       ⟨some 70, .fieldAddr 1 (.t 1), none⟩,
       ⟨some 71, .load false 1 (.t 70), none⟩,
       ⟨some 72, .fieldAddr 2 (.t 1), none⟩,
       ⟨some 73, .load false 1 (.t 72), none⟩,
       ⟨some 74, .call 0 (.c (.fn 18 [])) [(.t 69), (.t 71), (.t 73)], none⟩,
       ⟨some 67, .mv (.t 74), none⟩,
       ⟨some 75, .ext (.t 67) 0, none⟩,
       ⟨some 76, .ext (.t 67) 1, none⟩,
       ⟨some 7, .mv (.t 75), none⟩,
       ⟨some 8, .mv (.t 76), none⟩]) (
     (.seq (
      .region [] [
        ⟨some 77, .mv (.t 8), none⟩,
        ⟨some 78, .bin .eql (.t 77) (.c (.int .i64 0)), none⟩,
        ⟨some 79, .mv (.t 78), none⟩,
        ⟨some 80, .mv (.t 7), some (79, true)⟩,
        ⟨some 81, .len (.t 80), some (79, true)⟩,
        ⟨some 82, .bin .gtr (.t 81) (.c (.int .i64 0)), some (79, true)⟩,
        ⟨some 83, .pick (.t 79) (.t 82) (.c (.bool false)), none⟩,
        ⟨some 2, .mv (.t 83), none⟩]) (
      .ret))))))))))⟩

def a8 : AFunc := ⟨[.tmp 4],
 (.seq (
  .region [] [
    ⟨some 2, .box 1 (.t 0), none⟩,
    ⟨some 4, .mv (.c (.bool false)), none⟩]) (
  (.seq (
   (.seq (
    .region [] [
      ⟨some 11, .call 0 (.c (.fn 10 [])) [], none⟩,
      ⟨some 12, .not (.t 11), none⟩,
      ⟨some 13, .mv (.t 12), none⟩,
      ⟨some 14, .fieldAddr 0 (.t 2), some (13, false)⟩,
      ⟨some 15, .load false 1 (.t 14), some (13, false)⟩,
      ⟨some 16, .len (.t 15), some (13, false)⟩,
      ⟨some 17, .bin .gtr (.t 16) (.c (.int .i64 40)), some (13, false)⟩,
      ⟨some 18, .pick (.t 13) (.c (.bool true)) (.t 17), none⟩,
      ⟨some 19, .mv (.t 18), none⟩,
      ⟨some 20, .mv (.t 1), some (19, false)⟩,
      ⟨some 21, .len (.t 20), some (19, false)⟩,
      ⟨some 22, .bin .gtr (.t 21) (.c (.int .i64 40)), some (19, false)⟩,
      ⟨some 23, .pick (.t 19) (.c (.bool true)) (.t 22), none⟩,
      ⟨some 24, .mv (.t 23), none⟩,
      ⟨some 25, .fieldAddr 0 (.t 2), some (24, false)⟩,
      ⟨some 26, .load false 1 (.t 25), some (24, false)⟩,
      ⟨some 27, .call 0 (.c (.fn 13 [])) [(.t 26)], some (24, false)⟩,
      ⟨some 28, .bin .neq (.t 27) (.c (.int .i64 0)), some (24, false)⟩,
      ⟨some 29, .pick (.t 24) (.c (.bool true)) (.t 28), none⟩,
      ⟨some 30, .mv (.t 29), none⟩,
      ⟨some 31, .load true 3 (.t 2), some (30, false)⟩,
      ⟨some 32, .call 0 (.c (.fn 15 [])) [(.t 31)], some (30, false)⟩,
      ⟨some 33, .bin .neq (.t 32) (.c (.int .i64 0)), some (30, false)⟩,
      ⟨some 34, .pick (.t 30) (.c (.bool true)) (.t 33), none⟩,
      ⟨some 35, .mv (.t 34), none⟩,
      ⟨some 36, .mv (.t 1), some (35, false)⟩,
      ⟨some 37, .fieldAddr 0 (.t 2), some (35, false)⟩,
      ⟨some 38, .load false 1 (.t 37), some (35, false)⟩,
      ⟨some 39, .len (.t 38), some (35, false)⟩,
      ⟨some 40, .call 0 (.c (.fn 16 [])) [(.t 36), (.t 39)], some (35, false)⟩,
      ⟨some 41, .not (.t 40), some (35, false)⟩,
      ⟨some 42, .pick (.t 35) (.c (.bool true)) (.t 41), none⟩]) (
    (.cond (.t 42) (
     (.seq (
      .region [] [
        ⟨some 43, .call 0 (.c (.fn 10 [])) [], none⟩,
        ⟨some 4, .mv (.t 43), none⟩]) (
      .ret))) (
     .skip))))) (
   (.seq (
    .region [] [
      ⟨some 45, .fieldAddr 0 (.t 2), none⟩,
      ⟨some 46, .load false 1 (.t 45), none⟩,
      ⟨some 47, .mv (.t 1), none⟩,
      ⟨some 48, .fieldAddr 1 (.t 2), none⟩,
      ⟨some 49, .load false 1 (.t 48), none⟩,
      ⟨some 50, .fieldAddr 2 (.t 2), none⟩,
      ⟨some 51, .load false 1 (.t 50), none⟩,
      ⟨some 52, .call 0 (.c (.fn 14 [])) [(.t 46), (.t 47), (.t 49), (.t 51)], none⟩,
      ⟨some 44, .mv (.t 52), none⟩,
      ⟨some 53, .ext (.t 44) 0, none⟩,
      ⟨some 54, .ext (.t 44) 1, none⟩,
      ⟨some 5, .mv (.t 53), none⟩,
      ⟨some 6, .mv (.t 54), none⟩]) (
    (.seq (
     .region [] [
       ⟨some 56, .fieldAddr 0 (.t 2), none⟩,
       ⟨some 57, .load false 1 (.t 56), none⟩,
       ⟨some 58, .fieldAddr 1 (.t 2), none⟩,
       ⟨some 59, .load false 1 (.t 58), none⟩,
       ⟨some 60, .fieldAddr 2 (.t 2), none⟩,
       ⟨some 61, .load false 1 (.t 60), none⟩,
       ⟨some 62, .call 0 (.c (.fn 18 [])) [(.t 57), (.t 59), (.t 61)], none⟩,
       ⟨some 55, .mv (.t 62), none⟩,
       ⟨some 63, .ext (.t 55) 0, none⟩,
       ⟨some 64, .ext (.t 55) 1, none⟩,
       ⟨some 7, .mv (.t 63), none⟩,
       ⟨some 8, .mv (.t 64), none⟩]) (
     (.seq (
      (.seq (
       .region [] [
         ⟨some 65, .mv (.t 8), none⟩,
         ⟨some 66, .bin .eql (.t 65) (.c (.int .i64 28)), none⟩]) (
       (.cond (.t 66) (
        (.seq (
         .region [] [
           ⟨some 67, .mv (.t 6), none⟩,
           ⟨some 68, .bin .eql (.t 67) (.c (.int .i64 0)), none⟩,
           ⟨some 69, .mv (.t 68), none⟩,
           ⟨some 70, .mv (.t 5), some (69, true)⟩,
           ⟨some 71, .bin .eql (.t 70) (.c (.int .i64 1125899906842624)), some (69, true)⟩,
           ⟨some 72, .pick (.t 69) (.t 71) (.c (.bool false)), none⟩,
           ⟨some 4, .mv (.t 72), none⟩]) (
         .ret))) (
        .skip))))) (
      (.seq (
       .region [] [
         ⟨some 74, .fieldAddr 0 (.t 2), none⟩,
         ⟨some 75, .load false 1 (.t 74), none⟩,
         ⟨some 76, .mv (.t 7), none⟩,
         ⟨some 77, .fieldAddr 1 (.t 2), none⟩,
         ⟨some 78, .load false 1 (.t 77), none⟩,
         ⟨some 79, .fieldAddr 2 (.t 2), none⟩,
         ⟨some 80, .load false 1 (.t 79), none⟩,
         ⟨some 81, .call 0 (.c (.fn 14 [])) [(.t 75), (.t 76), (.t 78), (.t 80)], none⟩,
         ⟨some 73, .mv (.t 81), none⟩,
         ⟨some 82, .ext (.t 73) 0, none⟩,
         ⟨some 83, .ext (.t 73) 1, none⟩,
         ⟨some 9, .mv (.t 82), none⟩,
         ⟨some 10, .mv (.t 83), none⟩]) (
       (.seq (
        .region [] [
          ⟨some 84, .mv (.t 6), none⟩,
          ⟨some 85, .bin .eql (.t 84) (.c (.int .i64 0)), none⟩,
          ⟨some 86, .mv (.t 85), none⟩,
          ⟨some 87, .mv (.t 8), some (86, true)⟩,
          ⟨some 88, .bin .eql (.t 87) (.c (.int .i64 0)), some (86, true)⟩,
          ⟨some 89, .pick (.t 86) (.t 88) (.c (.bool false)), none⟩,
          ⟨some 90, .mv (.t 89), none⟩,
          ⟨some 91, .mv (.t 10), some (90, true)⟩,
          ⟨some 92, .bin .eql (.t 91) (.c (.int .i64 0)), some (90, true)⟩,
          ⟨some 93, .pick (.t 90) (.t 92) (.c (.bool false)), none⟩,
          ⟨some 94, .mv (.t 93), none⟩,
          ⟨some 95, .mv (.t 9), some (94, true)⟩,
          ⟨some 96, .bin .lss (.t 95) (.c (.int .i64 1125899906842624)), some (94, true)⟩,
          ⟨some 97, .pick (.t 94) (.t 96) (.c (.bool false)), none⟩,
          ⟨some 98, .mv (.t 97), none⟩,
          ⟨some 99, .mv (.t 9), some (98, true)⟩,
          ⟨some 100, .mv (.t 5), some (98, true)⟩,
          ⟨some 101, .bin .lss (.t 99) (.t 100), some (98, true)⟩,
          ⟨some 102, .mv (.t 101), some (98, true)⟩,
          ⟨some 103, .mv (.t 9), some (102, false)⟩,
          ⟨some 104, .mv (.t 5), some (102, false)⟩,
          ⟨some 105, .bin .eql (.t 103) (.t 104), some (102, false)⟩,
          ⟨some 106, .mv (.t 105), some (102, false)⟩,
          ⟨some 107, .mv (.t 1), some (106, true)⟩,
          ⟨some 108, .mv (.t 7), some (106, true)⟩,
          ⟨some 109, .call 0 (.c (.fn 22 [])) [(.t 107), (.t 108)], some (106, true)⟩,
          ⟨some 110, .not (.t 109), some (106, true)⟩,
          ⟨some 111, .pick (.t 106) (.t 110) (.c (.bool false)), some (102, false)⟩,
          ⟨some 112, .pick (.t 102) (.c (.bool true)) (.t 111), some (98, true)⟩,
          ⟨some 113, .pick (.t 98) (.t 112) (.c (.bool false)), none⟩,
          ⟨some 4, .mv (.t 113), none⟩]) (
        .ret))))))))))))))⟩

def a9 : AFunc := ⟨[.tmp 6],
 (.seq (
  .region [] [
    ⟨some 6, .mv (.c (.bool false)), none⟩]) (
  (.seq (
   (.seq (
    .region [] [
      ⟨some 10, .call 0 (.c (.fn 10 [])) [], none⟩,
      ⟨some 11, .not (.t 10), none⟩,
      ⟨some 12, .mv (.t 11), none⟩,
      ⟨some 13, .mv (.t 0), some (12, false)⟩,
      ⟨some 14, .len (.t 13), some (12, false)⟩,
      ⟨some 15, .bin .gtr (.t 14) (.c (.int .i64 40)), some (12, false)⟩,
      ⟨some 16, .pick (.t 12) (.c (.bool true)) (.t 15), none⟩,
      ⟨some 17, .mv (.t 16), none⟩,
      ⟨some 18, .mv (.t 1), some (17, false)⟩,
      ⟨some 19, .len (.t 18), some (17, false)⟩,
      ⟨some 20, .bin .gtr (.t 19) (.c (.int .i64 40)), some (17, false)⟩,
      ⟨some 21, .pick (.t 17) (.c (.bool true)) (.t 20), none⟩,
      ⟨some 22, .mv (.t 21), none⟩,
      ⟨some 23, .mv (.t 2), some (22, false)⟩,
      ⟨some 24, .len (.t 23), some (22, false)⟩,
      ⟨some 25, .bin .gtr (.t 24) (.c (.int .i64 40)), some (22, false)⟩,
      ⟨some 26, .pick (.t 22) (.c (.bool true)) (.t 25), none⟩]) (
    (.cond (.t 26) (
     (.seq (
      .region [] [
        ⟨some 27, .call 0 (.c (.fn 10 [])) [], none⟩,
        ⟨some 6, .mv (.t 27), none⟩]) (
      .ret))) (
     .skip))))) (
   (.seq (
    .region [] [
      ⟨some 28, .mv (.t 0), none⟩,
      ⟨some 29, .mv (.t 1), none⟩,
      ⟨some 30, .call 0 (.c (.fn 22 [])) [(.t 28), (.t 29)], none⟩,
      ⟨some 31, .mv (.t 1), none⟩,
      ⟨some 32, .mv (.t 2), none⟩,
      ⟨some 33, .call 0 (.c (.fn 22 [])) [(.t 31), (.t 32)], none⟩,
      ⟨some 34, .mv (.t 0), none⟩,
      ⟨some 35, .mv (.t 2), none⟩,
      ⟨some 36, .call 0 (.c (.fn 22 [])) [(.t 34), (.t 35)], none⟩,
      ⟨some 7, .mv (.t 30), none⟩,
      ⟨some 8, .mv (.t 33), none⟩,
      ⟨some 9, .mv (.t 36), none⟩]) (
    (.seq (
     .region [] [
       ⟨some 37, .mv (.t 7), none⟩,
       ⟨some 38, .mv (.t 0), none⟩,
       ⟨some 39, .mv (.t 1), none⟩,
       ⟨some 40, .call 0 (.c (.fn 23 [])) [(.t 38), (.t 39)], none⟩,
       ⟨some 41, .eqb false (.t 37) (.t 40), none⟩,
       ⟨some 42, .mv (.t 41), none⟩,
       ⟨some 43, .mv (.t 8), some (42, true)⟩,
       ⟨some 44, .mv (.t 1), some (42, true)⟩,
       ⟨some 45, .mv (.t 2), some (42, true)⟩,
       ⟨some 46, .call 0 (.c (.fn 23 [])) [(.t 44), (.t 45)], some (42, true)⟩,
       ⟨some 47, .eqb false (.t 43) (.t 46), some (42, true)⟩,
       ⟨some 48, .pick (.t 42) (.t 47) (.c (.bool false)), none⟩,
       ⟨some 49, .mv (.t 48), none⟩,
       ⟨some 50, .mv (.t 0), some (49, true)⟩,
       ⟨some 51, .mv (.t 0), some (49, true)⟩,
       ⟨some 52, .call 0 (.c (.fn 22 [])) [(.t 50), (.t 51)], some (49, true)⟩,
       ⟨some 53, .not (.t 52), some (49, true)⟩,
       ⟨some 54, .pick (.t 49) (.t 53) (.c (.bool false)), none⟩,
       ⟨some 55, .mv (.t 54), none⟩,
       ⟨some 56, .mv (.t 7), some (55, true)⟩,
       ⟨some 57, .mv (.t 56), some (55, true)⟩,
       ⟨some 58, .mv (.t 1), some (57, true)⟩,
       ⟨some 59, .mv (.t 0), some (57, true)⟩,
       ⟨some 60, .call 0 (.c (.fn 22 [])) [(.t 58), (.t 59)], some (57, true)⟩,
       ⟨some 61, .pick (.t 57) (.t 60) (.c (.bool false)), some (55, true)⟩,
       ⟨some 62, .not (.t 61), some (55, true)⟩,
       ⟨some 63, .pick (.t 55) (.t 62) (.c (.bool false)), none⟩,
       ⟨some 64, .mv (.t 63), none⟩,
       ⟨some 65, .mv (.t 7), some (64, true)⟩,
       ⟨some 66, .not (.t 65), some (64, true)⟩,
       ⟨some 67, .mv (.t 66), some (64, true)⟩,
       ⟨some 68, .mv (.t 8), some (67, false)⟩,
       ⟨some 69, .not (.t 68), some (67, false)⟩,
       ⟨some 70, .pick (.t 67) (.c (.bool true)) (.t 69), some (64, true)⟩,
       ⟨some 71, .mv (.t 70), some (64, true)⟩,
       ⟨some 72, .mv (.t 9), some (71, false)⟩,
       ⟨some 73, .pick (.t 71) (.c (.bool true)) (.t 72), some (64, true)⟩,
       ⟨some 74, .pick (.t 64) (.t 73) (.c (.bool false)), none⟩,
       ⟨some 6, .mv (.t 74), none⟩]) (
     .ret))))))))⟩

def a10 : AFunc := ⟨[.tmp 0],
 (.seq (
  .region [] [
    ⟨some 0, .mv (.c (.bool false)), none⟩]) (
  (.seq (
   .region [] [
     ⟨some 7, .build [(.int .i64 0), (.int .i64 0), (.int .i64 0), (.int .i64 0), (.int .i64 0)] [(1, 1, (.c (.int .i64 100))), (2, 1, (.c (.int .i64 200)))], none⟩,
     ⟨some 1, .alloc 1 [(.int .i64 0), (.int .i64 0), (.int .i64 0), (.int .i64 0), (.int .i64 0)], none⟩,
     ⟨none, .store 5 (.t 1) (.t 7), none⟩]) (
   (.seq (
    .region [] [
      ⟨some 8, .load true 5 (.t 1), none⟩,
      ⟨some 9, .load true 5 (.t 1), none⟩,
      ⟨some 10, .load true 5 (.t 1), none⟩,
      ⟨some 11, .lit 5 [(.int .i64 0), (.int .i64 0), (.int .i64 0), (.int .i64 0), (.int .i64 0)] 3 [(0, 5, (.t 8)), (5, 5, (.t 9)), (10, 5, (.t 10))], none⟩,
      ⟨some 2, .mv (.t 11), none⟩]) (
    (.seq (
     .region [] [
       ⟨some 13, .mv (.t 2), none⟩,
       ⟨some 14, .call 0 (.c (.fn 18 [])) [(.t 13), (.c (.int .i64 400)), (.c (.int .i64 0))], none⟩,
       ⟨some 12, .mv (.t 14), none⟩,
       ⟨some 15, .ext (.t 12) 0, none⟩,
       ⟨some 16, .ext (.t 12) 1, none⟩,
       ⟨some 3, .mv (.t 15), none⟩,
       ⟨some 4, .mv (.t 16), none⟩]) (
     (.seq (
      .region [] [
        ⟨some 18, .mv (.t 2), none⟩,
        ⟨some 19, .lit 1 [(.int .i64 0)] 2 [(0, 1, (.c (.int .i64 0))), (1, 1, (.c (.int .i64 1)))], none⟩,
        ⟨some 20, .call 0 (.c (.fn 14 [])) [(.t 18), (.t 19), (.c (.int .i64 400)), (.c (.int .i64 0))], none⟩,
        ⟨some 17, .mv (.t 20), none⟩,
        ⟨some 21, .ext (.t 17) 0, none⟩,
        ⟨some 22, .ext (.t 17) 1, none⟩,
        ⟨some 5, .mv (.t 21), none⟩,
        ⟨some 6, .mv (.t 22), none⟩]) (
      (.seq (
       .region [] [
         ⟨some 23, .mv (.t 4), none⟩,
         ⟨some 24, .bin .eql (.t 23) (.c (.int .i64 0)), none⟩,
         ⟨some 25, .mv (.t 24), none⟩,
         ⟨some 26, .mv (.t 3), some (25, true)⟩,
         ⟨some 27, .len (.t 26), some (25, true)⟩,
         ⟨some 28, .bin .eql (.t 27) (.c (.int .i64 2)), some (25, true)⟩,
         ⟨some 29, .pick (.t 25) (.t 28) (.c (.bool false)), none⟩,
         ⟨some 30, .mv (.t 29), none⟩,
         ⟨some 31, .mv (.t 3), some (30, true)⟩,
         ⟨some 32, .elemAddr 1 (.t 31) (.c (.int .i64 0)), some (30, true)⟩,
         ⟨some 33, .load false 1 (.t 32), some (30, true)⟩,
         ⟨some 34, .bin .eql (.t 33) (.c (.int .i64 0)), some (30, true)⟩,
         ⟨some 35, .pick (.t 30) (.t 34) (.c (.bool false)), none⟩,
         ⟨some 36, .mv (.t 35), none⟩,
         ⟨some 37, .mv (.t 3), some (36, true)⟩,
         ⟨some 38, .elemAddr 1 (.t 37) (.c (.int .i64 1)), some (36, true)⟩,
         ⟨some 39, .load false 1 (.t 38), some (36, true)⟩,
         ⟨some 40, .bin .eql (.t 39) (.c (.int .i64 2)), some (36, true)⟩,
         ⟨some 41, .pick (.t 36) (.t 40) (.c (.bool false)), none⟩,
         ⟨some 42, .mv (.t 41), none⟩,
         ⟨some 43, .mv (.t 6), some (42, true)⟩,
         ⟨some 44, .bin .eql (.t 43) (.c (.int .i64 0)), some (42, true)⟩,
         ⟨some 45, .pick (.t 42) (.t 44) (.c (.bool false)), none⟩,
         ⟨some 46, .mv (.t 45), none⟩,
         ⟨some 47, .mv (.t 5), some (46, true)⟩,
         ⟨some 48, .bin .eql (.t 47) (.c (.int .i64 10001)), some (46, true)⟩,
         ⟨some 49, .pick (.t 46) (.t 48) (.c (.bool false)), none⟩,
         ⟨some 50, .mv (.t 49), none⟩,
         ⟨some 51, .call 0 (.c (.fn 11 [])) [(.c (.int .i64 400)), (.c (.int .i64 200)), (.c (.int .i64 500))], some (50, true)⟩,
         ⟨some 52, .bin .eql (.t 51) (.c (.int .i64 108900)), some (50, true)⟩,
         ⟨some 53, .pick (.t 50) (.t 52) (.c (.bool false)), none⟩,
         ⟨some 0, .mv (.t 53), none⟩]) (
       .ret))))))))))))⟩

def a11 : AFunc := ⟨[.tmp 6],
 (.seq (
  .region [] [
    ⟨some 6, .mv (.c (.int .i64 0)), none⟩]) (
  (.seq (
   (.seq (
    .region [] [
      ⟨some 9, .mv (.t 0), none⟩,
      ⟨some 10, .call 0 (.c (.fn 24 [])) [(.t 9), (.c (.int .i64 0)), (.c (.int .i64 1099511627776))], none⟩,
      ⟨some 11, .not (.t 10), none⟩,
      ⟨some 12, .mv (.t 11), none⟩,
      ⟨some 13, .mv (.t 1), some (12, false)⟩,
      ⟨some 14, .call 0 (.c (.fn 24 [])) [(.t 13), (.c (.int .i64 0)), (.c (.int .i64 1099511627776))], some (12, false)⟩,
      ⟨some 15, .not (.t 14), some (12, false)⟩,
      ⟨some 16, .pick (.t 12) (.c (.bool true)) (.t 15), none⟩,
      ⟨some 17, .mv (.t 16), none⟩,
      ⟨some 18, .mv (.t 2), some (17, false)⟩,
      ⟨some 19, .mv (.t 1), some (17, false)⟩,
      ⟨some 20, .call 0 (.c (.fn 24 [])) [(.t 18), (.t 19), (.c (.int .i64 1099511627776))], some (17, false)⟩,
      ⟨some 21, .not (.t 20), some (17, false)⟩,
      ⟨some 22, .pick (.t 17) (.c (.bool true)) (.t 21), none⟩,
      ⟨some 23, .mv (.t 22), none⟩,
      ⟨some 24, .mv (.t 1), some (23, false)⟩,
      ⟨some 25, .mv (.t 0), some (23, false)⟩,
      ⟨some 26, .bin .gtr (.t 24) (.t 25), some (23, false)⟩,
      ⟨some 27, .pick (.t 23) (.c (.bool true)) (.t 26), none⟩]) (
    (.cond (.t 27) (
     (.seq (
      .region [] [
        ⟨some 6, .mv (.c (.int .i64 1125899906842624)), none⟩]) (
      .ret))) (
     .skip))))) (
   (.seq (
    (.seq (
     .region [] [
       ⟨some 28, .mv (.t 2), none⟩,
       ⟨some 29, .mv (.t 0), none⟩,
       ⟨some 30, .bin .gtr (.t 28) (.t 29), none⟩]) (
     (.cond (.t 30) (
      (.seq (
       .region [] [
         ⟨some 31, .mv (.t 2), none⟩,
         ⟨some 32, .mv (.t 0), none⟩,
         ⟨some 33, .bin .sub (.t 31) (.t 32), none⟩,
         ⟨some 34, .bin .mul (.c (.int .i64 100)) (.t 33), none⟩,
         ⟨some 35, .mv (.t 2), none⟩,
         ⟨some 36, .mv (.t 1), none⟩,
         ⟨some 37, .bin .sub (.t 35) (.t 36), none⟩,
         ⟨some 38, .bin .add (.t 37) (.c (.int .i64 1)), none⟩,
         ⟨some 39, .bin .quo (.t 34) (.t 38), none⟩,
         ⟨some 7, .mv (.t 39), none⟩]) (
       (.seq (
        .region [] [
          ⟨some 40, .mv (.t 7), none⟩,
          ⟨some 41, .bin .mul (.c (.int .i64 100)) (.t 40), none⟩,
          ⟨some 42, .mv (.t 7), none⟩,
          ⟨some 43, .bin .mul (.t 41) (.t 42), none⟩,
          ⟨some 6, .mv (.t 43), none⟩]) (
        .ret))))) (
      .skip))))) (
    (.seq (
     .region [] [
       ⟨some 44, .mv (.t 0), none⟩,
       ⟨some 45, .mv (.t 2), none⟩,
       ⟨some 46, .bin .sub (.t 44) (.t 45), none⟩,
       ⟨some 47, .bin .mul (.c (.int .i64 100)) (.t 46), none⟩,
       ⟨some 48, .mv (.t 2), none⟩,
       ⟨some 49, .bin .add (.t 48) (.c (.int .i64 1)), none⟩,
       ⟨some 50, .bin .quo (.t 47) (.t 49), none⟩,
       ⟨some 8, .mv (.t 50), none⟩]) (
     (.seq (
      (.seq (
       .region [] [
         ⟨some 51, .mv (.t 8), none⟩,
         ⟨some 52, .bin .gtr (.t 51) (.c (.int .i64 10000)), none⟩]) (
       (.cond (.t 52) (
        .region [] [
          ⟨some 8, .mv (.c (.int .i64 10000)), none⟩]) (
        .skip))))) (
      (.seq (
       .region [] [
         ⟨some 53, .mv (.t 8), none⟩,
         ⟨some 54, .mv (.t 8), none⟩,
         ⟨some 55, .bin .mul (.t 53) (.t 54), none⟩,
         ⟨some 6, .mv (.t 55), none⟩]) (
       .ret))))))))))))⟩

def a12 : AFunc := ⟨[.tmp 6],
 (.seq (
  .region [] [
    ⟨some 6, .mv (.c (.int .i64 0)), none⟩]) (
  (.seq (
   (.seq (
    .region [] [
      ⟨some 9, .mv (.t 0), none⟩,
      ⟨some 10, .call 0 (.c (.fn 25 [])) [(.t 9), (.c (.int .i64 0)), (.c (.int .i64 1099511627776))], none⟩,
      ⟨some 11, .not (.t 10), none⟩,
      ⟨some 12, .mv (.t 11), none⟩,
      ⟨some 13, .mv (.t 1), some (12, false)⟩,
      ⟨some 14, .call 0 (.c (.fn 25 [])) [(.t 13), (.c (.int .i64 0)), (.c (.int .i64 1099511627776))], some (12, false)⟩,
      ⟨some 15, .not (.t 14), some (12, false)⟩,
      ⟨some 16, .pick (.t 12) (.c (.bool true)) (.t 15), none⟩,
      ⟨some 17, .mv (.t 16), none⟩,
      ⟨some 18, .mv (.t 2), some (17, false)⟩,
      ⟨some 19, .mv (.t 1), some (17, false)⟩,
      ⟨some 20, .call 0 (.c (.fn 25 [])) [(.t 18), (.t 19), (.c (.int .i64 1099511627776))], some (17, false)⟩,
      ⟨some 21, .not (.t 20), some (17, false)⟩,
      ⟨some 22, .pick (.t 17) (.c (.bool true)) (.t 21), none⟩,
      ⟨some 23, .mv (.t 22), none⟩,
      ⟨some 24, .mv (.t 1), some (23, false)⟩,
      ⟨some 25, .mv (.t 0), some (23, false)⟩,
      ⟨some 26, .bin .gtr (.t 24) (.t 25), some (23, false)⟩,
      ⟨some 27, .pick (.t 23) (.c (.bool true)) (.t 26), none⟩]) (
    (.cond (.t 27) (
     (.seq (
      .region [] [
        ⟨some 6, .mv (.c (.int .i64 1125899906842624)), none⟩]) (
      .ret))) (
     .skip))))) (
   (.seq (
    (.seq (
     .region [] [
       ⟨some 28, .mv (.t 2), none⟩,
       ⟨some 29, .mv (.t 0), none⟩,
       ⟨some 30, .bin .gtr (.t 28) (.t 29), none⟩]) (
     (.cond (.t 30) (
      (.seq (
       .region [] [
         ⟨some 31, .mv (.t 2), none⟩,
         ⟨some 32, .mv (.t 0), none⟩,
         ⟨some 33, .bin .sub (.t 31) (.t 32), none⟩,
         ⟨some 34, .bin .mul (.c (.int .i64 100)) (.t 33), none⟩,
         ⟨some 35, .mv (.t 2), none⟩,
         ⟨some 36, .mv (.t 1), none⟩,
         ⟨some 37, .bin .sub (.t 35) (.t 36), none⟩,
         ⟨some 38, .bin .add (.t 37) (.c (.int .i64 1)), none⟩,
         ⟨some 39, .bin .quo (.t 34) (.t 38), none⟩,
         ⟨some 7, .mv (.t 39), none⟩]) (
       (.seq (
        .region [] [
          ⟨some 40, .mv (.t 7), none⟩,
          ⟨some 41, .bin .mul (.c (.int .i64 100)) (.t 40), none⟩,
          ⟨some 42, .mv (.t 7), none⟩,
          ⟨some 43, .bin .mul (.t 41) (.t 42), none⟩,
          ⟨some 6, .mv (.t 43), none⟩]) (
        .ret))))) (
      .skip))))) (
    (.seq (
     .region [] [
       ⟨some 44, .mv (.t 0), none⟩,
       ⟨some 45, .mv (.t 2), none⟩,
       ⟨some 46, .bin .sub (.t 44) (.t 45), none⟩,
       ⟨some 47, .bin .mul (.c (.int .i64 100)) (.t 46), none⟩,
       ⟨some 48, .mv (.t 2), none⟩,
       ⟨some 49, .bin .add (.t 48) (.c (.int .i64 1)), none⟩,
       ⟨some 50, .bin .quo (.t 47) (.t 49), none⟩,
       ⟨some 51, .mm false [(.c (.int .i64 10000)), (.t 50)], none⟩,
       ⟨some 8, .mv (.t 51), none⟩]) (
     (.seq (
      .region [] [
        ⟨some 52, .mv (.t 8), none⟩,
        ⟨some 53, .mv (.t 8), none⟩,
        ⟨some 54, .bin .mul (.t 52) (.t 53), none⟩,
        ⟨some 6, .mv (.t 54), none⟩]) (
      .ret))))))))))⟩

def a13 : AFunc := ⟨[.tmp 2],
 (.seq (
  .region [] [
    ⟨some 2, .mv (.c (.int .i64 0)), none⟩]) (
  (.seq (
   (.seq (
    .region [] [
      ⟨some 5, .mv (.t 0), none⟩,
      ⟨some 6, .len (.t 5), none⟩,
      ⟨some 7, .bin .eql (.t 6) (.c (.int .i64 0)), none⟩]) (
    (.cond (.t 7) (
     (.seq (
      .region [] [
        ⟨some 2, .mv (.c (.int .i64 4)), none⟩]) (
      .ret))) (
     .skip))))) (
   (.seq (
    (.seq (
     .region [] [
       ⟨some 8, .mv (.t 0), none⟩,
       ⟨some 9, .len (.t 8), none⟩,
       ⟨some 10, .bin .gtr (.t 9) (.c (.int .i64 1024)), none⟩]) (
     (.cond (.t 10) (
      (.seq (
       .region [] [
         ⟨some 2, .mv (.c (.int .i64 9)), none⟩]) (
       .ret))) (
      .skip))))) (
    (.seq (
     (.seq (
      .region [] [
        ⟨some 3, .mv (.c (.int .i64 0)), none⟩]) (
      (.block 0 (
       (.loop (
        (.seq (
         (.seq (
          .region [] [
            ⟨some 11, .mv (.t 3), none⟩,
            ⟨some 12, .mv (.t 0), none⟩,
            ⟨some 13, .len (.t 12), none⟩,
            ⟨some 14, .bin .lss (.t 11) (.t 13), none⟩]) (
          (.cond (.t 14) (
           .skip) (
           .exit 0))))) (
         (.seq (
          (.block 1 (
           (.seq (
            .region [] [
              ⟨some 17, .mv (.t 0), none⟩,
              ⟨some 18, .mv (.t 3), none⟩,
              ⟨some 19, .elemAddr 5 (.t 17) (.t 18), none⟩,
              ⟨some 20, .load true 5 (.t 19), none⟩,
              ⟨some 4, .alloc 1 [(.int .i64 0), (.int .i64 0), (.int .i64 0), (.int .i64 0), (.int .i64 0)], none⟩,
              ⟨none, .store 5 (.t 4) (.t 20), none⟩]) (
            (.seq (
             (.seq (
              .region [] [
                ⟨some 21, .fieldAddr 0 (.t 4), none⟩,
                ⟨some 22, .load false 1 (.t 21), none⟩,
                ⟨some 23, .call 0 (.c (.fn 25 [])) [(.t 22), (.c (.int .i64 0)), (.c (.int .i64 16777216))], none⟩,
                ⟨some 24, .not (.t 23), none⟩,
                ⟨some 25, .mv (.t 24), none⟩,
                ⟨some 26, .fieldAddr 3 (.t 4), some (25, false)⟩,
                ⟨some 27, .load false 1 (.t 26), some (25, false)⟩,
                ⟨some 28, .call 0 (.c (.fn 25 [])) [(.t 27), (.c (.int .i64 0)), (.c (.int .i64 16777216))], some (25, false)⟩,
                ⟨some 29, .not (.t 28), some (25, false)⟩,
                ⟨some 30, .pick (.t 25) (.c (.bool true)) (.t 29), none⟩,
                ⟨some 31, .mv (.t 30), none⟩,
                ⟨some 32, .fieldAddr 1 (.t 4), some (31, false)⟩,
                ⟨some 33, .load false 1 (.t 32), some (31, false)⟩,
                ⟨some 34, .fieldAddr 3 (.t 4), some (31, false)⟩,
                ⟨some 35, .load false 1 (.t 34), some (31, false)⟩,
                ⟨some 36, .call 0 (.c (.fn 25 [])) [(.t 33), (.t 35), (.c (.int .i64 16777216))], some (31, false)⟩,
                ⟨some 37, .not (.t 36), some (31, false)⟩,
                ⟨some 38, .pick (.t 31) (.c (.bool true)) (.t 37), none⟩,
                ⟨some 39, .mv (.t 38), none⟩,
                ⟨some 40, .fieldAddr 2 (.t 4), some (39, false)⟩,
                ⟨some 41, .load false 1 (.t 40), some (39, false)⟩,
                ⟨some 42, .fieldAddr 1 (.t 4), some (39, false)⟩,
                ⟨some 43, .load false 1 (.t 42), some (39, false)⟩,
                ⟨some 44, .call 0 (.c (.fn 25 [])) [(.t 41), (.t 43), (.c (.int .i64 16777216))], some (39, false)⟩,
                ⟨some 45, .not (.t 44), some (39, false)⟩,
                ⟨some 46, .pick (.t 39) (.c (.bool true)) (.t 45), none⟩]) (
              (.cond (.t 46) (
               (.seq (
                .region [] [
                  ⟨some 2, .mv (.c (.int .i64 2)), none⟩]) (
                .ret))) (
               .skip))))) (
             (.seq (
              .region [] [
                ⟨some 47, .fieldAddr 4 (.t 4), none⟩,
                ⟨some 48, .load false 1 (.t 47), none⟩,
                ⟨some 49, .call 0 (.c (.fn 25 [])) [(.t 48), (.c (.int .i64 0)), (.c (.int .i64 3))], none⟩,
                ⟨some 50, .not (.t 49), none⟩]) (
              (.cond (.t 50) (
               (.seq (
                .region [] [
                  ⟨some 2, .mv (.c (.int .i64 11)), none⟩]) (
                .ret))) (
               .skip))))))))))) (
          .region [] [
            ⟨some 15, .mv (.t 3), none⟩,
            ⟨some 16, .bin .add (.t 15) (.c (.int .i64 1)), none⟩,
            ⟨some 3, .mv (.t 16), none⟩]))))))))))) (
     (.seq (
      .region [] [
        ⟨some 2, .mv (.c (.int .i64 0)), none⟩]) (
      .ret))))))))))⟩

def a14 : AFunc := ⟨[.tmp 8, .tmp 9],
 (.seq (
  .region [] [
    ⟨some 8, .mv (.c (.int .i64 0)), none⟩,
    ⟨some 9, .mv (.c (.int .i64 0)), none⟩]) (
  (.seq (
   (.seq (
    .region [] [
      ⟨some 17, .mv (.t 0), none⟩,
      ⟨some 18, .mv (.t 2), none⟩,
      ⟨some 19, .mv (.t 3), none⟩,
      ⟨some 20, .call 0 (.c (.fn 26 [])) [(.t 17), (.t 18), (.t 19)], none⟩,
      ⟨some 10, .mv (.t 20), none⟩]) (
    (.seq (
     .region [] [
       ⟨some 21, .mv (.t 10), none⟩,
       ⟨some 22, .bin .neq (.t 21) (.c (.int .i64 0)), none⟩]) (
     (.cond (.t 22) (
      (.seq (
       .region [] [
         ⟨some 23, .mv (.t 10), none⟩,
         ⟨some 8, .mv (.c (.int .i64 0)), none⟩,
         ⟨some 9, .mv (.t 23), none⟩]) (
       .ret))) (
      .skip))))))) (
   (.seq (
    (.seq (
     .region [] [
       ⟨some 24, .mv (.t 1), none⟩,
       ⟨some 25, .mv (.t 0), none⟩,
       ⟨some 26, .len (.t 25), none⟩,
       ⟨some 27, .call 0 (.c (.fn 27 [])) [(.t 24), (.t 26)], none⟩,
       ⟨some 28, .not (.t 27), none⟩]) (
     (.cond (.t 28) (
      (.seq (
       .region [] [
         ⟨some 8, .mv (.c (.int .i64 0)), none⟩,
         ⟨some 9, .mv (.c (.int .i64 3)), none⟩]) (
       .ret))) (
      .skip))))) (
    (.seq (
     .region [] [
       ⟨some 11, .mv (.c (.int .i64 0)), none⟩]) (
     (.seq (
      (.seq (
       .region [] [
         ⟨some 29, .mv (.t 1), none⟩,
         ⟨some 30, .len (.t 29), none⟩,
         ⟨some 31, .mv (.c (.int .i64 0)), none⟩]) (
       (.block 0 (
        (.loop (
         (.seq (
          .region [] [
            ⟨some 32, .bin .lss (.t 31) (.t 30), none⟩]) (
          (.seq (
           (.cond (.t 32) (
            .skip) (
            .exit 0))) (
           (.seq (
            (.block 1 (
             (.seq (
              .region [] [
                ⟨some 33, .mv (.t 31), none⟩,
                ⟨some 34, .elemAddr 1 (.t 29) (.t 31), none⟩,
                ⟨some 35, .load false 1 (.t 34), none⟩,
                ⟨some 12, .mv (.t 33), none⟩,
                ⟨some 13, .mv (.t 35), none⟩]) (
              (.seq (
               .region [] [
                 ⟨some 36, .mv (.t 0), none⟩,
                 ⟨some 37, .len (.t 36), none⟩,
                 ⟨some 38, .bin .sub (.t 37) (.c (.int .i64 1)), none⟩,
                 ⟨some 39, .mv (.t 2), none⟩,
                 ⟨some 14, .mv (.t 38), none⟩,
                 ⟨some 15, .mv (.t 39), none⟩]) (
               (.seq (
                (.seq (
                 .region [] [
                   ⟨some 40, .mv (.t 12), none⟩,
                   ⟨some 41, .bin .eql (.t 40) (.c (.int .i64 0)), none⟩]) (
                 (.cond (.t 41) (
                  .region [] [
                    ⟨some 42, .mv (.t 2), none⟩,
                    ⟨some 43, .mv (.t 3), none⟩,
                    ⟨some 44, .bin .sub (.t 42) (.t 43), none⟩,
                    ⟨some 15, .mv (.t 44), none⟩]) (
                  .skip))))) (
                (.seq (
                 (.seq (
                  .region [] [
                    ⟨some 45, .mv (.t 12), none⟩,
                    ⟨some 46, .bin .add (.t 45) (.c (.int .i64 1)), none⟩,
                    ⟨some 47, .mv (.t 1), none⟩,
                    ⟨some 48, .len (.t 47), none⟩,
                    ⟨some 49, .bin .lss (.t 46) (.t 48), none⟩]) (
                  (.cond (.t 49) (
                   .region [] [
                     ⟨some 50, .mv (.t 1), none⟩,
                     ⟨some 51, .mv (.t 12), none⟩,
                     ⟨some 52, .bin .add (.t 51) (.c (.int .i64 1)), none⟩,
                     ⟨some 53, .elemAddr 1 (.t 50) (.t 52), none⟩,
                     ⟨some 54, .load false 1 (.t 53), none⟩,
                     ⟨some 55, .bin .sub (.t 54) (.c (.int .i64 1)), none⟩,
                     ⟨some 14, .mv (.t 55), none⟩]) (
                   .skip))))) (
                 (.seq (
                  .region [] [
                    ⟨some 56, .mv (.t 0), none⟩,
                    ⟨some 57, .mv (.t 13), none⟩,
                    ⟨some 58, .mv (.t 14), none⟩,
                    ⟨some 59, .mv (.t 15), none⟩,
                    ⟨some 60, .call 0 (.c (.fn 28 [])) [(.t 56), (.t 57), (.t 58), (.t 59)], none⟩,
                    ⟨some 16, .mv (.t 60), none⟩]) (
                  (.seq (
                   (.seq (
                    .region [] [
                      ⟨some 61, .mv (.t 16), none⟩,
                      ⟨some 62, .bin .geq (.t 61) (.c (.int .i64 1125899906842624)), none⟩]) (
                    (.cond (.t 62) (
                     (.seq (
                      .region [] [
                        ⟨some 8, .mv (.c (.int .i64 1125899906842624)), none⟩,
                        ⟨some 9, .mv (.c (.int .i64 0)), none⟩]) (
                      .ret))) (
                     .skip))))) (
                   .region [] [
                     ⟨some 63, .mv (.t 11), none⟩,
                     ⟨some 64, .mv (.t 16), none⟩,
                     ⟨some 65, .bin .add (.t 63) (.t 64), none⟩,
                     ⟨some 11, .mv (.t 65), none⟩]))))))))))))))) (
            .region [] [
              ⟨some 66, .bin .add (.t 31) (.c (.int .i64 1)), none⟩,
              ⟨some 31, .mv (.t 66), none⟩]))))))))))))) (
      (.seq (
       .region [] [
         ⟨some 67, .mv (.t 11), none⟩,
         ⟨some 8, .mv (.t 67), none⟩,
         ⟨some 9, .mv (.c (.int .i64 0)), none⟩]) (
       .ret))))))))))))⟩

def a15 : AFunc := ⟨[.tmp 2],
 (.seq (
  .region [] [
    ⟨some 1, .box 1 (.t 0), none⟩,
    ⟨some 2, .mv (.c (.int .i64 0)), none⟩]) (
  (.seq (
   (.seq (
    .region [] [
      ⟨some 3, .fieldAddr 1 (.t 1), none⟩,
      ⟨some 4, .load false 1 (.t 3), none⟩,
      ⟨some 5, .bin .lss (.t 4) (.c (.int .i64 1)), none⟩,
      ⟨some 6, .mv (.t 5), none⟩,
      ⟨some 7, .fieldAddr 1 (.t 1), some (6, false)⟩,
      ⟨some 8, .load false 1 (.t 7), some (6, false)⟩,
      ⟨some 9, .bin .gtr (.t 8) (.c (.int .i64 16777216)), some (6, false)⟩,
      ⟨some 10, .pick (.t 6) (.c (.bool true)) (.t 9), none⟩,
      ⟨some 11, .mv (.t 10), none⟩,
      ⟨some 12, .fieldAddr 2 (.t 1), some (11, false)⟩,
      ⟨some 13, .load false 1 (.t 12), some (11, false)⟩,
      ⟨some 14, .bin .lss (.t 13) (.c (.int .i64 0)), some (11, false)⟩,
      ⟨some 15, .pick (.t 11) (.c (.bool true)) (.t 14), none⟩,
      ⟨some 16, .mv (.t 15), none⟩,
      ⟨some 17, .fieldAddr 2 (.t 1), some (16, false)⟩,
      ⟨some 18, .load false 1 (.t 17), some (16, false)⟩,
      ⟨some 19, .fieldAddr 1 (.t 1), some (16, false)⟩,
      ⟨some 20, .load false 1 (.t 19), some (16, false)⟩,
      ⟨some 21, .bin .geq (.t 18) (.t 20), some (16, false)⟩,
      ⟨some 22, .pick (.t 16) (.c (.bool true)) (.t 21), none⟩]) (
    (.cond (.t 22) (
     (.seq (
      .region [] [
        ⟨some 2, .mv (.c (.int .i64 2)), none⟩]) (
      .ret))) (
     .skip))))) (
   (.seq (
    .region [] [
      ⟨some 2, .mv (.c (.int .i64 0)), none⟩]) (
    .ret))))))⟩

def a16 : AFunc := ⟨[.tmp 4],
 (.seq (
  .region [] [
    ⟨some 4, .mv (.c (.bool false)), none⟩]) (
  (.seq (
   (.seq (
    .region [] [
      ⟨some 6, .mv (.t 0), none⟩,
      ⟨some 7, .len (.t 6), none⟩,
      ⟨some 8, .bin .eql (.t 7) (.c (.int .i64 0)), none⟩,
      ⟨some 9, .mv (.t 8), none⟩,
      ⟨some 10, .mv (.t 0), some (9, false)⟩,
      ⟨some 11, .elemAddr 1 (.t 10) (.c (.int .i64 0)), some (9, false)⟩,
      ⟨some 12, .load false 1 (.t 11), some (9, false)⟩,
      ⟨some 13, .bin .neq (.t 12) (.c (.int .i64 0)), some (9, false)⟩,
      ⟨some 14, .pick (.t 9) (.c (.bool true)) (.t 13), none⟩]) (
    (.cond (.t 14) (
     (.seq (
      .region [] [
        ⟨some 4, .mv (.c (.bool false)), none⟩]) (
      .ret))) (
     .skip))))) (
   (.seq (
    (.seq (
     .region [] [
       ⟨some 5, .mv (.c (.int .i64 1)), none⟩]) (
     (.block 0 (
      (.loop (
       (.seq (
        (.seq (
         .region [] [
           ⟨some 15, .mv (.t 5), none⟩,
           ⟨some 16, .mv (.t 0), none⟩,
           ⟨some 17, .len (.t 16), none⟩,
           ⟨some 18, .bin .lss (.t 15) (.t 17), none⟩]) (
         (.cond (.t 18) (
          .skip) (
          .exit 0))))) (
        (.seq (
         (.block 1 (
          (.seq (
           .region [] [
             ⟨some 21, .mv (.t 0), none⟩,
             ⟨some 22, .mv (.t 5), none⟩,
             ⟨some 23, .elemAddr 1 (.t 21) (.t 22), none⟩,
             ⟨some 24, .load false 1 (.t 23), none⟩,
             ⟨some 25, .mv (.t 0), none⟩,
             ⟨some 26, .mv (.t 5), none⟩,
             ⟨some 27, .bin .sub (.t 26) (.c (.int .i64 1)), none⟩,
             ⟨some 28, .elemAddr 1 (.t 25) (.t 27), none⟩,
             ⟨some 29, .load false 1 (.t 28), none⟩,
             ⟨some 30, .bin .leq (.t 24) (.t 29), none⟩,
             ⟨some 31, .mv (.t 30), none⟩,
             ⟨some 32, .mv (.t 0), some (31, false)⟩,
             ⟨some 33, .mv (.t 5), some (31, false)⟩,
             ⟨some 34, .elemAddr 1 (.t 32) (.t 33), some (31, false)⟩,
             ⟨some 35, .load false 1 (.t 34), some (31, false)⟩,
             ⟨some 36, .mv (.t 1), some (31, false)⟩,
             ⟨some 37, .bin .geq (.t 35) (.t 36), some (31, false)⟩,
             ⟨some 38, .pick (.t 31) (.c (.bool true)) (.t 37), none⟩]) (
           (.cond (.t 38) (
            (.seq (
             .region [] [
               ⟨some 4, .mv (.c (.bool false)), none⟩]) (
             .ret))) (
            .skip))))))) (
         .region [] [
           ⟨some 19, .mv (.t 5), none⟩,
           ⟨some 20, .bin .add (.t 19) (.c (.int .i64 1)), none⟩,
           ⟨some 5, .mv (.t 20), none⟩]))))))))))) (
    (.seq (
     .region [] [
       ⟨some 4, .mv (.c (.bool true)), none⟩]) (
     .ret))))))))⟩

def a17 : AFunc := ⟨[.tmp 8],
 (.seq (
  .region [] [
    ⟨some 8, .mv (.c (.int .i64 0)), none⟩]) (
  (.seq (
   .region [] [
     ⟨some 9, .mv (.c (.int .i64 0)), none⟩]) (
   (.seq (
    (.seq (
     .region [] [
       ⟨some 10, .mv (.c (.int .i64 0)), none⟩]) (
     (.block 0 (
      (.loop (
       (.seq (
        (.seq (
         .region [] [
           ⟨some 14, .mv (.t 10), none⟩,
           ⟨some 15, .mv (.t 1), none⟩,
           ⟨some 16, .len (.t 15), none⟩,
           ⟨some 17, .bin .lss (.t 14) (.t 16), none⟩]) (
         (.cond (.t 17) (
          .skip) (
          .exit 0))))) (
        (.seq (
         (.block 1 (
          (.seq (
           .region [] [
             ⟨some 20, .mv (.t 0), none⟩,
             ⟨some 21, .len (.t 20), none⟩,
             ⟨some 22, .bin .sub (.t 21) (.c (.int .i64 1)), none⟩,
             ⟨some 23, .mv (.t 2), none⟩,
             ⟨some 11, .mv (.t 22), none⟩,
             ⟨some 12, .mv (.t 23), none⟩]) (
           (.seq (
            (.seq (
             .region [] [
               ⟨some 24, .mv (.t 10), none⟩,
               ⟨some 25, .bin .add (.t 24) (.c (.int .i64 1)), none⟩,
               ⟨some 26, .mv (.t 1), none⟩,
               ⟨some 27, .len (.t 26), none⟩,
               ⟨some 28, .bin .lss (.t 25) (.t 27), none⟩]) (
             (.cond (.t 28) (
              .region [] [
                ⟨some 29, .mv (.t 1), none⟩,
                ⟨some 30, .mv (.t 10), none⟩,
                ⟨some 31, .bin .add (.t 30) (.c (.int .i64 1)), none⟩,
                ⟨some 32, .elemAddr 1 (.t 29) (.t 31), none⟩,
                ⟨some 33, .load false 1 (.t 32), none⟩,
                ⟨some 34, .bin .sub (.t 33) (.c (.int .i64 1)), none⟩,
                ⟨some 11, .mv (.t 34), none⟩]) (
              .skip))))) (
            (.seq (
             (.seq (
              .region [] [
                ⟨some 35, .mv (.t 10), none⟩,
                ⟨some 36, .bin .eql (.t 35) (.c (.int .i64 0)), none⟩]) (
              (.cond (.t 36) (
               .region [] [
                 ⟨some 37, .mv (.t 2), none⟩,
                 ⟨some 38, .mv (.t 3), none⟩,
                 ⟨some 39, .bin .sub (.t 37) (.t 38), none⟩,
                 ⟨some 12, .mv (.t 39), none⟩]) (
               .skip))))) (
             (.seq (
              .region [] [
                ⟨some 40, .mv (.t 0), none⟩,
                ⟨some 41, .mv (.t 1), none⟩,
                ⟨some 42, .mv (.t 10), none⟩,
                ⟨some 43, .elemAddr 1 (.t 41) (.t 42), none⟩,
                ⟨some 44, .load false 1 (.t 43), none⟩,
                ⟨some 45, .mv (.t 11), none⟩,
                ⟨some 46, .mv (.t 12), none⟩,
                ⟨some 47, .call 0 (.c (.fn 29 [])) [(.t 40), (.t 44), (.t 45), (.t 46)], none⟩,
                ⟨some 13, .mv (.t 47), none⟩]) (
              (.seq (
               (.seq (
                .region [] [
                  ⟨some 48, .mv (.t 13), none⟩,
                  ⟨some 49, .bin .eql (.t 48) (.c (.int .i64 1125899906842624)), none⟩]) (
                (.cond (.t 49) (
                 (.seq (
                  .region [] [
                    ⟨some 8, .mv (.c (.int .i64 1125899906842624)), none⟩]) (
                  .ret))) (
                 .skip))))) (
               .region [] [
                 ⟨some 50, .mv (.t 9), none⟩,
                 ⟨some 51, .mv (.t 13), none⟩,
                 ⟨some 52, .bin .add (.t 50) (.t 51), none⟩,
                 ⟨some 9, .mv (.t 52), none⟩]))))))))))))) (
         .region [] [
           ⟨some 18, .mv (.t 10), none⟩,
           ⟨some 19, .bin .add (.t 18) (.c (.int .i64 1)), none⟩,
           ⟨some 10, .mv (.t 19), none⟩]))))))))))) (
    (.seq (
     .region [] [
       ⟨some 53, .mv (.t 9), none⟩,
       ⟨some 8, .mv (.t 53), none⟩]) (
     .ret))))))))⟩

def a18 : AFunc := ⟨[.tmp 6, .tmp 7],
 (.seq (
  .region [] [
    ⟨some 6, .mv (.c .nilsl), none⟩,
    ⟨some 7, .mv (.c (.int .i64 0)), none⟩]) (
  (.seq (
   (.seq (
    .region [] [
      ⟨some 21, .mv (.t 0), none⟩,
      ⟨some 22, .mv (.t 1), none⟩,
      ⟨some 23, .mv (.t 2), none⟩,
      ⟨some 24, .call 0 (.c (.fn 26 [])) [(.t 21), (.t 22), (.t 23)], none⟩,
      ⟨some 8, .mv (.t 24), none⟩]) (
    (.seq (
     .region [] [
       ⟨some 25, .mv (.t 8), none⟩,
       ⟨some 26, .bin .neq (.t 25) (.c (.int .i64 0)), none⟩]) (
     (.cond (.t 26) (
      (.seq (
       .region [] [
         ⟨some 27, .mv (.t 8), none⟩,
         ⟨some 6, .mv (.c .nilsl), none⟩,
         ⟨some 7, .mv (.t 27), none⟩]) (
       .ret))) (
      .skip))))))) (
   (.seq (
    .region [] [
      ⟨some 28, .mv (.t 0), none⟩,
      ⟨some 29, .len (.t 28), none⟩,
      ⟨some 9, .mv (.t 29), none⟩]) (
    (.seq (
     .region [] [
       ⟨some 30, .mv (.t 9), none⟩,
       ⟨some 31, .bin .add (.t 30) (.c (.int .i64 1)), none⟩,
       ⟨some 32, .mks 1 3 [(.int .i64 0), (.int .i64 0), (.int .i64 0)] 24 (.t 31) (.t 31), none⟩,
       ⟨some 10, .mv (.t 32), none⟩]) (
     (.seq (
      .region [] [
        ⟨some 33, .mv (.t 10), none⟩,
        ⟨some 34, .mv (.t 9), none⟩,
        ⟨some 35, .mv (.t 9), none⟩,
        ⟨some 36, .build [(.int .i64 0), (.int .i64 0), (.int .i64 0)] [(2, 1, (.t 35))], none⟩,
        ⟨some 37, .elemAddr 3 (.t 33) (.t 34), none⟩,
        ⟨none, .store 3 (.t 37) (.t 36), none⟩]) (
      (.seq (
       (.seq (
        .region [] [
          ⟨some 38, .mv (.t 9), none⟩,
          ⟨some 39, .bin .sub (.t 38) (.c (.int .i64 1)), none⟩,
          ⟨some 11, .mv (.t 39), none⟩]) (
        (.block 0 (
         (.loop (
          (.seq (
           (.seq (
            .region [] [
              ⟨some 40, .mv (.t 11), none⟩,
              ⟨some 41, .bin .geq (.t 40) (.c (.int .i64 0)), none⟩]) (
            (.cond (.t 41) (
             .skip) (
             .exit 0))))) (
           (.seq (
            (.block 1 (
             (.seq (
              .region [] [
                ⟨some 44, .mv (.t 1), none⟩,
                ⟨some 12, .mv (.t 44), none⟩]) (
              (.seq (
               (.seq (
                .region [] [
                  ⟨some 45, .mv (.t 11), none⟩,
                  ⟨some 46, .bin .eql (.t 45) (.c (.int .i64 0)), none⟩]) (
                (.cond (.t 46) (
                 .region [] [
                   ⟨some 47, .mv (.t 1), none⟩,
                   ⟨some 48, .mv (.t 2), none⟩,
                   ⟨some 49, .bin .sub (.t 47) (.t 48), none⟩,
                   ⟨some 12, .mv (.t 49), none⟩]) (
                 .skip))))) (
               (.seq (
                .region [] [
                  ⟨some 50, .mv (.t 10), none⟩,
                  ⟨some 51, .mv (.t 11), none⟩,
                  ⟨some 52, .build [(.int .i64 0), (.int .i64 0), (.int .i64 0)] [(0, 1, (.c (.int .i64 1125899906842624)))], none⟩,
                  ⟨some 53, .elemAddr 3 (.t 50) (.t 51), none⟩,
                  ⟨none, .store 3 (.t 53) (.t 52), none⟩]) (
                (.seq (
                 .region [] [
                   ⟨some 54, .mv (.t 11), none⟩,
                   ⟨some 13, .mv (.t 54), none⟩]) (
                 (.block 2 (
                  (.loop (
                   (.seq (
                    (.seq (
                     .region [] [
                       ⟨some 55, .mv (.t 13), none⟩,
                       ⟨some 56, .mv (.t 9), none⟩,
                       ⟨some 57, .bin .lss (.t 55) (.t 56), none⟩]) (
                     (.cond (.t 57) (
                      .skip) (
                      .exit 2))))) (
                    (.seq (
                     (.block 3 (
                      (.seq (
                       (.seq (
                        .region [] [
                          ⟨some 61, .mv (.t 0), none⟩,
                          ⟨some 62, .mv (.t 11), none⟩,
                          ⟨some 63, .mv (.t 13), none⟩,
                          ⟨some 64, .call 0 (.c (.fn 30 [])) [(.t 61), (.t 62), (.t 63)], none⟩,
                          ⟨some 60, .mv (.t 64), none⟩,
                          ⟨some 65, .ext (.t 60) 0, none⟩,
                          ⟨some 66, .ext (.t 60) 1, none⟩,
                          ⟨some 14, .mv (.t 65), none⟩,
                          ⟨some 15, .mv (.t 66), none⟩]) (
                        (.seq (
                         .region [] [
                           ⟨some 67, .mv (.t 14), none⟩,
                           ⟨some 68, .mv (.t 12), none⟩,
                           ⟨some 69, .bin .gtr (.t 67) (.t 68), none⟩]) (
                         (.cond (.t 69) (
                          .exit 2) (
                          .skip))))))) (
                       (.seq (
                        .region [2] [
                          ⟨some 70, .mv (.t 0), none⟩,
                          ⟨some 71, .mv (.t 11), none⟩,
                          ⟨some 72, .mv (.t 13), none⟩,
                          ⟨some 73, .mv (.t 12), none⟩,
                          ⟨some 74, .call 0 (.c (.fn 28 [])) [(.t 70), (.t 71), (.t 72), (.t 73)], none⟩,
                          ⟨some 75, .mv (.t 10), none⟩,
                          ⟨some 76, .mv (.t 13), none⟩,
                          ⟨some 77, .bin .add (.t 76) (.c (.int .i64 1)), none⟩,
                          ⟨some 78, .elemAddr 3 (.t 75) (.t 77), none⟩,
                          ⟨some 79, .load true 3 (.t 78), none⟩,
                          ⟨some 17, .alloc 2 [(.int .i64 0), (.int .i64 0), (.int .i64 0)], none⟩,
                          ⟨some 16, .mv (.t 74), none⟩,
                          ⟨none, .store 3 (.t 17) (.t 79), none⟩]) (
                        (.seq (
                         (.seq (
                          .region [] [
                            ⟨some 80, .mv (.t 16), none⟩,
                            ⟨some 81, .bin .geq (.t 80) (.c (.int .i64 1125899906842624)), none⟩,
                            ⟨some 82, .mv (.t 81), none⟩,
                            ⟨some 83, .fieldAddr 0 (.t 17), some (82, false)⟩,
                            ⟨some 84, .load false 1 (.t 83), some (82, false)⟩,
                            ⟨some 85, .bin .geq (.t 84) (.c (.int .i64 1125899906842624)), some (82, false)⟩,
                            ⟨some 86, .pick (.t 82) (.c (.bool true)) (.t 85), none⟩]) (
                          (.cond (.t 86) (
                           .exit 3) (
                           .skip))))) (
                         (.seq (
                          .region [] [
                            ⟨some 87, .mv (.t 16), none⟩,
                            ⟨some 88, .fieldAddr 0 (.t 17), none⟩,
                            ⟨some 89, .load false 1 (.t 88), none⟩,
                            ⟨some 90, .bin .add (.t 87) (.t 89), none⟩,
                            ⟨some 91, .fieldAddr 1 (.t 17), none⟩,
                            ⟨some 92, .load false 1 (.t 91), none⟩,
                            ⟨some 93, .bin .add (.t 92) (.c (.int .i64 1)), none⟩,
                            ⟨some 94, .mv (.t 13), none⟩,
                            ⟨some 95, .bin .add (.t 94) (.c (.int .i64 1)), none⟩,
                            ⟨some 96, .build [(.int .i64 0), (.int .i64 0), (.int .i64 0)] [(0, 1, (.t 90)), (1, 1, (.t 93)), (2, 1, (.t 95))], none⟩,
                            ⟨some 18, .alloc 3 [(.int .i64 0), (.int .i64 0), (.int .i64 0)], none⟩,
                            ⟨none, .store 3 (.t 18) (.t 96), none⟩]) (
                          (.seq (
                           .region [] [
                             ⟨some 97, .mv (.t 10), none⟩,
                             ⟨some 98, .mv (.t 11), none⟩,
                             ⟨some 99, .elemAddr 3 (.t 97) (.t 98), none⟩,
                             ⟨some 100, .fieldAddr 0 (.t 99), none⟩,
                             ⟨some 101, .load false 1 (.t 100), none⟩,
                             ⟨some 102, .bin .geq (.t 101) (.c (.int .i64 1125899906842624)), none⟩,
                             ⟨some 103, .mv (.t 102), none⟩,
                             ⟨some 104, .load true 3 (.t 18), some (103, false)⟩,
                             ⟨some 105, .mv (.t 10), some (103, false)⟩,
                             ⟨some 106, .mv (.t 11), some (103, false)⟩,
                             ⟨some 107, .elemAddr 3 (.t 105) (.t 106), some (103, false)⟩,
                             ⟨some 108, .load true 3 (.t 107), some (103, false)⟩,
                             ⟨some 109, .call 0 (.c (.fn 31 [])) [(.t 104), (.t 108)], some (103, false)⟩,
                             ⟨some 110, .pick (.t 103) (.c (.bool true)) (.t 109), none⟩]) (
                           (.cond (.t 110) (
                            .region [] [
                              ⟨some 111, .mv (.t 10), none⟩,
                              ⟨some 112, .mv (.t 11), none⟩,
                              ⟨some 113, .load true 3 (.t 18), none⟩,
                              ⟨some 114, .elemAddr 3 (.t 111) (.t 112), none⟩,
                              ⟨none, .store 3 (.t 114) (.t 113), none⟩]) (
                            .skip))))))))))))))) (
                     .region [] [
                       ⟨some 58, .mv (.t 13), none⟩,
                       ⟨some 59, .bin .add (.t 58) (.c (.int .i64 1)), none⟩,
                       ⟨some 13, .mv (.t 59), none⟩]))))))))))))))))))) (
            .region [] [
              ⟨some 42, .mv (.t 11), none⟩,
              ⟨some 43, .bin .sub (.t 42) (.c (.int .i64 1)), none⟩,
              ⟨some 11, .mv (.t 43), none⟩]))))))))))) (
       (.seq (
        (.seq (
         .region [] [
           ⟨some 115, .mv (.t 10), none⟩,
           ⟨some 116, .elemAddr 3 (.t 115) (.c (.int .i64 0)), none⟩,
           ⟨some 117, .fieldAddr 0 (.t 116), none⟩,
           ⟨some 118, .load false 1 (.t 117), none⟩,
           ⟨some 119, .bin .geq (.t 118) (.c (.int .i64 1125899906842624)), none⟩]) (
         (.cond (.t 119) (
          (.seq (
           .region [] [
             ⟨some 6, .mv (.c .nilsl), none⟩,
             ⟨some 7, .mv (.c (.int .i64 28)), none⟩]) (
           .ret))) (
          .skip))))) (
        (.seq (
         .region [] [
           ⟨some 19, .mv (.c .nilsl), none⟩]) (
         (.seq (
          (.seq (
           .region [] [
             ⟨some 20, .mv (.c (.int .i64 0)), none⟩]) (
           (.block 4 (
            (.loop (
             (.seq (
              (.seq (
               .region [] [
                 ⟨some 120, .mv (.t 20), none⟩,
                 ⟨some 121, .mv (.t 9), none⟩,
                 ⟨some 122, .bin .lss (.t 120) (.t 121), none⟩]) (
               (.cond (.t 122) (
                .skip) (
                .exit 4))))) (
              (.seq (
               (.block 5 (
                .region [] [
                  ⟨some 128, .mv (.t 19), none⟩,
                  ⟨some 129, .mv (.t 20), none⟩,
                  ⟨some 130, .lit 1 [(.int .i64 0)] 1 [(0, 1, (.t 129))], none⟩,
                  ⟨some 131, .app 4 1 8 (.t 128) (.t 130), none⟩,
                  ⟨some 19, .mv (.t 131), none⟩]))) (
               .region [] [
                 ⟨some 123, .mv (.t 10), none⟩,
                 ⟨some 124, .mv (.t 20), none⟩,
                 ⟨some 125, .elemAddr 3 (.t 123) (.t 124), none⟩,
                 ⟨some 126, .fieldAddr 2 (.t 125), none⟩,
                 ⟨some 127, .load false 1 (.t 126), none⟩,
                 ⟨some 20, .mv (.t 127), none⟩]))))))))))) (
          (.seq (
           .region [] [
             ⟨some 132, .mv (.t 19), none⟩,
             ⟨some 6, .mv (.t 132), none⟩,
             ⟨some 7, .mv (.c (.int .i64 0)), none⟩]) (
           .ret))))))))))))))))))))⟩

def a19 : AFunc := ⟨[.tmp 6, .tmp 7],
 (.seq (
  .region [] [
    ⟨some 6, .mv (.c .nilsl), none⟩,
    ⟨some 7, .mv (.c (.int .i64 0)), none⟩]) (
  (.seq (
   .region [] [
     ⟨some 8, .mv (.c .nilsl), none⟩]) (
   (.seq (
    .region [] [
      ⟨some 9, .mv (.c (.int .i64 1125899906842624)), none⟩]) (
    (.seq (
     (.seq (
      .region [] [
        ⟨some 10, .mv (.c (.int .i64 0)), none⟩]) (
      (.block 0 (
       (.loop (
        (.seq (
         (.seq (
          .region [] [
            ⟨some 13, .mv (.t 10), none⟩,
            ⟨some 14, .mv (.t 0), none⟩,
            ⟨some 15, .len (.t 14), none⟩,
            ⟨some 16, .bin .sub (.t 15) (.c (.int .i64 1)), none⟩,
            ⟨some 17, .bin .shl (.c (.int .i64 1)) (.t 16), none⟩,
            ⟨some 18, .bin .lss (.t 13) (.t 17), none⟩]) (
          (.cond (.t 18) (
           .skip) (
           .exit 0))))) (
         (.seq (
          (.block 1 (
           (.seq (
            .region [] [
              ⟨some 21, .mv (.t 10), none⟩,
              ⟨some 22, .mv (.t 0), none⟩,
              ⟨some 23, .len (.t 22), none⟩,
              ⟨some 24, .call 0 (.c (.fn 32 [])) [(.t 21), (.t 23)], none⟩,
              ⟨some 11, .mv (.t 24), none⟩]) (
            (.seq (
             .region [] [
               ⟨some 25, .mv (.t 0), none⟩,
               ⟨some 26, .mv (.t 11), none⟩,
               ⟨some 27, .mv (.t 1), none⟩,
               ⟨some 28, .mv (.t 2), none⟩,
               ⟨some 29, .call 0 (.c (.fn 17 [])) [(.t 25), (.t 26), (.t 27), (.t 28)], none⟩,
               ⟨some 12, .mv (.t 29), none⟩]) (
             (.seq (
              .region [] [
                ⟨some 30, .mv (.t 12), none⟩,
                ⟨some 31, .mv (.t 9), none⟩,
                ⟨some 32, .bin .lss (.t 30) (.t 31), none⟩,
                ⟨some 33, .mv (.t 32), none⟩,
                ⟨some 34, .mv (.t 12), some (33, false)⟩,
                ⟨some 35, .mv (.t 9), some (33, false)⟩,
                ⟨some 36, .bin .eql (.t 34) (.t 35), some (33, false)⟩,
                ⟨some 37, .mv (.t 36), some (33, false)⟩,
                ⟨some 38, .mv (.t 12), some (37, true)⟩,
                ⟨some 39, .bin .lss (.t 38) (.c (.int .i64 1125899906842624)), some (37, true)⟩,
                ⟨some 40, .pick (.t 37) (.t 39) (.c (.bool false)), some (33, false)⟩,
                ⟨some 41, .mv (.t 40), some (33, false)⟩,
                ⟨some 42, .mv (.t 11), some (41, true)⟩,
                ⟨some 43, .mv (.t 8), some (41, true)⟩,
                ⟨some 44, .call 0 (.c (.fn 23 [])) [(.t 42), (.t 43)], some (41, true)⟩,
                ⟨some 45, .pick (.t 41) (.t 44) (.c (.bool false)), some (33, false)⟩,
                ⟨some 46, .pick (.t 33) (.c (.bool true)) (.t 45), none⟩]) (
              (.cond (.t 46) (
               .region [] [
                 ⟨some 47, .mv (.t 11), none⟩,
                 ⟨some 48, .mv (.t 12), none⟩,
                 ⟨some 8, .mv (.t 47), none⟩,
                 ⟨some 9, .mv (.t 48), none⟩]) (
               .skip))))))))))) (
          .region [] [
            ⟨some 19, .mv (.t 10), none⟩,
            ⟨some 20, .bin .add (.t 19) (.c (.int .i64 1)), none⟩,
            ⟨some 10, .mv (.t 20), none⟩]))))))))))) (
     (.seq (
      .region [] [
        ⟨some 49, .mv (.t 8), none⟩,
        ⟨some 50, .mv (.t 9), none⟩,
        ⟨some 6, .mv (.t 49), none⟩,
        ⟨some 7, .mv (.t 50), none⟩]) (
      .ret))))))))))⟩

def a20 : AFunc := ⟨[.tmp 4],
 (.seq (
  .region [] [
    ⟨some 4, .mv (.c (.bool false)), none⟩]) (
  (.seq (
   (.seq (
    .region [] [
      ⟨some 6, .mv (.t 0), none⟩,
      ⟨some 7, .len (.t 6), none⟩,
      ⟨some 8, .mv (.t 1), none⟩,
      ⟨some 9, .len (.t 8), none⟩,
      ⟨some 10, .bin .neq (.t 7) (.t 9), none⟩]) (
    (.cond (.t 10) (
     (.seq (
      .region [] [
        ⟨some 4, .mv (.c (.bool false)), none⟩]) (
      .ret))) (
     .skip))))) (
   (.seq (
    (.seq (
     .region [] [
       ⟨some 5, .mv (.c (.int .i64 0)), none⟩]) (
     (.block 0 (
      (.loop (
       (.seq (
        (.seq (
         .region [] [
           ⟨some 11, .mv (.t 5), none⟩,
           ⟨some 12, .mv (.t 0), none⟩,
           ⟨some 13, .len (.t 12), none⟩,
           ⟨some 14, .bin .lss (.t 11) (.t 13), none⟩]) (
         (.cond (.t 14) (
          .skip) (
          .exit 0))))) (
        (.seq (
         (.block 1 (
          (.seq (
           .region [] [
             ⟨some 17, .mv (.t 0), none⟩,
             ⟨some 18, .mv (.t 5), none⟩,
             ⟨some 19, .elemAddr 1 (.t 17) (.t 18), none⟩,
             ⟨some 20, .load false 1 (.t 19), none⟩,
             ⟨some 21, .mv (.t 1), none⟩,
             ⟨some 22, .mv (.t 5), none⟩,
             ⟨some 23, .elemAddr 1 (.t 21) (.t 22), none⟩,
             ⟨some 24, .load false 1 (.t 23), none⟩,
             ⟨some 25, .bin .neq (.t 20) (.t 24), none⟩]) (
           (.cond (.t 25) (
            (.seq (
             .region [] [
               ⟨some 4, .mv (.c (.bool false)), none⟩]) (
             .ret))) (
            .skip))))))) (
         .region [] [
           ⟨some 15, .mv (.t 5), none⟩,
           ⟨some 16, .bin .add (.t 15) (.c (.int .i64 1)), none⟩,
           ⟨some 5, .mv (.t 16), none⟩]))))))))))) (
    (.seq (
     .region [] [
       ⟨some 4, .mv (.c (.bool true)), none⟩]) (
     .ret))))))))⟩

def a21 : AFunc := ⟨[.tmp 6, .tmp 7, .tmp 8],
 (.seq (
  .region [] [
    ⟨some 6, .mv (.c (.int .i64 0)), none⟩,
    ⟨some 7, .mv (.c (.int .i64 0)), none⟩,
    ⟨some 8, .mv (.c (.int .i64 0)), none⟩]) (
  (.seq (
   (.seq (
    .region [] [
      ⟨some 10, .mv (.t 0), none⟩,
      ⟨some 11, .mv (.t 1), none⟩,
      ⟨some 12, .mv (.t 2), none⟩,
      ⟨some 13, .call 0 (.c (.fn 33 [])) [(.t 10), (.t 11), (.t 12)], none⟩,
      ⟨some 9, .mv (.t 13), none⟩]) (
    (.seq (
     .region [] [
       ⟨some 14, .mv (.t 9), none⟩,
       ⟨some 15, .bin .neq (.t 14) (.c (.int .i64 0)), none⟩]) (
     (.cond (.t 15) (
      (.seq (
       .region [] [
         ⟨some 16, .mv (.t 9), none⟩,
         ⟨some 6, .mv (.c (.int .i64 0)), none⟩,
         ⟨some 7, .mv (.c (.int .i64 0)), none⟩,
         ⟨some 8, .mv (.t 16), none⟩]) (
       .ret))) (
      .skip))))))) (
   (.seq (
    .region [] [
      ⟨some 18, .mv (.t 0), none⟩,
      ⟨some 19, .mv (.t 1), none⟩,
      ⟨some 20, .mv (.t 2), none⟩,
      ⟨some 21, .call 0 (.c (.fn 30 [])) [(.t 18), (.t 19), (.t 20)], none⟩,
      ⟨some 17, .mv (.t 21), none⟩,
      ⟨some 22, .ext (.t 17) 0, none⟩,
      ⟨some 23, .ext (.t 17) 1, none⟩,
      ⟨some 6, .mv (.t 22), none⟩,
      ⟨some 7, .mv (.t 23), none⟩]) (
    (.seq (
     .region [] [
       ⟨some 24, .mv (.t 6), none⟩,
       ⟨some 25, .mv (.t 7), none⟩,
       ⟨some 6, .mv (.t 24), none⟩,
       ⟨some 7, .mv (.t 25), none⟩,
       ⟨some 8, .mv (.c (.int .i64 0)), none⟩]) (
     .ret))))))))⟩

def a22 : AFunc := ⟨[.tmp 4],
 (.seq (
  .region [] [
    ⟨some 4, .mv (.c (.bool false)), none⟩]) (
  (.seq (
   (.seq (
    .region [] [
      ⟨some 5, .mv (.t 0), none⟩,
      ⟨some 6, .len (.t 5), none⟩,
      ⟨some 7, .mv (.t 1), none⟩,
      ⟨some 8, .len (.t 7), none⟩,
      ⟨some 9, .bin .neq (.t 6) (.t 8), none⟩]) (
    (.cond (.t 9) (
     (.seq (
      .region [] [
        ⟨some 10, .mv (.t 0), none⟩,
        ⟨some 11, .len (.t 10), none⟩,
        ⟨some 12, .mv (.t 1), none⟩,
        ⟨some 13, .len (.t 12), none⟩,
        ⟨some 14, .bin .lss (.t 11) (.t 13), none⟩,
        ⟨some 4, .mv (.t 14), none⟩]) (
      .ret))) (
     .skip))))) (
   (.seq (
    .region [] [
      ⟨some 15, .mv (.t 0), none⟩,
      ⟨some 16, .mv (.t 1), none⟩,
      ⟨some 17, .call 0 (.c (.fn 34 [])) [(.t 15), (.t 16)], none⟩,
      ⟨some 18, .bin .lss (.t 17) (.c (.int .i64 0)), none⟩,
      ⟨some 4, .mv (.t 18), none⟩]) (
    .ret))))))⟩

def a23 : AFunc := ⟨[.tmp 4],
 (.seq (
  .region [] [
    ⟨some 4, .mv (.c (.bool false)), none⟩]) (
  (.seq (
   (.seq (
    .region [] [
      ⟨some 6, .mv (.t 0), none⟩,
      ⟨some 7, .len (.t 6), none⟩,
      ⟨some 8, .mv (.t 1), none⟩,
      ⟨some 9, .len (.t 8), none⟩,
      ⟨some 10, .bin .neq (.t 7) (.t 9), none⟩]) (
    (.cond (.t 10) (
     (.seq (
      .region [] [
        ⟨some 11, .mv (.t 0), none⟩,
        ⟨some 12, .len (.t 11), none⟩,
        ⟨some 13, .mv (.t 1), none⟩,
        ⟨some 14, .len (.t 13), none⟩,
        ⟨some 15, .bin .lss (.t 12) (.t 14), none⟩,
        ⟨some 4, .mv (.t 15), none⟩]) (
      .ret))) (
     .skip))))) (
   (.seq (
    (.seq (
     .region [] [
       ⟨some 5, .mv (.c (.int .i64 0)), none⟩]) (
     (.block 0 (
      (.loop (
       (.seq (
        (.seq (
         .region [] [
           ⟨some 16, .mv (.t 5), none⟩,
           ⟨some 17, .mv (.t 0), none⟩,
           ⟨some 18, .len (.t 17), none⟩,
           ⟨some 19, .bin .lss (.t 16) (.t 18), none⟩]) (
         (.cond (.t 19) (
          .skip) (
          .exit 0))))) (
        (.seq (
         (.block 1 (
          (.seq (
           .region [] [
             ⟨some 22, .mv (.t 0), none⟩,
             ⟨some 23, .mv (.t 5), none⟩,
             ⟨some 24, .elemAddr 1 (.t 22) (.t 23), none⟩,
             ⟨some 25, .load false 1 (.t 24), none⟩,
             ⟨some 26, .mv (.t 1), none⟩,
             ⟨some 27, .mv (.t 5), none⟩,
             ⟨some 28, .elemAddr 1 (.t 26) (.t 27), none⟩,
             ⟨some 29, .load false 1 (.t 28), none⟩,
             ⟨some 30, .bin .neq (.t 25) (.t 29), none⟩]) (
           (.cond (.t 30) (
            (.seq (
             .region [] [
               ⟨some 31, .mv (.t 0), none⟩,
               ⟨some 32, .mv (.t 5), none⟩,
               ⟨some 33, .elemAddr 1 (.t 31) (.t 32), none⟩,
               ⟨some 34, .load false 1 (.t 33), none⟩,
               ⟨some 35, .mv (.t 1), none⟩,
               ⟨some 36, .mv (.t 5), none⟩,
               ⟨some 37, .elemAddr 1 (.t 35) (.t 36), none⟩,
               ⟨some 38, .load false 1 (.t 37), none⟩,
               ⟨some 39, .bin .lss (.t 34) (.t 38), none⟩,
               ⟨some 4, .mv (.t 39), none⟩]) (
             .ret))) (
            .skip))))))) (
         .region [] [
           ⟨some 20, .mv (.t 5), none⟩,
           ⟨some 21, .bin .add (.t 20) (.c (.int .i64 1)), none⟩,
           ⟨some 5, .mv (.t 21), none⟩]))))))))))) (
    (.seq (
     .region [] [
       ⟨some 4, .mv (.c (.bool false)), none⟩]) (
     .ret))))))))⟩

def a24 : AFunc := ⟨[.tmp 6],
 (.seq (
  .region [] [
    ⟨some 6, .mv (.c (.bool false)), none⟩]) (
  (.seq (
   .region [] [
     ⟨some 7, .mv (.t 0), none⟩,
     ⟨some 8, .mv (.t 1), none⟩,
     ⟨some 9, .bin .geq (.t 7) (.t 8), none⟩,
     ⟨some 10, .mv (.t 9), none⟩,
     ⟨some 11, .mv (.t 0), some (10, true)⟩,
     ⟨some 12, .mv (.t 2), some (10, true)⟩,
     ⟨some 13, .bin .leq (.t 11) (.t 12), some (10, true)⟩,
     ⟨some 14, .pick (.t 10) (.t 13) (.c (.bool false)), none⟩,
     ⟨some 6, .mv (.t 14), none⟩]) (
   .ret))))⟩

def a25 : AFunc := ⟨[.tmp 6],
 (.seq (
  .region [] [
    ⟨some 6, .mv (.c (.bool false)), none⟩]) (
  (.seq (
   .region [] [
     ⟨some 7, .mv (.t 0), none⟩,
     ⟨some 8, .mv (.t 1), none⟩,
     ⟨some 9, .bin .geq (.t 7) (.t 8), none⟩,
     ⟨some 10, .mv (.t 9), none⟩,
     ⟨some 11, .mv (.t 0), some (10, true)⟩,
     ⟨some 12, .mv (.t 2), some (10, true)⟩,
     ⟨some 13, .bin .leq (.t 11) (.t 12), some (10, true)⟩,
     ⟨some 14, .pick (.t 10) (.t 13) (.c (.bool false)), none⟩,
     ⟨some 6, .mv (.t 14), none⟩]) (
   .ret))))⟩

def a26 : AFunc := ⟨[.tmp 6],
 (.seq (
  .region [] [
    ⟨some 6, .mv (.c (.int .i64 0)), none⟩]) (
  (.seq (
   (.seq (
    .region [] [
      ⟨some 8, .mv (.t 0), none⟩,
      ⟨some 9, .call 0 (.c (.fn 35 [])) [(.t 8)], none⟩,
      ⟨some 7, .mv (.t 9), none⟩]) (
    (.seq (
     .region [] [
       ⟨some 10, .mv (.t 7), none⟩,
       ⟨some 11, .bin .neq (.t 10) (.c (.int .i64 0)), none⟩]) (
     (.cond (.t 11) (
      (.seq (
       .region [] [
         ⟨some 12, .mv (.t 7), none⟩,
         ⟨some 6, .mv (.t 12), none⟩]) (
       .ret))) (
      .skip))))))) (
   (.seq (
    (.seq (
     .region [] [
       ⟨some 13, .mv (.t 1), none⟩,
       ⟨some 14, .call 0 (.c (.fn 24 [])) [(.t 13), (.c (.int .i64 1)), (.c (.int .i64 16777216))], none⟩,
       ⟨some 15, .not (.t 14), none⟩,
       ⟨some 16, .mv (.t 15), none⟩,
       ⟨some 17, .mv (.t 2), some (16, false)⟩,
       ⟨some 18, .mv (.t 1), some (16, false)⟩,
       ⟨some 19, .bin .sub (.t 18) (.c (.int .i64 1)), some (16, false)⟩,
       ⟨some 20, .call 0 (.c (.fn 24 [])) [(.t 17), (.c (.int .i64 0)), (.t 19)], some (16, false)⟩,
       ⟨some 21, .not (.t 20), some (16, false)⟩,
       ⟨some 22, .pick (.t 16) (.c (.bool true)) (.t 21), none⟩]) (
     (.cond (.t 22) (
      (.seq (
       .region [] [
         ⟨some 6, .mv (.c (.int .i64 2)), none⟩]) (
       .ret))) (
      .skip))))) (
    (.seq (
     .region [] [
       ⟨some 6, .mv (.c (.int .i64 0)), none⟩]) (
     .ret))))))))⟩

def a27 : AFunc := ⟨[.tmp 4],
 (.seq (
  .region [] [
    ⟨some 4, .mv (.c (.bool false)), none⟩]) (
  (.seq (
   (.seq (
    .region [] [
      ⟨some 7, .mv (.t 0), none⟩,
      ⟨some 8, .len (.t 7), none⟩,
      ⟨some 9, .mv (.c (.int .i64 0)), none⟩]) (
    (.block 0 (
     (.loop (
      (.seq (
       .region [] [
         ⟨some 10, .bin .lss (.t 9) (.t 8), none⟩]) (
       (.seq (
        (.cond (.t 10) (
         .skip) (
         .exit 0))) (
        (.seq (
         (.block 1 (
          (.seq (
           .region [] [
             ⟨some 11, .mv (.t 9), none⟩,
             ⟨some 12, .elemAddr 1 (.t 7) (.t 9), none⟩,
             ⟨some 13, .load false 1 (.t 12), none⟩,
             ⟨some 5, .mv (.t 11), none⟩,
             ⟨some 6, .mv (.t 13), none⟩]) (
           (.seq (
            .region [] [
              ⟨some 14, .mv (.t 5), none⟩,
              ⟨some 15, .bin .eql (.t 14) (.c (.int .i64 0)), none⟩,
              ⟨some 16, .mv (.t 15), none⟩,
              ⟨some 17, .mv (.t 6), some (16, true)⟩,
              ⟨some 18, .bin .neq (.t 17) (.c (.int .i64 0)), some (16, true)⟩,
              ⟨some 19, .pick (.t 16) (.t 18) (.c (.bool false)), none⟩,
              ⟨some 20, .mv (.t 19), none⟩,
              ⟨some 21, .mv (.t 5), some (20, false)⟩,
              ⟨some 22, .bin .gtr (.t 21) (.c (.int .i64 0)), some (20, false)⟩,
              ⟨some 23, .mv (.t 22), some (20, false)⟩,
              ⟨some 24, .mv (.t 6), some (23, true)⟩,
              ⟨some 25, .mv (.t 0), some (23, true)⟩,
              ⟨some 26, .mv (.t 5), some (23, true)⟩,
              ⟨some 27, .bin .sub (.t 26) (.c (.int .i64 1)), some (23, true)⟩,
              ⟨some 28, .elemAddr 1 (.t 25) (.t 27), some (23, true)⟩,
              ⟨some 29, .load false 1 (.t 28), some (23, true)⟩,
              ⟨some 30, .bin .leq (.t 24) (.t 29), some (23, true)⟩,
              ⟨some 31, .pick (.t 23) (.t 30) (.c (.bool false)), some (20, false)⟩,
              ⟨some 32, .pick (.t 20) (.c (.bool true)) (.t 31), none⟩,
              ⟨some 33, .mv (.t 32), none⟩,
              ⟨some 34, .mv (.t 6), some (33, false)⟩,
              ⟨some 35, .mv (.t 1), some (33, false)⟩,
              ⟨some 36, .bin .geq (.t 34) (.t 35), some (33, false)⟩,
              ⟨some 37, .pick (.t 33) (.c (.bool true)) (.t 36), none⟩]) (
            (.cond (.t 37) (
             (.seq (
              .region [] [
                ⟨some 4, .mv (.c (.bool false)), none⟩]) (
              .ret))) (
             .skip))))))))) (
         .region [] [
           ⟨some 38, .bin .add (.t 9) (.c (.int .i64 1)), none⟩,
           ⟨some 9, .mv (.t 38), none⟩]))))))))))))) (
   (.seq (
    .region [] [
      ⟨some 39, .mv (.t 0), none⟩,
      ⟨some 40, .len (.t 39), none⟩,
      ⟨some 41, .bin .gtr (.t 40) (.c (.int .i64 0)), none⟩,
      ⟨some 4, .mv (.t 41), none⟩]) (
    .ret))))))⟩

def a28 : AFunc := ⟨[.tmp 8],
 (.seq (
  .region [] [
    ⟨some 8, .mv (.c (.int .i64 0)), none⟩]) (
  (.seq (
   .region [] [
     ⟨some 13, .mv (.t 0), none⟩,
     ⟨some 14, .mv (.t 1), none⟩,
     ⟨some 15, .mv (.t 2), none⟩,
     ⟨some 16, .call 0 (.c (.fn 30 [])) [(.t 13), (.t 14), (.t 15)], none⟩,
     ⟨some 12, .mv (.t 16), none⟩,
     ⟨some 17, .ext (.t 12) 0, none⟩,
     ⟨some 18, .ext (.t 12) 1, none⟩,
     ⟨some 9, .mv (.t 17), none⟩,
     ⟨some 10, .mv (.t 18), none⟩]) (
   (.seq (
    (.block 0 (
     (.seq (
      .region [] [
        ⟨some 20, .mv (.t 0), none⟩,
        ⟨some 21, .mv (.t 1), none⟩,
        ⟨some 22, .mv (.t 2), none⟩,
        ⟨some 23, .call 0 (.c (.fn 36 [])) [(.t 20), (.t 21), (.t 22)], none⟩,
        ⟨some 24, .not (.t 23), none⟩,
        ⟨some 19, .mv (.t 24), none⟩]) (
      (.cond (.t 19) (
       (.seq (
        .region [] [
          ⟨some 8, .mv (.c (.int .i64 1125899906842624)), none⟩]) (
        .ret))) (
       (.seq (
        .region [] [
          ⟨some 26, .mv (.t 2), none⟩,
          ⟨some 27, .mv (.t 0), none⟩,
          ⟨some 28, .len (.t 27), none⟩,
          ⟨some 29, .bin .sub (.t 28) (.c (.int .i64 1)), none⟩,
          ⟨some 30, .bin .eql (.t 26) (.t 29), none⟩,
          ⟨some 31, .mv (.t 30), none⟩,
          ⟨some 32, .mv (.t 10), some (31, true)⟩,
          ⟨some 33, .mv (.t 3), some (31, true)⟩,
          ⟨some 34, .bin .leq (.t 32) (.t 33), some (31, true)⟩,
          ⟨some 35, .pick (.t 31) (.t 34) (.c (.bool false)), none⟩,
          ⟨some 25, .mv (.t 35), none⟩]) (
        (.cond (.t 25) (
         (.seq (
          .region [] [
            ⟨some 8, .mv (.c (.int .i64 100)), none⟩]) (
          .ret))) (
         .skip))))))))))) (
    (.seq (
     (.seq (
      .region [] [
        ⟨some 36, .mv (.t 3), none⟩,
        ⟨some 37, .mv (.t 9), none⟩,
        ⟨some 38, .mv (.t 10), none⟩,
        ⟨some 39, .call 0 (.c (.fn 11 [])) [(.t 36), (.t 37), (.t 38)], none⟩,
        ⟨some 11, .mv (.t 39), none⟩]) (
      (.seq (
       .region [] [
         ⟨some 40, .mv (.t 11), none⟩,
         ⟨some 41, .bin .lss (.t 40) (.c (.int .i64 1125899906842624)), none⟩]) (
       (.cond (.t 41) (
        (.seq (
         .region [] [
           ⟨some 42, .mv (.t 11), none⟩,
           ⟨some 43, .bin .add (.t 42) (.c (.int .i64 100)), none⟩,
           ⟨some 8, .mv (.t 43), none⟩]) (
         .ret))) (
        .skip))))))) (
     (.seq (
      .region [] [
        ⟨some 8, .mv (.c (.int .i64 1125899906842624)), none⟩]) (
      .ret))))))))))⟩

def a29 : AFunc := ⟨[.tmp 8],
 (.seq (
  .region [] [
    ⟨some 8, .mv (.c (.int .i64 0)), none⟩]) (
  (.seq (
   (.seq (
    .region [] [
      ⟨some 13, .mv (.t 1), none⟩,
      ⟨some 14, .bin .gtr (.t 13) (.c (.int .i64 0)), none⟩,
      ⟨some 15, .mv (.t 14), none⟩,
      ⟨some 16, .mv (.t 0), some (15, true)⟩,
      ⟨some 17, .mv (.t 1), some (15, true)⟩,
      ⟨some 18, .elemAddr 5 (.t 16) (.t 17), some (15, true)⟩,
      ⟨some 19, .fieldAddr 4 (.t 18), some (15, true)⟩,
      ⟨some 20, .load false 1 (.t 19), some (15, true)⟩,
      ⟨some 21, .bin .eql (.t 20) (.c (.int .i64 3)), some (15, true)⟩,
      ⟨some 22, .pick (.t 15) (.t 21) (.c (.bool false)), none⟩]) (
    (.cond (.t 22) (
     (.seq (
      .region [] [
        ⟨some 8, .mv (.c (.int .i64 1125899906842624)), none⟩]) (
      .ret))) (
     .skip))))) (
   (.seq (
    (.seq (
     .region [] [
       ⟨some 23, .mv (.t 1), none⟩,
       ⟨some 24, .bin .add (.t 23) (.c (.int .i64 1)), none⟩,
       ⟨some 9, .mv (.t 24), none⟩]) (
     (.block 0 (
      (.loop (
       (.seq (
        (.seq (
         .region [] [
           ⟨some 25, .mv (.t 9), none⟩,
           ⟨some 26, .mv (.t 2), none⟩,
           ⟨some 27, .bin .leq (.t 25) (.t 26), none⟩]) (
         (.cond (.t 27) (
          .skip) (
          .exit 0))))) (
        (.seq (
         (.block 1 (
          (.seq (
           .region [] [
             ⟨some 30, .mv (.t 0), none⟩,
             ⟨some 31, .mv (.t 9), none⟩,
             ⟨some 32, .elemAddr 5 (.t 30) (.t 31), none⟩,
             ⟨some 33, .fieldAddr 4 (.t 32), none⟩,
             ⟨some 34, .load false 1 (.t 33), none⟩,
             ⟨some 35, .bin .eql (.t 34) (.c (.int .i64 1)), none⟩,
             ⟨some 36, .mv (.t 35), none⟩,
             ⟨some 37, .mv (.t 0), some (36, false)⟩,
             ⟨some 38, .mv (.t 9), some (36, false)⟩,
             ⟨some 39, .elemAddr 5 (.t 37) (.t 38), some (36, false)⟩,
             ⟨some 40, .fieldAddr 4 (.t 39), some (36, false)⟩,
             ⟨some 41, .load false 1 (.t 40), some (36, false)⟩,
             ⟨some 42, .bin .eql (.t 41) (.c (.int .i64 2)), some (36, false)⟩,
             ⟨some 43, .pick (.t 36) (.c (.bool true)) (.t 42), none⟩]) (
           (.cond (.t 43) (
            (.seq (
             .region [] [
               ⟨some 8, .mv (.c (.int .i64 1125899906842624)), none⟩]) (
             .ret))) (
            .skip))))))) (
         .region [] [
           ⟨some 28, .mv (.t 9), none⟩,
           ⟨some 29, .bin .add (.t 28) (.c (.int .i64 1)), none⟩,
           ⟨some 9, .mv (.t 29), none⟩]))))))))))) (
    (.seq (
     .region [] [
       ⟨some 45, .mv (.t 0), none⟩,
       ⟨some 46, .mv (.t 1), none⟩,
       ⟨some 47, .mv (.t 2), none⟩,
       ⟨some 48, .call 0 (.c (.fn 37 [])) [(.t 45), (.t 46), (.t 47)], none⟩,
       ⟨some 44, .mv (.t 48), none⟩,
       ⟨some 49, .ext (.t 44) 0, none⟩,
       ⟨some 50, .ext (.t 44) 1, none⟩,
       ⟨some 10, .mv (.t 49), none⟩,
       ⟨some 11, .mv (.t 50), none⟩]) (
     (.seq (
      .region [] [
        ⟨some 51, .mv (.t 3), none⟩,
        ⟨some 52, .mv (.t 10), none⟩,
        ⟨some 53, .mv (.t 11), none⟩,
        ⟨some 54, .call 0 (.c (.fn 12 [])) [(.t 51), (.t 52), (.t 53)], none⟩,
        ⟨some 12, .mv (.t 54), none⟩]) (
      (.seq (
       (.seq (
        .region [] [
          ⟨some 55, .mv (.t 12), none⟩,
          ⟨some 56, .bin .eql (.t 55) (.c (.int .i64 1125899906842624)), none⟩]) (
        (.cond (.t 56) (
         (.seq (
          .region [] [
            ⟨some 8, .mv (.c (.int .i64 1125899906842624)), none⟩]) (
          .ret))) (
         .skip))))) (
       (.seq (
        (.seq (
         .region [] [
           ⟨some 57, .mv (.t 2), none⟩,
           ⟨some 58, .mv (.t 0), none⟩,
           ⟨some 59, .len (.t 58), none⟩,
           ⟨some 60, .bin .sub (.t 59) (.c (.int .i64 1)), none⟩,
           ⟨some 61, .bin .eql (.t 57) (.t 60), none⟩,
           ⟨some 62, .mv (.t 61), none⟩,
           ⟨some 63, .mv (.t 11), some (62, true)⟩,
           ⟨some 64, .mv (.t 3), some (62, true)⟩,
           ⟨some 65, .bin .leq (.t 63) (.t 64), some (62, true)⟩,
           ⟨some 66, .pick (.t 62) (.t 65) (.c (.bool false)), none⟩]) (
         (.cond (.t 66) (
          .region [] [
            ⟨some 12, .mv (.c (.int .i64 0)), none⟩]) (
          .skip))))) (
        (.seq (
         .region [] [
           ⟨some 67, .mv (.t 12), none⟩,
           ⟨some 68, .bin .add (.t 67) (.c (.int .i64 100)), none⟩,
           ⟨some 8, .mv (.t 68), none⟩]) (
         .ret))))))))))))))))⟩

def a30 : AFunc := ⟨[.tmp 6, .tmp 7],
 (.seq (
  .region [] [
    ⟨some 6, .mv (.c (.int .i64 0)), none⟩,
    ⟨some 7, .mv (.c (.int .i64 0)), none⟩]) (
  (.seq (
   .region [] [
     ⟨some 11, .mv (.t 0), none⟩,
     ⟨some 12, .mv (.t 1), none⟩,
     ⟨some 13, .elemAddr 5 (.t 11) (.t 12), none⟩,
     ⟨some 14, .fieldAddr 0 (.t 13), none⟩,
     ⟨some 15, .load false 1 (.t 14), none⟩,
     ⟨some 16, .mv (.t 0), none⟩,
     ⟨some 17, .mv (.t 1), none⟩,
     ⟨some 18, .elemAddr 5 (.t 16) (.t 17), none⟩,
     ⟨some 19, .fieldAddr 3 (.t 18), none⟩,
     ⟨some 20, .load false 1 (.t 19), none⟩,
     ⟨some 21, .bin .sub (.t 15) (.t 20), none⟩,
     ⟨some 8, .mv (.t 21), none⟩]) (
   (.seq (
    .region [] [
      ⟨some 22, .mv (.t 8), none⟩,
      ⟨some 23, .mv (.t 8), none⟩,
      ⟨some 6, .mv (.t 22), none⟩,
      ⟨some 7, .mv (.t 23), none⟩]) (
    (.seq (
     (.seq (
      .region [] [
        ⟨some 24, .mv (.t 0), none⟩,
        ⟨some 25, .mv (.t 1), none⟩,
        ⟨some 26, .mv (.t 2), none⟩,
        ⟨some 27, .bin .add (.t 26) (.c (.int .i64 1)), none⟩,
        ⟨some 28, .sub 5 (.t 24) (some (.t 25)) (some (.t 27)) none, none⟩,
        ⟨some 29, .len (.t 28), none⟩,
        ⟨some 30, .mv (.c (.int .i64 0)), none⟩]) (
      (.block 0 (
       (.loop (
        (.seq (
         .region [] [
           ⟨some 31, .bin .lss (.t 30) (.t 29), none⟩]) (
         (.seq (
          (.cond (.t 31) (
           .skip) (
           .exit 0))) (
          (.seq (
           (.block 1 (
            (.seq (
             .region [] [
               ⟨some 32, .elemAddr 5 (.t 28) (.t 30), none⟩,
               ⟨some 33, .load true 5 (.t 32), none⟩,
               ⟨some 10, .alloc 1 [(.int .i64 0), (.int .i64 0), (.int .i64 0), (.int .i64 0), (.int .i64 0)], none⟩,
               ⟨none, .store 5 (.t 10) (.t 33), none⟩]) (
             .region [] [
               ⟨some 34, .mv (.t 6), none⟩,
               ⟨some 35, .fieldAddr 1 (.t 10), none⟩,
               ⟨some 36, .load false 1 (.t 35), none⟩,
               ⟨some 37, .bin .add (.t 34) (.t 36), none⟩,
               ⟨some 38, .mv (.t 7), none⟩,
               ⟨some 39, .fieldAddr 2 (.t 10), none⟩,
               ⟨some 40, .load false 1 (.t 39), none⟩,
               ⟨some 41, .bin .add (.t 38) (.t 40), none⟩,
               ⟨some 6, .mv (.t 37), none⟩,
               ⟨some 7, .mv (.t 41), none⟩]))))) (
           .region [] [
             ⟨some 42, .bin .add (.t 30) (.c (.int .i64 1)), none⟩,
             ⟨some 30, .mv (.t 42), none⟩]))))))))))))) (
     (.seq (
      .region [] [
        ⟨some 43, .mv (.t 6), none⟩,
        ⟨some 44, .mv (.t 7), none⟩,
        ⟨some 6, .mv (.t 43), none⟩,
        ⟨some 7, .mv (.t 44), none⟩]) (
      .ret))))))))))⟩

def a31 : AFunc := ⟨[.tmp 4],
 (.seq (
  .region [] [
    ⟨some 2, .box 1 (.t 0), none⟩,
    ⟨some 3, .box 2 (.t 1), none⟩,
    ⟨some 4, .mv (.c (.bool false)), none⟩]) (
  (.seq (
   (.block 0 (
    (.seq (
     .region [] [
       ⟨some 6, .fieldAddr 0 (.t 2), none⟩,
       ⟨some 7, .load false 1 (.t 6), none⟩,
       ⟨some 8, .fieldAddr 0 (.t 3), none⟩,
       ⟨some 9, .load false 1 (.t 8), none⟩,
       ⟨some 10, .bin .neq (.t 7) (.t 9), none⟩,
       ⟨some 5, .mv (.t 10), none⟩]) (
     (.cond (.t 5) (
      (.seq (
       .region [] [
         ⟨some 11, .fieldAddr 0 (.t 2), none⟩,
         ⟨some 12, .load false 1 (.t 11), none⟩,
         ⟨some 13, .fieldAddr 0 (.t 3), none⟩,
         ⟨some 14, .load false 1 (.t 13), none⟩,
         ⟨some 15, .bin .lss (.t 12) (.t 14), none⟩,
         ⟨some 4, .mv (.t 15), none⟩]) (
       .ret))) (
      (.seq (
       .region [] [
         ⟨some 17, .fieldAddr 1 (.t 2), none⟩,
         ⟨some 18, .load false 1 (.t 17), none⟩,
         ⟨some 19, .fieldAddr 1 (.t 3), none⟩,
         ⟨some 20, .load false 1 (.t 19), none⟩,
         ⟨some 21, .bin .neq (.t 18) (.t 20), none⟩,
         ⟨some 16, .mv (.t 21), none⟩]) (
       (.cond (.t 16) (
        (.seq (
         .region [] [
           ⟨some 22, .fieldAddr 1 (.t 2), none⟩,
           ⟨some 23, .load false 1 (.t 22), none⟩,
           ⟨some 24, .fieldAddr 1 (.t 3), none⟩,
           ⟨some 25, .load false 1 (.t 24), none⟩,
           ⟨some 26, .bin .lss (.t 23) (.t 25), none⟩,
           ⟨some 4, .mv (.t 26), none⟩]) (
         .ret))) (
        .skip))))))))))) (
   (.seq (
    .region [] [
      ⟨some 27, .fieldAddr 2 (.t 2), none⟩,
      ⟨some 28, .load false 1 (.t 27), none⟩,
      ⟨some 29, .fieldAddr 2 (.t 3), none⟩,
      ⟨some 30, .load false 1 (.t 29), none⟩,
      ⟨some 31, .bin .lss (.t 28) (.t 30), none⟩,
      ⟨some 4, .mv (.t 31), none⟩]) (
    .ret))))))⟩

def a32 : AFunc := ⟨[.tmp 4],
 (.seq (
  .region [] [
    ⟨some 4, .mv (.c .nilsl), none⟩]) (
  (.seq (
   .region [] [
     ⟨some 7, .lit 1 [(.int .i64 0)] 1 [(0, 1, (.c (.int .i64 0)))], none⟩,
     ⟨some 5, .mv (.t 7), none⟩]) (
   (.seq (
    (.seq (
     .region [] [
       ⟨some 6, .mv (.c (.int .i64 1)), none⟩]) (
     (.block 0 (
      (.loop (
       (.seq (
        (.seq (
         .region [] [
           ⟨some 8, .mv (.t 6), none⟩,
           ⟨some 9, .mv (.t 1), none⟩,
           ⟨some 10, .bin .lss (.t 8) (.t 9), none⟩]) (
         (.cond (.t 10) (
          .skip) (
          .exit 0))))) (
        (.seq (
         (.block 1 (
          (.seq (
           .region [] [
             ⟨some 13, .mv (.t 0), none⟩,
             ⟨some 14, .mv (.t 6), none⟩,
             ⟨some 15, .bin .sub (.t 14) (.c (.int .i64 1)), none⟩,
             ⟨some 16, .bin .shr (.t 13) (.t 15), none⟩,
             ⟨some 17, .bin .and (.t 16) (.c (.int .i64 1)), none⟩,
             ⟨some 18, .bin .eql (.t 17) (.c (.int .i64 1)), none⟩]) (
           (.cond (.t 18) (
            .region [] [
              ⟨some 19, .mv (.t 5), none⟩,
              ⟨some 20, .mv (.t 6), none⟩,
              ⟨some 21, .lit 1 [(.int .i64 0)] 1 [(0, 1, (.t 20))], none⟩,
              ⟨some 22, .app 1 1 8 (.t 19) (.t 21), none⟩,
              ⟨some 5, .mv (.t 22), none⟩]) (
            .skip))))))) (
         .region [] [
           ⟨some 11, .mv (.t 6), none⟩,
           ⟨some 12, .bin .add (.t 11) (.c (.int .i64 1)), none⟩,
           ⟨some 6, .mv (.t 12), none⟩]))))))))))) (
    (.seq (
     .region [] [
       ⟨some 23, .mv (.t 5), none⟩,
       ⟨some 4, .mv (.t 23), none⟩]) (
     .ret))))))))⟩

def a33 : AFunc := ⟨[.tmp 6],
 (.seq (
  .region [] [
    ⟨some 6, .mv (.c (.int .i64 0)), none⟩]) (
  (.seq (
   (.seq (
    .region [] [
      ⟨some 8, .mv (.t 0), none⟩,
      ⟨some 9, .call 0 (.c (.fn 35 [])) [(.t 8)], none⟩,
      ⟨some 7, .mv (.t 9), none⟩]) (
    (.seq (
     .region [] [
       ⟨some 10, .mv (.t 7), none⟩,
       ⟨some 11, .bin .neq (.t 10) (.c (.int .i64 0)), none⟩]) (
     (.cond (.t 11) (
      (.seq (
       .region [] [
         ⟨some 12, .mv (.t 7), none⟩,
         ⟨some 6, .mv (.t 12), none⟩]) (
       .ret))) (
      .skip))))))) (
   (.seq (
    (.seq (
     .region [] [
       ⟨some 13, .mv (.t 1), none⟩,
       ⟨some 14, .bin .lss (.t 13) (.c (.int .i64 0)), none⟩,
       ⟨some 15, .mv (.t 14), none⟩,
       ⟨some 16, .mv (.t 2), some (15, false)⟩,
       ⟨some 17, .mv (.t 1), some (15, false)⟩,
       ⟨some 18, .bin .lss (.t 16) (.t 17), some (15, false)⟩,
       ⟨some 19, .pick (.t 15) (.c (.bool true)) (.t 18), none⟩,
       ⟨some 20, .mv (.t 19), none⟩,
       ⟨some 21, .mv (.t 2), some (20, false)⟩,
       ⟨some 22, .mv (.t 0), some (20, false)⟩,
       ⟨some 23, .len (.t 22), some (20, false)⟩,
       ⟨some 24, .bin .geq (.t 21) (.t 23), some (20, false)⟩,
       ⟨some 25, .pick (.t 20) (.c (.bool true)) (.t 24), none⟩]) (
     (.cond (.t 25) (
      (.seq (
       .region [] [
         ⟨some 6, .mv (.c (.int .i64 2)), none⟩]) (
       .ret))) (
      .skip))))) (
    (.seq (
     .region [] [
       ⟨some 6, .mv (.c (.int .i64 0)), none⟩]) (
     .ret))))))))⟩

def a34 : AFunc := ⟨[.tmp 4],
 (.seq (
  .region [] [
    ⟨some 4, .mv (.c (.int .i64 0)), none⟩]) (
  (.seq (
   (.seq (
    .region [] [
      ⟨some 9, .mv (.t 0), none⟩,
      ⟨some 10, .len (.t 9), none⟩,
      ⟨some 11, .mv (.c (.int .i64 0)), none⟩]) (
    (.block 0 (
     (.loop (
      (.seq (
       .region [] [
         ⟨some 12, .bin .lss (.t 11) (.t 10), none⟩]) (
       (.seq (
        (.cond (.t 12) (
         .skip) (
         .exit 0))) (
        (.seq (
         (.block 1 (
          (.seq (
           .region [] [
             ⟨some 13, .mv (.t 11), none⟩,
             ⟨some 14, .elemAddr 1 (.t 9) (.t 11), none⟩,
             ⟨some 15, .load false 1 (.t 14), none⟩,
             ⟨some 5, .mv (.t 13), none⟩,
             ⟨some 6, .mv (.t 15), none⟩]) (
           (.seq (
            (.seq (
             .region [] [
               ⟨some 16, .mv (.t 5), none⟩,
               ⟨some 17, .mv (.t 1), none⟩,
               ⟨some 18, .len (.t 17), none⟩,
               ⟨some 19, .bin .geq (.t 16) (.t 18), none⟩]) (
             (.cond (.t 19) (
              (.seq (
               .region [] [
                 ⟨some 4, .mv (.c (.int .i64 1)), none⟩]) (
               .ret))) (
              .skip))))) (
            (.seq (
             .region [] [
               ⟨some 20, .mv (.t 1), none⟩,
               ⟨some 21, .mv (.t 5), none⟩,
               ⟨some 22, .elemAddr 1 (.t 20) (.t 21), none⟩,
               ⟨some 23, .load false 1 (.t 22), none⟩,
               ⟨some 7, .mv (.t 23), none⟩]) (
             (.seq (
              .region [] [
                ⟨some 24, .mv (.t 6), none⟩,
                ⟨some 25, .mv (.t 7), none⟩,
                ⟨some 26, .call 0 (.c (.fn 38 [])) [(.t 24), (.t 25)], none⟩,
                ⟨some 8, .mv (.t 26), none⟩]) (
              (.seq (
               .region [] [
                 ⟨some 27, .mv (.t 8), none⟩,
                 ⟨some 28, .bin .neq (.t 27) (.c (.int .i64 0)), none⟩]) (
               (.cond (.t 28) (
                (.seq (
                 .region [] [
                   ⟨some 29, .mv (.t 8), none⟩,
                   ⟨some 4, .mv (.t 29), none⟩]) (
                 .ret))) (
                .skip))))))))))))))) (
         .region [] [
           ⟨some 30, .bin .add (.t 11) (.c (.int .i64 1)), none⟩,
           ⟨some 11, .mv (.t 30), none⟩]))))))))))))) (
   (.seq (
    (.seq (
     .region [] [
       ⟨some 31, .mv (.t 0), none⟩,
       ⟨some 32, .len (.t 31), none⟩,
       ⟨some 33, .mv (.t 1), none⟩,
       ⟨some 34, .len (.t 33), none⟩,
       ⟨some 35, .bin .lss (.t 32) (.t 34), none⟩]) (
     (.cond (.t 35) (
      (.seq (
       .region [] [
         ⟨some 4, .mv (.c (.int .i64 (-1))), none⟩]) (
       .ret))) (
      .skip))))) (
    (.seq (
     .region [] [
       ⟨some 4, .mv (.c (.int .i64 0)), none⟩]) (
     .ret))))))))⟩

def a35 : AFunc := ⟨[.tmp 2],
 (.seq (
  .region [] [
    ⟨some 2, .mv (.c (.int .i64 0)), none⟩]) (
  (.seq (
   (.block 0 (
    (.seq (
     .region [] [
       ⟨some 6, .mv (.t 0), none⟩,
       ⟨some 7, .len (.t 6), none⟩,
       ⟨some 8, .bin .eql (.t 7) (.c (.int .i64 0)), none⟩,
       ⟨some 5, .mv (.t 8), none⟩]) (
     (.cond (.t 5) (
      (.seq (
       .region [] [
         ⟨some 2, .mv (.c (.int .i64 4)), none⟩]) (
       .ret))) (
      (.seq (
       .region [] [
         ⟨some 10, .mv (.t 0), none⟩,
         ⟨some 11, .len (.t 10), none⟩,
         ⟨some 12, .bin .gtr (.t 11) (.c (.int .i64 1024)), none⟩,
         ⟨some 9, .mv (.t 12), none⟩]) (
       (.cond (.t 9) (
        (.seq (
         .region [] [
           ⟨some 2, .mv (.c (.int .i64 9)), none⟩]) (
         .ret))) (
        .skip))))))))))) (
   (.seq (
    (.seq (
     .region [] [
       ⟨some 13, .mv (.t 0), none⟩,
       ⟨some 14, .len (.t 13), none⟩,
       ⟨some 15, .mv (.c (.int .i64 0)), none⟩]) (
     (.block 1 (
      (.loop (
       (.seq (
        .region [] [
          ⟨some 16, .bin .lss (.t 15) (.t 14), none⟩]) (
        (.seq (
         (.cond (.t 16) (
          .skip) (
          .exit 1))) (
         (.seq (
          (.block 2 (
           (.seq (
            .region [] [
              ⟨some 17, .elemAddr 5 (.t 13) (.t 15), none⟩,
              ⟨some 18, .load true 5 (.t 17), none⟩,
              ⟨some 4, .alloc 1 [(.int .i64 0), (.int .i64 0), (.int .i64 0), (.int .i64 0), (.int .i64 0)], none⟩,
              ⟨none, .store 5 (.t 4) (.t 18), none⟩]) (
            (.seq (
             (.seq (
              .region [] [
                ⟨some 19, .fieldAddr 0 (.t 4), none⟩,
                ⟨some 20, .load false 1 (.t 19), none⟩,
                ⟨some 21, .call 0 (.c (.fn 24 [])) [(.t 20), (.c (.int .i64 0)), (.c (.int .i64 16777216))], none⟩,
                ⟨some 22, .not (.t 21), none⟩,
                ⟨some 23, .mv (.t 22), none⟩,
                ⟨some 24, .fieldAddr 3 (.t 4), some (23, false)⟩,
                ⟨some 25, .load false 1 (.t 24), some (23, false)⟩,
                ⟨some 26, .call 0 (.c (.fn 24 [])) [(.t 25), (.c (.int .i64 0)), (.c (.int .i64 16777216))], some (23, false)⟩,
                ⟨some 27, .not (.t 26), some (23, false)⟩,
                ⟨some 28, .pick (.t 23) (.c (.bool true)) (.t 27), none⟩,
                ⟨some 29, .mv (.t 28), none⟩,
                ⟨some 30, .fieldAddr 1 (.t 4), some (29, false)⟩,
                ⟨some 31, .load false 1 (.t 30), some (29, false)⟩,
                ⟨some 32, .fieldAddr 3 (.t 4), some (29, false)⟩,
                ⟨some 33, .load false 1 (.t 32), some (29, false)⟩,
                ⟨some 34, .call 0 (.c (.fn 24 [])) [(.t 31), (.t 33), (.c (.int .i64 16777216))], some (29, false)⟩,
                ⟨some 35, .not (.t 34), some (29, false)⟩,
                ⟨some 36, .pick (.t 29) (.c (.bool true)) (.t 35), none⟩,
                ⟨some 37, .mv (.t 36), none⟩,
                ⟨some 38, .fieldAddr 2 (.t 4), some (37, false)⟩,
                ⟨some 39, .load false 1 (.t 38), some (37, false)⟩,
                ⟨some 40, .fieldAddr 1 (.t 4), some (37, false)⟩,
                ⟨some 41, .load false 1 (.t 40), some (37, false)⟩,
                ⟨some 42, .call 0 (.c (.fn 24 [])) [(.t 39), (.t 41), (.c (.int .i64 16777216))], some (37, false)⟩,
                ⟨some 43, .not (.t 42), some (37, false)⟩,
                ⟨some 44, .pick (.t 37) (.c (.bool true)) (.t 43), none⟩]) (
              (.cond (.t 44) (
               (.seq (
                .region [] [
                  ⟨some 2, .mv (.c (.int .i64 2)), none⟩]) (
                .ret))) (
               .skip))))) (
             (.seq (
              .region [] [
                ⟨some 45, .fieldAddr 4 (.t 4), none⟩,
                ⟨some 46, .load false 1 (.t 45), none⟩,
                ⟨some 47, .call 0 (.c (.fn 24 [])) [(.t 46), (.c (.int .i64 0)), (.c (.int .i64 3))], none⟩,
                ⟨some 48, .not (.t 47), none⟩]) (
              (.cond (.t 48) (
               (.seq (
                .region [] [
                  ⟨some 2, .mv (.c (.int .i64 11)), none⟩]) (
                .ret))) (
               .skip))))))))))) (
          .region [] [
            ⟨some 49, .bin .add (.t 15) (.c (.int .i64 1)), none⟩,
            ⟨some 15, .mv (.t 49), none⟩]))))))))))))) (
    (.seq (
     .region [] [
       ⟨some 2, .mv (.c (.int .i64 0)), none⟩]) (
     .ret))))))))⟩

def a36 : AFunc := ⟨[.tmp 6],
 (.seq (
  .region [] [
    ⟨some 6, .mv (.c (.bool false)), none⟩]) (
  (.seq (
   .region [] [
     ⟨some 7, .mv (.c (.fn 39 [])), none⟩]) (
   (.seq (
    .region [] [
      ⟨some 8, .mv (.t 1), none⟩,
      ⟨some 9, .bin .eql (.t 8) (.c (.int .i64 0)), none⟩,
      ⟨some 10, .mv (.t 9), none⟩,
      ⟨some 11, .mv (.t 0), some (10, false)⟩,
      ⟨some 12, .mv (.t 1), some (10, false)⟩,
      ⟨some 13, .elemAddr 5 (.t 11) (.t 12), some (10, false)⟩,
      ⟨some 14, .fieldAddr 4 (.t 13), some (10, false)⟩,
      ⟨some 15, .load false 1 (.t 14), some (10, false)⟩,
      ⟨some 16, .bin .neq (.t 15) (.c (.int .i64 3)), some (10, false)⟩,
      ⟨some 17, .pick (.t 10) (.c (.bool true)) (.t 16), none⟩,
      ⟨some 18, .mv (.t 17), none⟩,
      ⟨some 19, .mv (.t 0), some (18, true)⟩,
      ⟨some 20, .mv (.t 1), some (18, true)⟩,
      ⟨some 21, .bin .add (.t 20) (.c (.int .i64 1)), some (18, true)⟩,
      ⟨some 22, .mv (.t 2), some (18, true)⟩,
      ⟨some 23, .bin .add (.t 22) (.c (.int .i64 1)), some (18, true)⟩,
      ⟨some 24, .sub 5 (.t 19) (some (.t 21)) (some (.t 23)) none, some (18, true)⟩,
      ⟨some 25, .mv (.t 7), some (18, true)⟩,
      ⟨some 26, .call 0 (.c (.fn 40 [])) [(.t 24), (.t 25)], some (18, true)⟩,
      ⟨some 27, .not (.t 26), some (18, true)⟩,
      ⟨some 28, .pick (.t 18) (.t 27) (.c (.bool false)), none⟩,
      ⟨some 6, .mv (.t 28), none⟩]) (
    .ret))))))⟩

def a37 : AFunc := ⟨[.tmp 6, .tmp 7],
 (.seq (
  .region [] [
    ⟨some 6, .mv (.c (.int .i64 0)), none⟩,
    ⟨some 7, .mv (.c (.int .i64 0)), none⟩]) (
  (.seq (
   .region [] [
     ⟨some 9, .mv (.t 0), none⟩,
     ⟨some 10, .mv (.t 1), none⟩,
     ⟨some 11, .elemAddr 5 (.t 9) (.t 10), none⟩,
     ⟨some 12, .fieldAddr 0 (.t 11), none⟩,
     ⟨some 13, .load false 1 (.t 12), none⟩,
     ⟨some 14, .mv (.t 0), none⟩,
     ⟨some 15, .mv (.t 1), none⟩,
     ⟨some 16, .elemAddr 5 (.t 14) (.t 15), none⟩,
     ⟨some 17, .fieldAddr 3 (.t 16), none⟩,
     ⟨some 18, .load false 1 (.t 17), none⟩,
     ⟨some 19, .bin .sub (.t 13) (.t 18), none⟩,
     ⟨some 20, .mv (.t 0), none⟩,
     ⟨some 21, .mv (.t 1), none⟩,
     ⟨some 22, .elemAddr 5 (.t 20) (.t 21), none⟩,
     ⟨some 23, .fieldAddr 0 (.t 22), none⟩,
     ⟨some 24, .load false 1 (.t 23), none⟩,
     ⟨some 25, .mv (.t 0), none⟩,
     ⟨some 26, .mv (.t 1), none⟩,
     ⟨some 27, .elemAddr 5 (.t 25) (.t 26), none⟩,
     ⟨some 28, .fieldAddr 3 (.t 27), none⟩,
     ⟨some 29, .load false 1 (.t 28), none⟩,
     ⟨some 30, .bin .sub (.t 24) (.t 29), none⟩,
     ⟨some 6, .mv (.t 19), none⟩,
     ⟨some 7, .mv (.t 30), none⟩]) (
   (.seq (
    (.seq (
     .region [] [
       ⟨some 31, .mv (.t 1), none⟩,
       ⟨some 8, .mv (.t 31), none⟩]) (
     (.block 0 (
      (.loop (
       (.seq (
        (.seq (
         .region [] [
           ⟨some 32, .mv (.t 8), none⟩,
           ⟨some 33, .mv (.t 2), none⟩,
           ⟨some 34, .bin .leq (.t 32) (.t 33), none⟩]) (
         (.cond (.t 34) (
          .skip) (
          .exit 0))))) (
        (.seq (
         (.block 1 (
          .region [] [
            ⟨some 37, .mv (.t 6), none⟩,
            ⟨some 38, .mv (.t 0), none⟩,
            ⟨some 39, .mv (.t 8), none⟩,
            ⟨some 40, .elemAddr 5 (.t 38) (.t 39), none⟩,
            ⟨some 41, .fieldAddr 1 (.t 40), none⟩,
            ⟨some 42, .load false 1 (.t 41), none⟩,
            ⟨some 43, .bin .add (.t 37) (.t 42), none⟩,
            ⟨some 44, .mv (.t 7), none⟩,
            ⟨some 45, .mv (.t 0), none⟩,
            ⟨some 46, .mv (.t 8), none⟩,
            ⟨some 47, .elemAddr 5 (.t 45) (.t 46), none⟩,
            ⟨some 48, .fieldAddr 2 (.t 47), none⟩,
            ⟨some 49, .load false 1 (.t 48), none⟩,
            ⟨some 50, .bin .add (.t 44) (.t 49), none⟩,
            ⟨some 6, .mv (.t 43), none⟩,
            ⟨some 7, .mv (.t 50), none⟩]))) (
         .region [] [
           ⟨some 35, .mv (.t 8), none⟩,
           ⟨some 36, .bin .add (.t 35) (.c (.int .i64 1)), none⟩,
           ⟨some 8, .mv (.t 36), none⟩]))))))))))) (
    (.seq (
     .region [] [
       ⟨some 51, .mv (.t 6), none⟩,
       ⟨some 52, .mv (.t 7), none⟩,
       ⟨some 6, .mv (.t 51), none⟩,
       ⟨some 7, .mv (.t 52), none⟩]) (
     .ret))))))))⟩

def a38 : AFunc := ⟨[.tmp 4],
 (.seq (
  .region [] [
    ⟨some 4, .mv (.c (.int .i64 0)), none⟩]) (
  (.seq (
   .region [] [
     ⟨some 7, .mv (.t 0), none⟩,
     ⟨some 8, .call 0 (.c (.fn 41 [])) [(.t 7)], none⟩,
     ⟨some 5, .mv (.t 8), none⟩]) (
   (.seq (
    .region [] [
      ⟨some 9, .mv (.t 1), none⟩,
      ⟨some 10, .call 0 (.c (.fn 41 [])) [(.t 9)], none⟩,
      ⟨some 6, .mv (.t 10), none⟩]) (
    (.seq (
     (.seq (
      .region [] [
        ⟨some 11, .mv (.t 5), none⟩]) (
      (.cond (.t 11) (
       (.seq (
        (.seq (
         .region [] [
           ⟨some 12, .mv (.t 6), none⟩]) (
         (.cond (.t 12) (
          (.seq (
           .region [] [
             ⟨some 4, .mv (.c (.int .i64 0)), none⟩]) (
           .ret))) (
          .skip))))) (
        (.seq (
         .region [] [
           ⟨some 4, .mv (.c (.int .i64 (-1))), none⟩]) (
         .ret))))) (
       .skip))))) (
     (.seq (
      (.seq (
       .region [] [
         ⟨some 13, .mv (.t 6), none⟩]) (
       (.cond (.t 13) (
        (.seq (
         .region [] [
           ⟨some 4, .mv (.c (.int .i64 1)), none⟩]) (
         .ret))) (
        .skip))))) (
      (.seq (
       (.seq (
        .region [] [
          ⟨some 14, .mv (.t 0), none⟩,
          ⟨some 15, .mv (.t 1), none⟩,
          ⟨some 16, .bin .lss (.t 14) (.t 15), none⟩]) (
        (.cond (.t 16) (
         (.seq (
          .region [] [
            ⟨some 4, .mv (.c (.int .i64 (-1))), none⟩]) (
          .ret))) (
         .skip))))) (
       (.seq (
        (.seq (
         .region [] [
           ⟨some 17, .mv (.t 0), none⟩,
           ⟨some 18, .mv (.t 1), none⟩,
           ⟨some 19, .bin .gtr (.t 17) (.t 18), none⟩]) (
         (.cond (.t 19) (
          (.seq (
           .region [] [
             ⟨some 4, .mv (.c (.int .i64 1)), none⟩]) (
           .ret))) (
          .skip))))) (
        (.seq (
         .region [] [
           ⟨some 4, .mv (.c (.int .i64 0)), none⟩]) (
         .ret))))))))))))))))⟩

def a39 : AFunc := ⟨[.tmp 2],
 (.seq (
  .region [] [
    ⟨some 1, .box 1 (.t 0), none⟩,
    ⟨some 2, .mv (.c (.bool false)), none⟩]) (
  (.seq (
   .region [] [
     ⟨some 3, .fieldAddr 4 (.t 1), none⟩,
     ⟨some 4, .load false 1 (.t 3), none⟩,
     ⟨some 5, .bin .eql (.t 4) (.c (.int .i64 1)), none⟩,
     ⟨some 6, .mv (.t 5), none⟩,
     ⟨some 7, .fieldAddr 4 (.t 1), some (6, false)⟩,
     ⟨some 8, .load false 1 (.t 7), some (6, false)⟩,
     ⟨some 9, .bin .eql (.t 8) (.c (.int .i64 2)), some (6, false)⟩,
     ⟨some 10, .pick (.t 6) (.c (.bool true)) (.t 9), none⟩,
     ⟨some 2, .mv (.t 10), none⟩]) (
   .ret))))⟩

def a40 : AFunc := ⟨[.tmp 4],
 (.seq (
  .region [] [
    ⟨some 4, .mv (.c (.bool false)), none⟩]) (
  (.seq (
   .region [] [
     ⟨some 5, .mv (.t 0), none⟩,
     ⟨some 6, .mv (.t 1), none⟩,
     ⟨some 7, .call 0 (.c (.fn 42 [])) [(.t 5), (.t 6)], none⟩,
     ⟨some 8, .bin .geq (.t 7) (.c (.int .i64 0)), none⟩,
     ⟨some 4, .mv (.t 8), none⟩]) (
   .ret))))⟩

def a41 : AFunc := ⟨[.tmp 2],
 (.seq (
  .region [] [
    ⟨some 2, .mv (.c (.bool false)), none⟩]) (
  (.seq (
   .region [] [
     ⟨some 3, .mv (.t 0), none⟩,
     ⟨some 4, .mv (.t 0), none⟩,
     ⟨some 5, .bin .neq (.t 3) (.t 4), none⟩,
     ⟨some 2, .mv (.t 5), none⟩]) (
   .ret))))⟩

def a42 : AFunc := ⟨[.tmp 4],
 (.seq (
  .region [] [
    ⟨some 4, .mv (.c (.int .i64 0)), none⟩]) (
  (.seq (
   (.seq (
    .region [] [
      ⟨some 6, .mv (.t 0), none⟩,
      ⟨some 7, .len (.t 6), none⟩,
      ⟨some 8, .mv (.c (.int .i64 0)), none⟩]) (
    (.block 0 (
     (.loop (
      (.seq (
       .region [] [
         ⟨some 9, .bin .lss (.t 8) (.t 7), none⟩]) (
       (.seq (
        (.cond (.t 9) (
         .skip) (
         .exit 0))) (
        (.seq (
         (.block 1 (
          (.seq (
           .region [] [
             ⟨some 10, .mv (.t 8), none⟩,
             ⟨some 5, .mv (.t 10), none⟩]) (
           (.seq (
            .region [] [
              ⟨some 11, .mv (.t 1), none⟩,
              ⟨some 12, .mv (.t 0), none⟩,
              ⟨some 13, .mv (.t 5), none⟩,
              ⟨some 14, .elemAddr 5 (.t 12) (.t 13), none⟩,
              ⟨some 15, .load true 5 (.t 14), none⟩,
              ⟨some 16, .call 0 (.t 11) [(.t 15)], none⟩]) (
            (.cond (.t 16) (
             (.seq (
              .region [] [
                ⟨some 17, .mv (.t 5), none⟩,
                ⟨some 4, .mv (.t 17), none⟩]) (
              .ret))) (
             .skip))))))))) (
         .region [] [
           ⟨some 18, .bin .add (.t 8) (.c (.int .i64 1)), none⟩,
           ⟨some 8, .mv (.t 18), none⟩]))))))))))))) (
   (.seq (
    .region [] [
      ⟨some 4, .mv (.c (.int .i64 (-1))), none⟩]) (
    .ret))))))⟩


def tbl : Tbl := fun f =>
  match f with
  | 2 => some a2
  | 3 => some a3
  | 4 => some a4
  | 5 => some a5
  | 6 => some a6
  | 7 => some a7
  | 8 => some a8
  | 9 => some a9
  | 10 => some a10
  | 11 => some a11
  | 12 => some a12
  | 13 => some a13
  | 14 => some a14
  | 15 => some a15
  | 16 => some a16
  | 17 => some a17
  | 18 => some a18
  | 19 => some a19
  | 20 => some a20
  | 21 => some a21
  | 22 => some a22
  | 23 => some a23
  | 24 => some a24
  | 25 => some a25
  | 26 => some a26
  | 27 => some a27
  | 28 => some a28
  | 29 => some a29
  | 30 => some a30
  | 31 => some a31
  | 32 => some a32
  | 33 => some a33
  | 34 => some a34
  | 35 => some a35
  | 36 => some a36
  | 37 => some a37
  | 38 => some a38
  | 39 => some a39
  | 40 => some a40
  | 41 => some a41
  | 42 => some a42
  | _ => none

theorem ok2 : cFunc Try.prog 0 Try.f2 = some a2 := by kernel_rfl
theorem ok3 : cFunc Try.prog 0 Try.f3 = some a3 := by kernel_rfl
theorem ok4 : cFunc Try.prog 0 Try.f4 = some a4 := by kernel_rfl
theorem ok5 : cFunc Try.prog 0 Try.f5 = some a5 := by kernel_rfl
theorem ok6 : cFunc Try.prog 0 Try.f6 = some a6 := by kernel_rfl
theorem ok7 : cFunc Try.prog 0 Try.f7 = some a7 := by kernel_rfl
theorem ok8 : cFunc Try.prog 0 Try.f8 = some a8 := by kernel_rfl
theorem ok9 : cFunc Try.prog 0 Try.f9 = some a9 := by kernel_rfl
theorem ok10 : cFunc Try.prog 0 Try.f10 = some a10 := by kernel_rfl
theorem ok11 : cFunc Try.prog 0 Try.f11 = some a11 := by kernel_rfl
theorem ok12 : cFunc Try.prog 0 Try.f12 = some a12 := by kernel_rfl
theorem ok13 : cFunc Try.prog 0 Try.f13 = some a13 := by kernel_rfl
theorem ok14 : cFunc Try.prog 0 Try.f14 = some a14 := by kernel_rfl
theorem ok15 : cFunc Try.prog 0 Try.f15 = some a15 := by kernel_rfl
theorem ok16 : cFunc Try.prog 0 Try.f16 = some a16 := by kernel_rfl
theorem ok17 : cFunc Try.prog 0 Try.f17 = some a17 := by kernel_rfl
theorem ok18 : cFunc Try.prog 0 Try.f18 = some a18 := by kernel_rfl
theorem ok19 : cFunc Try.prog 0 Try.f19 = some a19 := by kernel_rfl
theorem ok20 : cFunc Try.prog 0 Try.f20 = some a20 := by kernel_rfl
theorem ok21 : cFunc Try.prog 0 Try.f21 = some a21 := by kernel_rfl
theorem ok22 : cFunc Try.prog 0 Try.f22 = some a22 := by kernel_rfl
theorem ok23 : cFunc Try.prog 0 Try.f23 = some a23 := by kernel_rfl
theorem ok24 : cFunc Try.prog 0 Try.f24 = some a24 := by kernel_rfl
theorem ok25 : cFunc Try.prog 0 Try.f25 = some a25 := by kernel_rfl
theorem ok26 : cFunc Try.prog 0 Try.f26 = some a26 := by kernel_rfl
theorem ok27 : cFunc Try.prog 0 Try.f27 = some a27 := by kernel_rfl
theorem ok28 : cFunc Try.prog 0 Try.f28 = some a28 := by kernel_rfl
theorem ok29 : cFunc Try.prog 0 Try.f29 = some a29 := by kernel_rfl
theorem ok30 : cFunc Try.prog 0 Try.f30 = some a30 := by kernel_rfl
theorem ok31 : cFunc Try.prog 0 Try.f31 = some a31 := by kernel_rfl
theorem ok32 : cFunc Try.prog 0 Try.f32 = some a32 := by kernel_rfl
theorem ok33 : cFunc Try.prog 0 Try.f33 = some a33 := by kernel_rfl
theorem ok34 : cFunc Try.prog 0 Try.f34 = some a34 := by kernel_rfl
theorem ok35 : cFunc Try.prog 0 Try.f35 = some a35 := by kernel_rfl
theorem ok36 : cFunc Try.prog 0 Try.f36 = some a36 := by kernel_rfl
theorem ok37 : cFunc Try.prog 0 Try.f37 = some a37 := by kernel_rfl
theorem ok38 : cFunc Try.prog 0 Try.f38 = some a38 := by kernel_rfl
theorem ok39 : cFunc Try.prog 0 Try.f39 = some a39 := by kernel_rfl
theorem ok40 : cFunc Try.prog 0 Try.f40 = some a40 := by kernel_rfl
theorem ok41 : cFunc Try.prog 0 Try.f41 = some a41 := by kernel_rfl
theorem ok42 : cFunc Try.prog 0 Try.f42 = some a42 := by kernel_rfl

theorem tbl_ok : TblOk Try.prog tbl := by
  intro f af h
  unfold tbl at h
  split at h
  · cases h; exact ⟨_, _, Try.func2, ok2⟩
  · cases h; exact ⟨_, _, Try.func3, ok3⟩
  · cases h; exact ⟨_, _, Try.func4, ok4⟩
  · cases h; exact ⟨_, _, Try.func5, ok5⟩
  · cases h; exact ⟨_, _, Try.func6, ok6⟩
  · cases h; exact ⟨_, _, Try.func7, ok7⟩
  · cases h; exact ⟨_, _, Try.func8, ok8⟩
  · cases h; exact ⟨_, _, Try.func9, ok9⟩
  · cases h; exact ⟨_, _, Try.func10, ok10⟩
  · cases h; exact ⟨_, _, Try.func11, ok11⟩
  · cases h; exact ⟨_, _, Try.func12, ok12⟩
  · cases h; exact ⟨_, _, Try.func13, ok13⟩
  · cases h; exact ⟨_, _, Try.func14, ok14⟩
  · cases h; exact ⟨_, _, Try.func15, ok15⟩
  · cases h; exact ⟨_, _, Try.func16, ok16⟩
  · cases h; exact ⟨_, _, Try.func17, ok17⟩
  · cases h; exact ⟨_, _, Try.func18, ok18⟩
  · cases h; exact ⟨_, _, Try.func19, ok19⟩
  · cases h; exact ⟨_, _, Try.func20, ok20⟩
  · cases h; exact ⟨_, _, Try.func21, ok21⟩
  · cases h; exact ⟨_, _, Try.func22, ok22⟩
  · cases h; exact ⟨_, _, Try.func23, ok23⟩
  · cases h; exact ⟨_, _, Try.func24, ok24⟩
  · cases h; exact ⟨_, _, Try.func25, ok25⟩
  · cases h; exact ⟨_, _, Try.func26, ok26⟩
  · cases h; exact ⟨_, _, Try.func27, ok27⟩
  · cases h; exact ⟨_, _, Try.func28, ok28⟩
  · cases h; exact ⟨_, _, Try.func29, ok29⟩
  · cases h; exact ⟨_, _, Try.func30, ok30⟩
  · cases h; exact ⟨_, _, Try.func31, ok31⟩
  · cases h; exact ⟨_, _, Try.func32, ok32⟩
  · cases h; exact ⟨_, _, Try.func33, ok33⟩
  · cases h; exact ⟨_, _, Try.func34, ok34⟩
  · cases h; exact ⟨_, _, Try.func35, ok35⟩
  · cases h; exact ⟨_, _, Try.func36, ok36⟩
  · cases h; exact ⟨_, _, Try.func37, ok37⟩
  · cases h; exact ⟨_, _, Try.func38, ok38⟩
  · cases h; exact ⟨_, _, Try.func39, ok39⟩
  · cases h; exact ⟨_, _, Try.func40, ok40⟩
  · cases h; exact ⟨_, _, Try.func41, ok41⟩
  · cases h; exact ⟨_, _, Try.func42, ok42⟩
  · cases h

theorem mixed : Try.prog.follows .mixedOrders = true := by kernel_rfl

theorem sound : SoundCall Try.prog (call tbl) := call_sound mixed tbl_ok

end Go.Proofs.Ytdgifbmimfnmlaa
